/-
  LexPlaces as a plain statement: a text's tokens stand one behind the other, blanks and comments between them; an error's place is in the text. No conditions but each theorem's own.
-/
import Derived.Test.YtkcjlagaaekhjaaDoorXdx2
import Derived.Test.YtkcjlagaaekhjaaDoorLex3
import Derived.Lib.CutLaws
set_option linter.unusedVariables false
set_option linter.unusedSimpArgs false
namespace Go.Proofs.YtkcjlagaaekhjaaDoor.LexT
open Go.RowKit Go.Proofs.YtkcjlagaaekhjaaDoor.X Go.Proofs.YtkcjlagaaekhjaaDoorW.PrintWords LexS LexP LexR

/-! ### Blanks and comments alone -/
/-- Is a text of blanks and comments alone (true: it begins in a comment)? -/
def cleanW : Bool → List UInt8 → Bool
  | _, [] => true
  | false, c :: l => if isB c = true then cleanW false l else if c.toNat = 37 then cleanW true l else false
  | true, c :: l => if isN c = true then cleanW true l else cleanW false l
theorem clean_skip : ∀ (b : Bool) (l : List UInt8), cleanW b (l.take (skipW b l)) = true
  | b, [] => by cases b <;> rfl
  | false, c :: l => by
    have h1 := clean_skip false l
    have h2 := clean_skip true l
    by_cases hb : isB c = true
    · simp only [skipW, if_pos hb, Nat.add_comm 1, List.take_succ_cons, cleanW]
      exact h1
    · by_cases hp : c.toNat = 37
      · simp only [skipW, if_neg hb, if_pos hp, Nat.add_comm 1, List.take_succ_cons, cleanW]
        exact h2
      · simp only [skipW, if_neg hb, if_neg hp, List.take_zero]
        rfl
  | true, c :: l => by
    have h1 := clean_skip false l
    have h2 := clean_skip true l
    by_cases hn : isN c = true
    · simp only [skipW, if_pos hn, Nat.add_comm 1, List.take_succ_cons, cleanW]
      exact h2
    · simp only [skipW, if_neg hn, Nat.add_comm 1, List.take_succ_cons, cleanW]
      exact h1
def isT (c : UInt8) : Bool := c.toNat == 32 || c.toNat == 9 || c.toNat == 13
/-- A line: blanks up to a comment, if there is one. -/
def okL : List UInt8 → Bool
  | [] => true
  | c :: l => if c.toNat = 37 then true else isT c && okL l
theorem clean_com : ∀ (l r : List UInt8), (∀ c ∈ l, c.toNat ≠ 10) → cleanW true (l ++ 10 :: r) = cleanW false r
  | [], r, _ => by
    show (if isN 10 = true then _ else cleanW false r) = _
    rw [if_neg (by decide)]
  | c :: l, r, h => by
    have hc : isN c = true := by simp [isN, h c (by simp)]
    show (if isN c = true then cleanW true (l ++ 10 :: r) else _) = _
    rw [if_pos hc, clean_com l r (fun x hx => h x (by simp [hx]))]
theorem clean_line : ∀ (l r : List UInt8), (∀ c ∈ l, c.toNat ≠ 10) → cleanW false (l ++ 10 :: r) = true → okL l = true ∧ cleanW false r = true
  | [], r, _, h => by
    have h1 : (if isB 10 = true then cleanW false r else _) = true := h
    rw [if_pos (by decide)] at h1
    exact ⟨rfl, h1⟩
  | c :: l, r, h, hc => by
    have h10 := h c (by simp)
    have hl : ∀ x ∈ l, x.toNat ≠ 10 := fun x hx => h x (by simp [hx])
    have h1 : (if isB c = true then cleanW false (l ++ 10 :: r) else if c.toNat = 37 then cleanW true (l ++ 10 :: r) else false) = true := hc
    by_cases hb : isB c = true
    · rw [if_pos hb] at h1
      obtain ⟨a, b⟩ := clean_line l r hl h1
      refine ⟨?_, b⟩
      have ht : isT c = true := by simp [isB] at hb; simp [isT]; omega
      rw [okL, ht, a]
      simp
    · rw [if_neg hb] at h1
      by_cases hp : c.toNat = 37
      · rw [if_pos hp, clean_com l r hl] at h1
        refine ⟨?_, h1⟩
        rw [okL, if_pos hp]
      · rw [if_neg hp] at h1
        cases h1
theorem clean_last : ∀ (l : List UInt8), (∀ c ∈ l, c.toNat ≠ 10) → cleanW false l = true → okL l = true
  | [], _, h => rfl
  | c :: l, h, hc => by
    have h10 := h c (by simp)
    have hl : ∀ x ∈ l, x.toNat ≠ 10 := fun x hx => h x (by simp [hx])
    have h1 : (if isB c = true then cleanW false l else if c.toNat = 37 then cleanW true l else false) = true := hc
    by_cases hb : isB c = true
    · rw [if_pos hb] at h1
      have ht : isT c = true := by simp [isB] at hb; simp [isT]; omega
      rw [okL, ht, clean_last l hl h1]
      simp
    · rw [if_neg hb] at h1
      by_cases hp : c.toNat = 37
      · rw [okL, if_pos hp]
      · rw [if_neg hp] at h1
        cases h1
/-- A byte that stands nowhere before its place. -/
theorem index_parts (c : UInt8) : ∀ (l : List UInt8) (i : Nat), Lib.indexByte l c = (i : Int) → (∀ x ∈ l.take i, x ≠ c) ∧ ∃ r, l = l.take i ++ c :: r
  | [], i, h => by simp [Lib.indexByte] at h
  | b :: l, i, h => by
    rw [Lib.indexByte] at h
    by_cases hb : (b == c) = true
    · rw [if_pos hb] at h
      obtain rfl : i = 0 := by omega
      exact ⟨by simp, l, by rw [List.take_zero, List.nil_append, beq_iff_eq.1 hb]⟩
    · rw [if_neg hb] at h
      by_cases hm : (Lib.indexByte l c == -1) = true
      · rw [if_pos hm] at h; omega
      · rw [if_neg hm] at h
        obtain ⟨j, rfl⟩ : ∃ j, i = j + 1 := ⟨i - 1, by have := Lib.indexByte_ge l c; have : ¬ Lib.indexByte l c = -1 := fun e => hm (beq_iff_eq.2 e); omega⟩
        obtain ⟨h1, r, h2⟩ := index_parts c l j (by omega)
        refine ⟨fun x hx => ?_, r, ?_⟩
        · rw [List.take_succ_cons] at hx
          rcases List.mem_cons.1 hx with rfl | hx
          · exact fun e => hb (beq_iff_eq.2 e)
          · exact h1 x hx
        · rw [List.take_succ_cons, List.cons_append, ← h2]
theorem index_none (c : UInt8) : ∀ (l : List UInt8), Lib.indexByte l c = -1 → ∀ x ∈ l, x ≠ c
  | [], _, x, hx => by cases hx
  | b :: l, h, x, hx => by
    rw [Lib.indexByte] at h
    by_cases hb : (b == c) = true
    · rw [if_pos hb] at h; omega
    · rw [if_neg hb] at h
      by_cases hm : (Lib.indexByte l c == -1) = true
      · rcases List.mem_cons.1 hx with rfl | hx
        · exact fun e => hb (beq_iff_eq.2 e)
        · exact index_none c l (beq_iff_eq.1 hm) x hx
      · rw [if_neg hm] at h
        have := Lib.indexByte_ge l c
        omega
theorem dropWhile_all (p : UInt8 → Bool) : ∀ l : List UInt8, (∀ x ∈ l, p x = true) → l.dropWhile p = []
  | [], _ => rfl
  | c :: l, h => by
    rw [List.dropWhile_cons, if_pos (h c (by simp))]
    exact dropWhile_all p l (fun x hx => h x (by simp [hx]))
theorem trim_all (l cs : List UInt8) (h : ∀ x ∈ l, cs.contains x = true) : Lib.trimS l cs = [] := by
  have h1 : l.reverse.dropWhile (cs.contains ·) = [] := dropWhile_all _ _ (fun x hx => h x (List.mem_reverse.1 hx))
  unfold Lib.trimS Lib.trimRightS
  rw [h1]
  rfl
def bl3 : List UInt8 := [32, 9, 13]
theorem isT_bl3 (c : UInt8) (h : isT c = true) : bl3.contains c = true := by
  simp [isT] at h
  have h3 : c = 32 ∨ c = 9 ∨ c = 13 := by
    rcases h with (h | h) | h
    · exact Or.inl (UInt8.toNat_inj.1 h)
    · exact Or.inr (Or.inl (UInt8.toNat_inj.1 h))
    · exact Or.inr (Or.inr (UInt8.toNat_inj.1 h))
  rcases h3 with rfl | rfl | rfl <;> decide
theorem okL_none : ∀ (l : List UInt8), okL l = true → (∀ x ∈ l, x.toNat ≠ 37) → ∀ x ∈ l, bl3.contains x = true
  | [], _, _, x, hx => by cases hx
  | c :: l, h, hn, x, hx => by
    rw [okL, if_neg (hn c (by simp)), Bool.and_eq_true] at h
    rcases List.mem_cons.1 hx with rfl | hx
    · exact isT_bl3 _ h.1
    · exact okL_none l h.2 (fun y hy => hn y (by simp [hy])) x hx
theorem okL_some : ∀ (l r : List UInt8), okL (l ++ 37 :: r) = true → (∀ x ∈ l, x.toNat ≠ 37) → ∀ x ∈ l, bl3.contains x = true
  | [], _, _, _, x, hx => by cases hx
  | c :: l, r, h, hn, x, hx => by
    rw [List.cons_append, okL, if_neg (hn c (by simp)), Bool.and_eq_true] at h
    rcases List.mem_cons.1 hx with rfl | hx
    · exact isT_bl3 _ h.1
    · exact okL_some l r h.2 (fun y hy => hn y (by simp [hy])) x hx
theorem ne37 {x : UInt8} (h : x ≠ 37) : x.toNat ≠ 37 := fun e => h (UInt8.toNat_inj.1 e)
theorem ne10 {x : UInt8} (h : x ≠ 10) : x.toNat ≠ 10 := fun e => h (UInt8.toNat_inj.1 e)
def nl : ByteArray := ⟨#[10]⟩
def Good (x : ByteArray) : Prop := okL (tl x) = true ∧ x.size ≤ 2000000
theorem index_nl (s : ByteArray) : Lib.indexB s nl = Lib.indexByte (tl s) 10 := Lib.index_one (tl s) 10
/-- Each line of such a text is one of blanks, up to a comment. -/
theorem lines_good : ∀ (k : Nat) (s : ByteArray), Lib.countB s nl = k → s.size ≤ 2000000 → cleanW false (tl s) = true → ∀ x ∈ Lib.splitB nl 0 k s, Good x := by
  intro k
  induction k with
  | zero =>
    intro s hk hs hc x hx
    rw [Lib.splitB_zero, List.mem_singleton] at hx
    subst hx
    refine ⟨clean_last _ (fun c hcm => ?_) hc, hs⟩
    rcases Lib.indexB_cases x nl with hix | ⟨i, hix, _⟩
    · rw [index_nl] at hix
      exact ne10 (index_none 10 _ hix c hcm)
    · have := Lib.countB_hit x nl i (by decide) hix
      omega
  | succ k ih =>
    intro s hk hs hc x hx
    rcases Lib.indexB_cases s nl with hix | ⟨i, hix, hroom⟩
    · have := Lib.countB_miss s nl hix
      omega
    · rw [Lib.splitB_hit nl 0 k s i hix] at hx
      have hcnt := Lib.countB_hit s nl i (by decide) hix
      rw [index_nl] at hix
      obtain ⟨h1, r, h2⟩ := index_parts 10 (tl s) i hix
      have hc2 := hc
      rw [h2] at hc2
      obtain ⟨h3, h4⟩ := clean_line _ r (fun c hcm => ne10 (h1 c hcm)) hc2
      have hlen : ((tl s).take i).length = i := by
        have := congrArg List.length h2
        simp only [List.length_append, List.length_cons, List.length_take] at this ⊢
        omega
      have hd : tl (s.extract (i + nl.size) s.size) = r := by
        rw [tl_suffix]
        show (tl s).drop (i + 1) = r
        rw [h2, ← List.drop_drop, List.drop_left' hlen]
        rfl
      rcases List.mem_cons.1 hx with rfl | hx
      · refine ⟨?_, ?_⟩
        · rw [Nat.add_zero, tl_prefix]; exact h3
        · rw [Nat.add_zero, ← tl_length, tl_prefix, List.length_take, tl_length]; omega
      · exact ih _ (by omega) (by rw [size_suffix]; omega) (by rw [hd]; exact h4) x hx
theorem Trim_f (s : ByteArray) (hs : s.size ≤ 2000000) (h : ∀ x ∈ tl s, bl3.contains x = true) : strings_Trim.f s (⟨#[32, 9, 13]⟩ : ByteArray) = some (⟨#[]⟩ : ByteArray) := by
  unfold strings_Trim.f
  rw [if_pos ⟨by omega, by decide, by decide⟩]
  refine congrArg some ?_
  rw [show Lib.trimS s.data.toList (⟨#[32, 9, 13]⟩ : ByteArray).data.toList = [] from trim_all (tl s) bl3 h]
theorem empty_loop (L : List ByteArray) (hg : ∀ x ∈ L, Good x) (hL : L.length ≤ 4000000) : ∀ (d i : Nat), L.length - i < d → Ev (fun k => jigsawlaw05_empty.l0 k L (L.length : Int) (i : Int)) true := by
  intro d
  induction d with
  | zero => exact fun _ h => absurd h (by omega)
  | succ d ihd =>
    intro i hd
    by_cases hlt : i < L.length
    · have w1 : Hid (wrap64 ((i : Int) + 1) = ((i + 1 : Nat) : Int)) := by show wrap64 ((i : Int) + 1) = ((i + 1 : Nat) : Int); unfold wrap64; omega
      have hr : rdOf ByteArray.empty L (i : Int) = L[i] := by
        unfold rdOf
        rw [Int.toNat_natCast, List.getD_eq_getElem?_getD, List.getElem?_eq_getElem hlt]
        rfl
      obtain ⟨x, ex⟩ : ∃ x, L[i] = x := ⟨_, rfl⟩
      have hx : Good x := by rw [← ex]; exact hg _ (List.getElem_mem hlt)
      rw [ex] at hr
      obtain ⟨hok, hsz⟩ := hx
      refine Ev.step (f := fun k => jigsawlaw05_empty.l0 k L (L.length : Int) ((i + 1 : Nat) : Int)) (fun k => ?_) (ihd (i + 1) (by omega))
      simp only [jigsawlaw05_empty.l0]
      rw [hr, w1.out, if_pos (by omega), if_pos (by omega), if_pos (by omega)]
      show (some (Lib.indexByte (tl x) 37)).bind _ = _
      rw [Option.bind_some]
      have hge := Lib.indexByte_ge (tl x) 37
      obtain ⟨v, ev⟩ : ∃ v, Lib.indexByte (tl x) 37 = v := ⟨_, rfl⟩
      rw [ev] at hge ⊢
      by_cases h0 : 0 ≤ v
      · obtain ⟨j, rfl⟩ : ∃ j : Nat, v = (j : Int) := ⟨v.toNat, by omega⟩
        obtain ⟨h1, r, h2⟩ := index_parts 37 (tl x) j ev
        have hj : j ≤ x.size := by
          have := congrArg List.length h2
          simp only [List.length_append, List.length_cons, List.length_take, tl_length] at this
          omega
        have hok2 := hok
        rw [h2] at hok2
        have hT := Trim_f (x.extract 0 j) (by rw [← tl_length, tl_prefix, List.length_take, tl_length]; omega) (by
          rw [tl_prefix]
          exact okL_some _ r hok2 (fun y hy => ne37 (h1 y hy)))
        rw [if_pos (by omega), if_pos (by omega), if_pos (by omega), Int.toNat_natCast, hT, Option.bind_some, if_pos (by rw [Lib.toList_data])]
      · have hm : v = -1 := by omega
        subst hm
        have hT := Trim_f x hsz (okL_none _ hok (fun y hy => ne37 (index_none 37 _ ev y hy)))
        rw [if_neg (by omega), hT, Option.bind_some, if_pos (by rw [Lib.toList_data])]
    · refine Ev.step (f := fun _ => some true) (fun k => ?_) (Ev.now _)
      simp only [jigsawlaw05_empty.l0]
      rw [if_neg (by omega)]
theorem empty_ev (s : ByteArray) (hs : s.size ≤ 2000000) (hc : cleanW false (tl s) = true) : Ev (fun k => jigsawlaw05_empty.f k s) true := by
  have hlen := Lib.splitB_all nl (by decide) 0 (Lib.countB s nl) s rfl
  have hle := Lib.countB_le nl (by decide) s.size s (Nat.le_refl _)
  unfold jigsawlaw05_empty.f
  have hS : strings_Split.f s (⟨#[10]⟩ : ByteArray) = some (Lib.splitB nl 0 (Lib.countB s nl) s) := by
    unfold strings_Split.f
    rw [if_pos ⟨by omega, by decide⟩]
    rfl
  refine Ev.congr (fun k => ?_) (empty_loop (Lib.splitB nl 0 (Lib.countB s nl) s) (lines_good _ s rfl hs hc) (by omega) ((Lib.splitB nl 0 (Lib.countB s nl) s).length + 1) 0 (by omega))
  rw [hS, Option.bind_some]
  rfl

/-! ### Where the tokens stand -/
theorem tok_bad (l : List UInt8) (e : Int) (h : tok l = .bad e) : e ≠ 0 := by
  have h6 : ∀ x : Int, Tk.bad 6 = .bad x → x ≠ 0 := fun x hx => by injection hx with hx; omega
  have h15 : ∀ x : Int, Tk.bad 15 = .bad x → x ≠ 0 := fun x hx => by injection hx with hx; omega
  cases l with
  | nil => exact h6 e h
  | cons c r =>
    rw [tok] at h
    repeat' split at h
    all_goals first | exact h6 e h | exact h15 e h | cases h
/-- From p on, one token behind the other, blanks and comments between them and behind the last. -/
def row (X : List UInt8) : Nat → List T → Prop
  | p, [] => p ≤ X.length ∧ cleanW false (X.drop p) = true
  | p, t :: L => p ≤ t.at_ ∧ t.text ≠ [] ∧ t.at_ + t.text.length ≤ X.length ∧ (X.drop t.at_).take t.text.length = t.text ∧ cleanW false ((X.drop p).take (t.at_ - p)) = true ∧ row X (t.at_ + t.text.length) L
/-- What a run from at_ adds to what is there. -/
theorem lexF_row (X : List UInt8) : ∀ (f p at_ : Nat) (acc : List T) (R : List T × Int × Int), X.length - at_ ≤ f → p ≤ at_ → at_ ≤ X.length → cleanW false ((X.drop p).take (at_ - p)) = true → lexF f at_ (X.drop at_) acc = R →
    (R.2.2 = 0 → R.2.1 = 0 ∧ ∃ L, R.1 = acc ++ L ∧ row X p L) ∧ (R.2.2 ≠ 0 → ∃ n : Nat, R.2.1 = (n : Int) ∧ n < X.length) := by
  intro f
  induction f with
  | zero =>
    intro p at_ acc R hf hp hat hcl hR
    subst hR
    refine ⟨fun _ => ⟨rfl, [], (List.append_nil _).symm, by omega, ?_⟩, fun h => absurd rfl h⟩
    have : at_ - p = (X.drop p).length := by rw [List.length_drop]; omega
    rw [this, List.take_length] at hcl
    exact hcl
  | succ f ih =>
    intro p at_ acc R hf hp hat hcl hR
    rw [lexF] at hR
    by_cases hl : X.drop at_ = []
    · rw [if_pos hl] at hR
      subst hR
      refine ⟨fun _ => ⟨rfl, [], (List.append_nil _).symm, by omega, ?_⟩, fun h => absurd rfl h⟩
      have h0 : X.length ≤ at_ := by have := congrArg List.length hl; rw [List.length_drop, List.length_nil] at this; omega
      have : at_ - p = (X.drop p).length := by rw [List.length_drop]; omega
      rw [this, List.take_length] at hcl
      exact hcl
    · rw [if_neg hl] at hR
      have hlt : at_ < X.length := by
        rcases Nat.lt_or_ge at_ X.length with h | h
        · exact h
        · exact absurd (List.drop_eq_nil_of_le h) hl
      cases hk : tok (X.drop at_) with
      | bad e =>
        rw [hk] at hR
        replace hR : ([], (at_ : Int), e) = R := hR
        subst hR
        have hne := tok_bad _ _ hk
        exact ⟨fun h => absurd h hne, fun _ => ⟨at_, rfl, hlt⟩⟩
      | ok kd n v =>
        rw [hk] at hR
        have hb := tok_bounds (X.drop at_) kd n v hk
        rw [List.length_drop] at hb
        obtain ⟨g, eg⟩ : ∃ g, skipW false ((X.drop at_).drop n) = g := ⟨_, rfl⟩
        have hgl := skipW_le false ((X.drop at_).drop n)
        have hgc := clean_skip false ((X.drop at_).drop n)
        rw [eg] at hgl hgc
        rw [List.length_drop, List.length_drop] at hgl
        have e1 : (X.drop at_).drop (n + g) = X.drop (at_ + n + g) := by rw [List.drop_drop, Nat.add_assoc]
        replace hR : lexF f (at_ + n + skipW false ((X.drop at_).drop n)) ((X.drop at_).drop (n + skipW false ((X.drop at_).drop n))) (acc ++ [⟨kd, (X.drop at_).take n, v, at_⟩]) = R := hR
        rw [eg, e1] at hR
        rw [List.drop_drop] at hgc
        obtain ⟨h1, h2⟩ := ih (at_ + n) (at_ + n + g) _ R (by omega) (by omega) (by omega) (by rw [Nat.add_sub_cancel_left]; exact hgc) hR
        refine ⟨fun h => ?_, h2⟩
        obtain ⟨hz, L, hL, hrow⟩ := h1 h
        have hlen : ((X.drop at_).take n).length = n := by rw [List.length_take, List.length_drop]; omega
        refine ⟨hz, ⟨kd, (X.drop at_).take n, v, at_⟩ :: L, by rw [hL, List.append_assoc]; rfl, hp, ?_, ?_, ?_, hcl, ?_⟩
        · intro h0
          have := congrArg List.length h0
          rw [hlen, List.length_nil] at this
          omega
        · show at_ + ((X.drop at_).take n).length ≤ X.length
          omega
        · show (X.drop at_).take ((X.drop at_).take n).length = (X.drop at_).take n
          rw [hlen]
        · show row X (at_ + ((X.drop at_).take n).length) L
          rw [hlen]
          exact hrow
theorem lexS_row (X : List UInt8) (hX : X.length ≤ 1048576) : ((lexS X).2.2 = 0 → (lexS X).2.1 = 0 ∧ row X 0 (lexS X).1) ∧ ((lexS X).2.2 ≠ 0 → ∃ n : Nat, (lexS X).2.1 = (n : Int) ∧ n < X.length) := by
  have hle := skipW_le false X
  have := lexF_row X X.length 0 (skipW false X) [] (lexS X) (by omega) (by omega) hle (by rw [List.drop_zero, Nat.sub_zero]; exact clean_skip false X) (by unfold lexS; rw [if_neg (by omega)])
  refine ⟨fun h => ?_, this.2⟩
  obtain ⟨h1, L, h2, h3⟩ := this.1 h
  rw [h2]
  exact ⟨h1, h3⟩
/-- The loop over the tokens. -/
theorem places_loop (s : ByteArray) (hs : s.size ≤ 1000000) (L : List T) (hL : L.length ≤ 2000000) : ∀ (d i p : Nat), L.length - i < d → i ≤ L.length → row (tl s) p (L.drop i) →
    Ev (fun k => jigsawlaw05_LexPlaces.l0 k s 0 (p : Int) (L.map mk34) (L.length : Int) (i : Int)) true := by
  intro d
  induction d with
  | zero => exact fun _ _ h => absurd h (by omega)
  | succ d ihd =>
    intro i p hd hi hrow
    have len1 : (L.map mk34).length = L.length := List.length_map _
    by_cases hlt : i < L.length
    · have w1 : Hid (wrap64 ((i : Int) + 1) = ((i + 1 : Nat) : Int)) := by show wrap64 ((i : Int) + 1) = ((i + 1 : Nat) : Int); unfold wrap64; omega
      have r1 := rd34 L i hlt
      rw [List.drop_eq_getElem_cons hlt] at hrow
      obtain ⟨t, et⟩ : ∃ t, L[i] = t := ⟨_, rfl⟩
      rw [et] at r1 hrow
      obtain ⟨q1, q2, q3, q4, q5, q6⟩ := hrow
      rw [tl_length] at q3
      have f1 : Hid (¬ (mk34 t).f1.toList = ([] : List UInt8)) := by
        show ¬ _ = _
        rw [Lib.toList_data]
        exact fun h => q2 (by simpa [mk34] using h)
      have f3 : Hid ((mk34 t).f3 = (t.at_ : Int)) := rfl
      have w2 : Hid (wrap64 (((mk34 t).f3) + (((mk34 t).f1).size : Int)) = ((t.at_ + t.text.length : Nat) : Int)) := by
        show wrap64 (((mk34 t).f3) + (((mk34 t).f1).size : Int)) = ((t.at_ + t.text.length : Nat) : Int)
        rw [f3.out, show (mk34 t).f1.size = t.text.length by simp [mk34, ByteArray.size]]; unfold wrap64; omega
      have ex : Hid ((s.extract t.at_ (t.at_ + t.text.length)).toList = (mk34 t).f1.toList) := by
        show (s.extract t.at_ (t.at_ + t.text.length)).toList = (mk34 t).f1.toList
        rw [Lib.toList_data, Lib.toList_data]
        show tl _ = tl _
        rw [tl_mid, Nat.add_sub_cancel_left, q4]
        simp [mk34, tl]
      have hE : Ev (fun k => jigsawlaw05_empty.f k (s.extract p t.at_)) true := by
        refine empty_ev _ ?_ ?_
        · rw [← tl_length, tl_mid, List.length_take, List.length_drop, tl_length]; omega
        · rw [tl_mid]; exact q5
      refine Ev.step (f := fun k => (jigsawlaw05_empty.f k (s.extract p t.at_)).bind fun t169 => (if t169 = true then (jigsawlaw05_LexPlaces.l0 k s 0 ((t.at_ + t.text.length : Nat) : Int) (L.map mk34) (L.length : Int) ((i + 1 : Nat) : Int)) else (some false))) (fun k => ?_) (Ev.bind hE ?_)
      · simp only [jigsawlaw05_LexPlaces.l0]
        rw [r1, w2.out, w1.out]
        clear r1
        rw [f3.out, if_pos (by omega), if_pos (by omega), if_pos (by omega), if_neg (by omega), if_neg f1.out, if_neg (by omega), if_pos (by omega), if_pos (by omega), if_pos (by omega), Int.toNat_natCast, Int.toNat_natCast, if_pos ex.out, if_pos (by omega), if_pos (by omega), if_pos (by omega), Int.toNat_natCast]
      · refine Ev.congr (fun k => ?_) (ihd (i + 1) (t.at_ + t.text.length) (by omega) (by omega) q6)
        rw [if_pos rfl]
    · obtain rfl : i = L.length := by omega
      rw [List.drop_length] at hrow
      obtain ⟨q1, q2⟩ := hrow
      rw [tl_length] at q1
      have hE : Ev (fun k => jigsawlaw05_empty.f k (s.extract p s.size)) true := by
        refine empty_ev _ ?_ ?_
        · rw [size_suffix]; omega
        · rw [tl_suffix]; exact q2
      refine Ev.step (f := fun k => (jigsawlaw05_wakes.f k).bind fun t170 => (if t170 = true then ((jigsawlaw05_empty.f k (s.extract p s.size)).bind fun t171 => (if t171 = true then (some ((0 : Int) == 0)) else (some false))) else (some false))) (fun k => ?_) (Ev.bind wakes_ev ?_)
      · simp only [jigsawlaw05_LexPlaces.l0]
        rw [if_neg (by omega), if_pos (by omega), if_pos (by omega), Int.toNat_natCast]
      · refine Ev.congr (f := fun k => (jigsawlaw05_empty.f k (s.extract p s.size)).bind fun t171 => (if t171 = true then (some ((0 : Int) == 0)) else (some false))) (fun k => by rw [if_pos rfl]) (Ev.bind hE ?_)
        exact Ev.congr (f := fun _ => some true) (fun k => by rw [if_pos rfl]; rfl) (Ev.now _)
theorem LexPlaces : jigsawlaw05_LexPlaces.Pure := by
  intro a0 ha
  refine Ev.rounds ?_
  have hm : ∃ m : Nat, mn (a0.size : Int) 500 = (m : Int) ∧ m ≤ a0.size ∧ m ≤ 500 := by
    unfold mn
    by_cases h : (a0.size : Int) ≤ 500
    · exact ⟨a0.size, by simp; omega, by omega, by omega⟩
    · exact ⟨500, by simp; omega, by omega, by omega⟩
  obtain ⟨m, em, h1, h2⟩ := hm
  unfold jigsawlaw05_LexPlaces.f
  rw [em]
  obtain ⟨s, es⟩ : ∃ s, a0.extract 0 m = s := ⟨_, rfl⟩
  have hs : s.size ≤ 500 := by rw [← es, ← tl_length, tl_prefix, List.length_take]; omega
  have hlen := lexS_length (tl s)
  obtain ⟨hrow, herr⟩ := lexS_row (tl s) (by rw [tl_length]; omega)
  rw [tl_length] at hlen herr
  have hev := Lex_ev s (by omega)
  obtain ⟨⟨L, n, e⟩, eL⟩ : ∃ R, lexS (tl s) = R := ⟨_, rfl⟩
  rw [eL] at hlen hrow herr hev
  refine Ev.congr (f := fun k => (lex_Lex.f k s).bind fun bt161 => _) (fun k => by rw [if_pos (by omega), if_pos (by omega), Int.toNat_natCast, es]) ?_
  refine Ev.bind hev ?_
  have len1 : (L.map mk34).length = L.length := List.length_map _
  have hLs : L.length ≤ s.size := hlen
  by_cases he : e = 0
  · obtain ⟨hz, hr⟩ := hrow he
    replace hz : n = 0 := hz
    refine Ev.congr (f := fun k => jigsawlaw05_LexPlaces.l0 k s 0 ((0 : Nat) : Int) (L.map mk34) (L.length : Int) ((0 : Nat) : Int)) (fun k => ?_) (places_loop s (by omega) L (by omega) (L.length + 1) 0 0 (by omega) (by omega) hr)
    show (if e = 0 then (jigsawlaw05_LexPlaces.l0 k s n 0 (L.map mk34) ((L.map mk34).length : Int) 0) else _) = _
    rw [if_pos he, len1, hz]
    rfl
  · obtain ⟨q, hq, hlt⟩ := herr he
    replace hq : n = (q : Int) := hq
    refine Ev.congr (f := fun k => (jigsawlaw05_wakes.f k).bind fun t166 => (if t166 = true then (if n ≥ 0 then (some (decide (n < (s.size : Int)))) else (some false)) else (some false))) (fun k => ?_) (Ev.bind wakes_ev (Ev.congr (f := fun _ => some true) (fun k => ?_) (Ev.now _)))
    · show (if e = 0 then _ else _) = _
      rw [if_neg he]
      rfl
    · rw [if_pos rfl, if_pos (by omega)]
      exact congrArg some (decide_eq_true (by omega))
end Go.Proofs.YtkcjlagaaekhjaaDoor.LexT
