/-
  LexBack as a plain statement: of a text's tokens with blanks and comments between them the lexer tells the same again. No conditions but each theorem's own.
-/
import Derived.Test.YtkcjlagaaekhjaaDoorXbx1
import Derived.Test.YtkcjlagaaekhjaaDoorLex3
import Derived.Test.YtkcjlagaaekhjaaDoorLex4
import Derived.KernelRfl
set_option linter.unusedVariables false
set_option linter.unusedSimpArgs false
namespace Go.Proofs.YtkcjlagaaekhjaaDoor.LexT
open Go.RowKit Go.Proofs.YtkcjlagaaekhjaaDoor.X Go.Proofs.YtkcjlagaaekhjaaDoorW.PrintWords LexS LexP LexR

/-- The six gaps. -/
def G6 : List ByteArray := [(⟨#[32]⟩ : ByteArray), (⟨#[10]⟩ : ByteArray), (⟨#[9, 32]⟩ : ByteArray), (⟨#[37, 32, 194, 167, 255, 10]⟩ : ByteArray), (⟨#[37, 10, 37, 37, 13, 10]⟩ : ByteArray), (⟨#[32, 13]⟩ : ByteArray)]
/-- The gap behind the token at i. -/
def gapB (l1 : List Int) (i : Nat) : ByteArray := if i < l1.length then rdOf ByteArray.empty G6 (Int.tmod (rd l1 (i : Int)) 6) else (⟨#[32]⟩ : ByteArray)
theorem ends_of (c : UInt8) (r : List UInt8) (h1 : isI c = false) (h2 : isD c = false) (h3 : c.toNat ≠ 46) : ends (c :: r) := ⟨c, r, rfl, h1, h2, h3⟩
theorem gap_a : IsGap ([32] : List UInt8) := ⟨ends_of _ _ (by decide) (by decide) (by decide), fun r => by show skipW false (32 :: r) = 1 + skipW false r; simp [skipW, isB]⟩
theorem gap_b : IsGap ([10] : List UInt8) := ⟨ends_of _ _ (by decide) (by decide) (by decide), fun r => by show skipW false (10 :: r) = 1 + skipW false r; simp [skipW, isB]⟩
theorem gap_c : IsGap ([9, 32] : List UInt8) := ⟨ends_of _ _ (by decide) (by decide) (by decide), fun r => by show skipW false (9 :: 32 :: r) = 2 + skipW false r; simp [skipW, isB]; omega⟩
theorem gap_d : IsGap ([37, 32, 194, 167, 255, 10] : List UInt8) := ⟨ends_of _ _ (by decide) (by decide) (by decide), fun r => by show skipW false (37 :: 32 :: 194 :: 167 :: 255 :: 10 :: r) = 6 + skipW false r; simp [skipW, isB, isN]; omega⟩
theorem gap_e : IsGap ([37, 10, 37, 37, 13, 10] : List UInt8) := ⟨ends_of _ _ (by decide) (by decide) (by decide), fun r => by show skipW false (37 :: 10 :: 37 :: 37 :: 13 :: 10 :: r) = 6 + skipW false r; simp [skipW, isB, isN]; omega⟩
theorem gap_f : IsGap ([32, 13] : List UInt8) := ⟨ends_of _ _ (by decide) (by decide) (by decide), fun r => by show skipW false (32 :: 13 :: r) = 2 + skipW false r; simp [skipW, isB]; omega⟩
theorem gap_each : ∀ g ∈ G6, IsGap (tl g) ∧ g.size ≤ 6 := by
  intro g hg
  simp only [G6, List.mem_cons, List.not_mem_nil, or_false] at hg
  rcases hg with rfl | rfl | rfl | rfl | rfl | rfl
  · exact ⟨gap_a, by decide⟩
  · exact ⟨gap_b, by decide⟩
  · exact ⟨gap_c, by decide⟩
  · exact ⟨gap_d, by decide⟩
  · exact ⟨gap_e, by decide⟩
  · exact ⟨gap_f, by decide⟩
theorem gap_at (l1 : List Int) (i : Nat) (hi : i < l1.length) (hwf : ∀ x ∈ l1, (Lit.int .u8 x).wf = true) :
    0 ≤ Int.tmod (rd l1 (i : Int)) 6 ∧ Int.tmod (rd l1 (i : Int)) 6 < 6 := by
  have hm : rd l1 (i : Int) ∈ l1 := by
    unfold rd
    rw [Int.toNat_natCast, List.getD_eq_getElem?_getD, List.getElem?_eq_getElem hi]
    exact List.getElem_mem hi
  have h := hwf _ hm
  obtain ⟨v, hv⟩ : ∃ v, rd l1 (i : Int) = v := ⟨_, rfl⟩
  rw [hv] at h ⊢
  have h0 : 0 ≤ v := by
    have h1 : (decide (IntKind.min .u8 ≤ v) && decide (v ≤ IntKind.max .u8)) = true := h
    rw [Bool.and_eq_true, decide_eq_true_eq, decide_eq_true_eq] at h1
    exact h1.1
  rw [Int.tmod_eq_emod_of_nonneg h0]
  omega
theorem gap_mem (l1 : List Int) (i : Nat) (hwf : ∀ x ∈ l1, (Lit.int .u8 x).wf = true) : gapB l1 i ∈ G6 := by
  unfold gapB
  split
  · rename_i hi
    obtain ⟨h1, h2⟩ := gap_at l1 i hi hwf
    unfold rdOf
    rw [List.getD_eq_getElem?_getD, List.getElem?_eq_getElem (show (Int.tmod (rd l1 (i : Int)) 6).toNat < G6.length by show _ < 6; omega)]
    exact List.getElem_mem _
  · simp [G6]
theorem mk34_size (t : T) : (mk34 t).f1.size = t.text.length := by simp [mk34, ByteArray.size]
theorem mk34_tl (t : T) : tl (mk34 t).f1 = t.text := by simp [mk34, tl]
/-- The last loop: each token is the one that it was, and stands where it says. -/
theorem back_loop (L M : List T) (x8 : ByteArray) (h8 : x8.size ≤ 2000000) (hlen : M.length = L.length)
    (hal : ∀ (j : Nat) (t u : T), M[j]? = some t → L[j]? = some u → alike t u)
    (hat : ∀ t ∈ M, t.at_ + t.text.length ≤ x8.size ∧ ((tl x8).drop t.at_).take t.text.length = t.text) (hML : M.length ≤ 2000000) :
    ∀ (d i : Nat), M.length - i < d → Ev (fun k => jigsawlaw05_LexBack.l1 k (L.map mk34) x8 (M.map mk34) (M.length : Int) (i : Int)) true := by
  intro d
  induction d with
  | zero => exact fun _ h => absurd h (by omega)
  | succ d ihd =>
    intro i hd
    by_cases hlt : i < M.length
    · have w1 : Hid (wrap64 ((i : Int) + 1) = ((i + 1 : Nat) : Int)) := by show wrap64 ((i : Int) + 1) = ((i + 1 : Nat) : Int); unfold wrap64; omega
      have l1 : (M.map mk34).length = M.length := List.length_map _
      have l2 : (L.map mk34).length = L.length := List.length_map _
      have hltL : i < L.length := by omega
      obtain ⟨e1, e2, e3⟩ := hal i M[i] L[i] (List.getElem?_eq_getElem hlt) (List.getElem?_eq_getElem hltL)
      obtain ⟨a1, a2⟩ := hat M[i] (List.getElem_mem hlt)
      have r1 := rd34 M i hlt
      have r2 := rd34 L i hltL
      obtain ⟨t, et⟩ : ∃ t, M[i] = t := ⟨_, rfl⟩
      obtain ⟨u, eu⟩ : ∃ u, L[i] = u := ⟨_, rfl⟩
      rw [et] at e1 e2 e3 a1 a2 r1
      rw [eu] at e1 e2 e3 r2
      have f0 : Hid ((mk34 t).f0 = (mk34 u).f0) := e1
      have f1 : Hid ((mk34 t).f1.toList = (mk34 u).f1.toList) := by show _ = _; simp only [mk34, e2]
      have f2 : Hid ((mk34 t).f2 = (mk34 u).f2) := e3
      clear e1 e2 e3
      have f3 : Hid ((mk34 t).f3 = (t.at_ : Int)) := rfl
      have w2 : Hid (wrap64 (((mk34 t).f3) + (((mk34 t).f1).size : Int)) = ((t.at_ + t.text.length : Nat) : Int)) := by
        show wrap64 (((mk34 t).f3) + (((mk34 t).f1).size : Int)) = ((t.at_ + t.text.length : Nat) : Int)
        rw [f3.out, mk34_size]; unfold wrap64; omega
      have ex : Hid ((x8.extract t.at_ (t.at_ + t.text.length)).toList = (mk34 t).f1.toList) := by
        show (x8.extract t.at_ (t.at_ + t.text.length)).toList = (mk34 t).f1.toList
        rw [Lib.toList_data, Lib.toList_data]
        show tl _ = tl _
        rw [tl_mid, mk34_tl, Nat.add_sub_cancel_left, a2]
      refine Ev.step (f := fun k => jigsawlaw05_LexBack.l1 k (L.map mk34) x8 (M.map mk34) (M.length : Int) ((i + 1 : Nat) : Int)) (fun k => ?_) (ihd (i + 1) (by omega))
      simp only [jigsawlaw05_LexBack.l1]
      rw [r1, r2, w2.out, w1.out]
      clear r1 r2
      rw [if_pos (by omega), if_pos (by omega), if_pos (by omega), if_pos (by omega), if_pos f0.out, if_pos f1.out, if_pos f2.out, f3.out, if_neg (by omega), if_neg (by omega), if_pos (by omega), if_pos (by omega), if_pos (by omega), Int.toNat_natCast, Int.toNat_natCast, if_pos ex.out]
    · refine Ev.step (f := fun _ => some true) (fun k => ?_) (Ev.now _)
      simp only [jigsawlaw05_LexBack.l1]
      rw [if_neg (by omega)]
theorem tl_append (a b : ByteArray) : tl (a ++ b) = tl a ++ tl b := by
  simp [tl]
theorem catT_get (gs : Nat → List UInt8) (L : List T) (i : Nat) (h : i < L.length) : catT gs i (L.drop i) = L[i].text ++ gs i ++ catT gs (i + 1) (L.drop (i + 1)) := by
  rw [List.drop_eq_getElem_cons h]
  rfl
/-- The first loop: the tokens' texts, a gap behind each. -/
theorem text_loop (l1 : List Int) (hwf : ∀ x ∈ l1, (Lit.int .u8 x).wf = true) (L : List T) (X : List UInt8) (hX : X.length ≤ 1000000) (hL : L.length ≤ 2000000)
    (hgo : ∀ x8, tl x8 = X → Ev (fun k => (lex_Lex.f k x8).bind fun bt171 => ((jigsawlaw05_wakes.f k).bind fun t176 => (if t176 = true then (if bt171.2.2 = 0 then (jigsawlaw05_LexBack.j1 k (L.map mk34) x8 bt171.1 ((bt171.1.length : Int) != ((L.map mk34).length : Int))) else (jigsawlaw05_LexBack.j1 k (L.map mk34) x8 bt171.1 true)) else (jigsawlaw05_LexBack.j1 k (L.map mk34) x8 bt171.1 true)))) true) :
    ∀ (d i : Nat) (x8 : ByteArray), L.length - i < d → i ≤ L.length → tl x8 ++ catT (fun j => tl (gapB l1 j)) i (L.drop i) = X →
      Ev (fun k => jigsawlaw05_LexBack.l0 k l1 (L.map mk34) x8 (L.map mk34) (L.length : Int) (i : Int)) true := by
  intro d
  induction d with
  | zero => exact fun _ _ h => absurd h (by omega)
  | succ d ihd =>
    intro i x8 hd hi hx
    have len1 : (L.map mk34).length = L.length := List.length_map _
    by_cases hlt : i < L.length
    · have w1 : Hid (wrap64 ((i : Int) + 1) = ((i + 1 : Nat) : Int)) := by show wrap64 ((i : Int) + 1) = ((i + 1 : Nat) : Int); unfold wrap64; omega
      have r1 := rd34 L i hlt
      rw [catT_get _ L i hlt] at hx
      obtain ⟨t, et⟩ : ∃ t, L[i] = t := ⟨_, rfl⟩
      rw [et] at r1 hx
      have sz := mk34_size t
      have hxl := congrArg List.length hx
      simp only [List.length_append, tl_length] at hxl
      have step : tl (x8 ++ ((mk34 t).f1 ++ gapB l1 i)) ++ catT (fun j => tl (gapB l1 j)) (i + 1) (L.drop (i + 1)) = X := by
        rw [tl_append, tl_append, mk34_tl, ← hx, List.append_assoc, List.append_assoc]
      have g1 : ((mk34 t).f1.size + (gapB l1 i).size) ≤ 9223372036854775807 := by omega
      have g2 : x8.size + ((mk34 t).f1 ++ gapB l1 i).size ≤ 9223372036854775807 := by
        rw [ByteArray.size_append]; omega
      refine Ev.step (f := fun k => jigsawlaw05_LexBack.l0 k l1 (L.map mk34) (x8 ++ ((mk34 t).f1 ++ gapB l1 i)) (L.map mk34) (L.length : Int) ((i + 1 : Nat) : Int)) (fun k => ?_) (ihd (i + 1) _ (by omega) (by omega) step)
      simp only [jigsawlaw05_LexBack.l0]
      rw [r1, w1.out, if_pos (by omega), if_pos (by omega), if_pos (by omega)]
      by_cases hg : i < l1.length
      · obtain ⟨h1, h2⟩ := gap_at l1 i hg hwf
        have eg : rdOf ByteArray.empty G6 (Int.tmod (rd l1 (i : Int)) 6) = gapB l1 i := by unfold gapB; rw [if_pos hg]
        rw [if_pos (by omega)]
        show (if 0 ≤ (Int.tmod (rd l1 (i : Int)) 6) then (if (Int.tmod (rd l1 (i : Int)) 6) < (G6.length : Int) then (if ((mk34 t).f1).size + (rdOf ByteArray.empty G6 (Int.tmod (rd l1 (i : Int)) 6)).size ≤ 9223372036854775807 then (if x8.size + (((mk34 t).f1) ++ (rdOf ByteArray.empty G6 (Int.tmod (rd l1 (i : Int)) 6))).size ≤ 9223372036854775807 then (jigsawlaw05_LexBack.l0 k l1 (L.map mk34) (x8 ++ (((mk34 t).f1) ++ (rdOf ByteArray.empty G6 (Int.tmod (rd l1 (i : Int)) 6)))) (L.map mk34) (L.length : Int) ((i + 1 : Nat) : Int)) else none) else none) else none) else none) = _
        rw [eg, if_pos h1, if_pos (show Int.tmod (rd l1 (i : Int)) 6 < (G6.length : Int) from h2), if_pos g1, if_pos g2]
      · have eg : rdOf ByteArray.empty G6 0 = gapB l1 i := by unfold gapB; rw [if_neg hg]; rfl
        rw [if_neg (by omega)]
        show (if 0 < (G6.length : Int) then (if ((mk34 t).f1).size + (rdOf ByteArray.empty G6 0).size ≤ 9223372036854775807 then (if x8.size + (((mk34 t).f1) ++ (rdOf ByteArray.empty G6 0)).size ≤ 9223372036854775807 then (jigsawlaw05_LexBack.l0 k l1 (L.map mk34) (x8 ++ (((mk34 t).f1) ++ (rdOf ByteArray.empty G6 0))) (L.map mk34) (L.length : Int) ((i + 1 : Nat) : Int)) else none) else none) else none) = _
        rw [eg, if_pos (by decide), if_pos g1, if_pos g2]
    · obtain rfl : i = L.length := by omega
      rw [List.drop_length, catT, List.append_nil] at hx
      refine Ev.step (fun k => ?_) (hgo x8 hx)
      simp only [jigsawlaw05_LexBack.l0]
      rw [if_neg (by omega)]
theorem LexBack : jigsawlaw05_LexBack.Pure := by
  intro a0 l1 ha hl1 hl2 hwf
  refine Ev.rounds ?_
  have hm : ∃ m : Nat, mn (a0.size : Int) 500 = (m : Int) ∧ m ≤ a0.size ∧ m ≤ 500 := by
    unfold mn
    by_cases h : (a0.size : Int) ≤ 500
    · exact ⟨a0.size, by simp; omega, by omega, by omega⟩
    · exact ⟨500, by simp; omega, by omega, by omega⟩
  obtain ⟨m, em, h1, h2⟩ := hm
  unfold jigsawlaw05_LexBack.f
  rw [em]
  obtain ⟨s, es⟩ : ∃ s, a0.extract 0 m = s := ⟨_, rfl⟩
  have hs : s.size ≤ 500 := by rw [← es, ← tl_length, tl_prefix, List.length_take]; omega
  have hlen := lexS_length (tl s)
  have htk := lexS_toks (tl s)
  have hby := lexS_bytes (tl s)
  have her := lexS_err (tl s)
  rw [tl_length] at hlen hby
  have hev := Lex_ev s (by omega)
  obtain ⟨⟨L, n, e⟩, eL⟩ : ∃ R, lexS (tl s) = R := ⟨_, rfl⟩
  rw [eL] at hlen htk hby her hev
  refine Ev.congr (f := fun k => (lex_Lex.f k s).bind fun bt154 => _) (fun k => by rw [if_pos (by omega), if_pos (by omega), Int.toNat_natCast, es]) ?_
  refine Ev.bind hev ?_
  have len1 : (L.map mk34).length = L.length := List.length_map _
  by_cases he : e = 0
  · obtain ⟨gs, egs⟩ : ∃ gs, gs = fun j => tl (gapB l1 j) := ⟨_, rfl⟩
    have hgap : ∀ i, IsGap (gs i) ∧ (gs i).length ≤ 6 := by
      intro i
      have := gap_each _ (gap_mem l1 i hwf)
      rw [egs]
      exact ⟨this.1, by rw [tl_length]; exact this.2⟩
    have hXl := catT_length gs 6 (fun i => (hgap i).2) 500 L 0 (fun t ht => Nat.le_trans (hby t ht) hs)
    have hXl2 : (catT gs 0 L).length ≤ 253000 := Nat.le_trans hXl (by have : L.length * (500 + 6) ≤ 500 * (500 + 6) := Nat.mul_le_mul_right _ (by have : L.length ≤ s.size := hlen; omega); omega)
    obtain ⟨M, m1, m2, m3⟩ := lexS_again gs (fun i => (hgap i).1) L htk (by omega)
    have hLlen : L.length ≤ 500 := by have : L.length ≤ s.size := hlen; omega
    refine Ev.congr (f := fun k => jigsawlaw05_LexBack.l0 k l1 (L.map mk34) (⟨#[]⟩ : ByteArray) (L.map mk34) (L.length : Int) ((0 : Nat) : Int)) (fun k => ?_) ?_
    · show (if e = 0 then _ else _) = _
      rw [if_pos he]
      show jigsawlaw05_LexBack.l0 k l1 (L.map mk34) (⟨#[]⟩ : ByteArray) (L.map mk34) ((L.map mk34).length : Int) 0 = _
      rw [len1]
      rfl
    · refine text_loop l1 hwf L (catT gs 0 L) (by omega) (by omega) (fun x8 hx8 => ?_) (L.length + 1) 0 (⟨#[]⟩ : ByteArray) (by omega) (by omega) (by rw [egs]; rfl)
      have h8 : x8.size ≤ 253000 := by rw [← tl_length, hx8]; exact hXl2
      have hev8 := Lex_ev x8 (by omega)
      have hat := lexS_at (tl x8)
      rw [hx8, m1] at hev8 hat
      rw [← hx8, tl_length] at hat
      refine Ev.bind hev8 (Ev.bind wakes_ev ?_)
      have lenM : (M.map mk34).length = M.length := List.length_map _
      refine Ev.congr (f := fun k => jigsawlaw05_LexBack.j1 k (L.map mk34) x8 (M.map mk34) false) (fun k => ?_) ?_
      · rw [if_pos rfl]
        show (if (0 : Int) = 0 then (jigsawlaw05_LexBack.j1 k (L.map mk34) x8 (M.map mk34) (((M.map mk34).length : Int) != ((L.map mk34).length : Int))) else _) = _
        rw [if_pos rfl, lenM, len1, m2]
        simp
      · refine Ev.step (f := fun k => jigsawlaw05_LexBack.l1 k (L.map mk34) x8 (M.map mk34) (M.length : Int) ((0 : Nat) : Int)) (fun k => ?_) (back_loop L M x8 (by omega) m2 m3 hat (by omega) (M.length + 1) 0 (by omega))
        simp only [jigsawlaw05_LexBack.j1]
        rw [if_neg (by decide), lenM]
        rfl
  · have hn : L = [] := her he
    subst hn
    refine Ev.congr (f := fun k => (jigsawlaw05_wakes.f k).bind fun t159 => (if t159 = true then (some ((([] : List S34).length : Int) == 0)) else (some false))) (fun k => ?_) (Ev.bind wakes_ev (Ev.congr (f := fun _ => some true) (fun k => by rw [if_pos rfl]; rfl) (Ev.now _)))
    show (if e = 0 then _ else _) = _
    rw [if_neg he]
    rfl
end Go.Proofs.YtkcjlagaaekhjaaDoor.LexT
