/-
  LexBack as plain laws, without a program: tokens with blanks and comments between them are told again; where the tokens of a text stand. No conditions but each theorem's own.
-/
import Derived.Test.YtkcjlagaaekhjaaDoorLex0
set_option linter.unusedVariables false
set_option linter.unusedSimpArgs false
namespace Go.Proofs.YtkcjlagaaekhjaaDoor.LexS

/-! ### What a token's text is; what follows it -/
/-- What a gap begins with: it ends every token. -/
def ends (g : List UInt8) : Prop := ∃ c r, g = c :: r ∧ isI c = false ∧ isD c = false ∧ c.toNat ≠ 46
theorem cnt_stop (q : UInt8 → Bool) : ∀ (l g : List UInt8), (∃ c r, g = c :: r ∧ q c = false) → cnt q (l.take (cnt q l) ++ g) = cnt q l
  | [], g, ⟨c, r, hg, hc⟩ => by simp [cnt_nil, hg, cnt_cons, hc]
  | a :: l, g, hg => by
    cases hq : q a with
    | true => rw [cnt_cons, if_pos hq, List.take_succ_cons, List.cons_append, cnt_cons, if_pos hq, cnt_stop q l g hg]
    | false =>
      obtain ⟨c, r, hg, hc⟩ := hg
      rw [cnt_cons, hq, if_neg (by decide), List.take_zero, List.nil_append, hg, cnt_cons, hc, if_neg (by decide)]
theorem take_cnt (q : UInt8 → Bool) (l g : List UInt8) (n : Nat) (hn : n = (l.take (cnt q l)).length) : (l.take (cnt q l) ++ g).take n = l.take (cnt q l) := by
  rw [hn, List.take_left']
  rfl
theorem take_len (q : UInt8 → Bool) (l : List UInt8) : (l.take (cnt q l)).length = cnt q l := by
  rw [List.length_take]
  have := cnt_le q l
  omega
theorem headD_take (l : List UInt8) (n : Nat) (h : 0 < n) (g : List UInt8) (hl : 0 < l.length) : (l.take n ++ g).headD 0 = l.headD 0 := by
  cases l with
  | nil => simp at hl
  | cons c r => cases n with
    | zero => omega
    | succ n => rfl
/-- A token's text and something that ends it: the same token. -/
theorem tok_again (l : List UInt8) (k : Int) (n : Nat) (v : Int) (h : tok l = .ok k n v) (g : List UInt8) (hg : ends g) : tok (l.take n ++ g) = .ok k n v := by
  obtain ⟨e, er, hge, he1, he2, he3⟩ := hg
  cases l with
  | nil => simp [tok] at h
  | cons c r =>
    rw [tok] at h
    by_cases hl : isL c = true
    · rw [if_pos hl] at h
      injection h with h1 h2 h3
      subst h1; subst h2; subst h3
      have hi : isI c = true := by simp [isI, hl]
      have h1 := cnt_stop isI (c :: r) g ⟨e, er, hge, he1⟩
      have h2 : (c :: r).take (cnt isI (c :: r)) = c :: r.take (cnt isI r) := by rw [cnt_cons, if_pos hi, List.take_succ_cons]
      rw [h2, List.cons_append] at h1 ⊢
      rw [tok, if_pos hl, h1]
    · rw [if_neg hl] at h
      by_cases h0 : 0 < cnt isD (if c.toNat = 45 then r else c :: r)
      · rw [if_pos h0] at h
        by_cases hb : badNum (decide (c.toNat = 45)) (if c.toNat = 45 then r else c :: r) = true
        · rw [if_pos hb] at h; cases h
        · rw [if_neg hb] at h
          injection h with h1 h2 h3
          subst h1; subst h2; subst h3
          by_cases hc : c.toNat = 45
          · rw [if_pos hc] at h0 hb ⊢
            rw [if_pos hc, List.take_succ_cons, List.cons_append, tok, if_neg hl, if_pos hc]
            have h1 := cnt_stop isD r g ⟨e, er, hge, he2⟩
            have hrl : 0 < r.length := Nat.lt_of_lt_of_le h0 (cnt_le isD r)
            have hb2 : badNum (decide (c.toNat = 45)) (r.take (cnt isD r) ++ g) = badNum (decide (c.toNat = 45)) r := by
              unfold badNum
              rw [h1, headD_take r _ h0 g hrl]
            have hn2 : num (decide (c.toNat = 45)) (r.take (cnt isD r) ++ g) = num (decide (c.toNat = 45)) r := by
              unfold num
              rw [h1, take_cnt isD r g _ (take_len isD r).symm]
            rw [h1, if_pos h0, hb2, if_neg hb, if_pos hc, hn2]
          · rw [if_neg hc] at h0 hb ⊢
            rw [if_neg hc, Nat.add_zero]
            have h1 := cnt_stop isD (c :: r) g ⟨e, er, hge, he2⟩
            have hd : isD c = true := by
              cases hd : isD c with
              | true => rfl
              | false => rw [cnt_cons, hd, if_neg (by decide)] at h0; omega
            have hb2 : badNum (decide (c.toNat = 45)) ((c :: r).take (cnt isD (c :: r)) ++ g) = badNum (decide (c.toNat = 45)) (c :: r) := by
              unfold badNum
              rw [h1, headD_take (c :: r) _ h0 g (by simp)]
            have hn2 : num (decide (c.toNat = 45)) ((c :: r).take (cnt isD (c :: r)) ++ g) = num (decide (c.toNat = 45)) (c :: r) := by
              unfold num
              rw [h1, take_cnt isD (c :: r) g _ (take_len isD (c :: r)).symm]
            have h2 : (c :: r).take (cnt isD (c :: r)) = c :: r.take (cnt isD r) := by rw [cnt_cons, if_pos hd, List.take_succ_cons]
            rw [h2, List.cons_append] at h1 hb2 hn2 ⊢
            rw [tok, if_neg hl, if_neg hc, h1, if_pos h0, hb2, if_neg hb, if_neg hc, hn2, Nat.add_zero]
      · rw [if_neg h0] at h
        have hD0 : ∀ r' : List UInt8, (c.toNat = 45 → ∃ x y, r' = x :: y ∧ isD x = false) → cnt isD (if c.toNat = 45 then r' else c :: r') = 0 := by
          intro r' hr'
          by_cases hc : c.toNat = 45
          · obtain ⟨x, y, rfl, hx⟩ := hr' hc
            rw [if_pos hc, cnt_cons, hx, if_neg (by decide)]
          · rw [if_neg hc] at h0 ⊢
            rw [cnt_cons] at h0 ⊢
            cases hd : isD c with
            | true => rw [hd, if_pos rfl] at h0; omega
            | false => rw [if_neg (by decide)]
        by_cases hdd : c.toNat = 46 ∧ (r.headD 0).toNat = 46
        · rw [if_pos hdd] at h
          injection h with h1 h2 h3
          subst h1; subst h2; subst h3
          cases r with
          | nil => simp at hdd
          | cons a r =>
            have hz := hD0 (a :: g) (fun hc => by omega)
            show tok (c :: a :: g) = _
            rw [tok, if_neg hl, hz, if_neg (by omega), if_pos (show c.toNat = 46 ∧ ((a :: g).headD 0).toNat = 46 from hdd)]
        · rw [if_neg hdd] at h
          by_cases hs : isS c = true
          · rw [if_pos hs] at h
            injection h with h1 h2 h3
            subst h1; subst h2; subst h3
            have hz := hD0 g (fun hc => by simp [isS, hc] at hs)
            have h46 : ¬ (c.toNat = 46 ∧ (g.headD 0).toNat = 46) := by
              intro hh
              rw [hge] at hh
              exact he3 hh.2
            show tok (c :: g) = _
            rw [tok, if_neg hl, hz, if_neg (by omega), if_neg h46, if_pos hs]
          · rw [if_neg hs] at h; cases h
/-- A token begins with no blank and no comment. -/
theorem tok_head (c : UInt8) (r : List UInt8) (k : Int) (n : Nat) (v : Int) (h : tok (c :: r) = .ok k n v) : isB c = false ∧ c.toNat ≠ 37 := by
  rw [tok] at h
  by_cases hl : isL c = true
  · simp [isL] at hl
    simp [isB]
    omega
  · rw [if_neg hl] at h
    by_cases h0 : 0 < cnt isD (if c.toNat = 45 then r else c :: r)
    · by_cases hc : c.toNat = 45
      · simp [isB, hc]
      · rw [if_neg hc, cnt_cons] at h0
        cases hd : isD c with
        | false => rw [hd, if_neg (by decide)] at h0; omega
        | true =>
          simp [isD] at hd
          simp [isB]
          omega
    · rw [if_neg h0] at h
      by_cases hdd : c.toNat = 46 ∧ (r.headD 0).toNat = 46
      · simp [isB, hdd.1]
      · rw [if_neg hdd] at h
        by_cases hs : isS c = true
        · simp [isS] at hs
          simp [isB]
          omega
        · rw [if_neg hs] at h; cases h

/-! ### All tokens of a text -/
def IsTok (t : T) : Prop := ∃ l, tok l = .ok t.kind t.text.length t.num ∧ l.take t.text.length = t.text
theorem lexF_toks : ∀ (f at_ : Nat) (l : List UInt8) (acc : List T), (∀ t ∈ acc, IsTok t) → ∀ t ∈ (lexF f at_ l acc).1, IsTok t
  | 0, _, _, acc, ha, t, ht => ha t ht
  | f + 1, at_, l, acc, ha, t, ht => by
    rw [lexF] at ht
    split at ht
    · exact ha t ht
    · cases hk : tok l with
      | bad e => rw [hk] at ht; cases ht
      | ok k n v =>
        rw [hk] at ht
        have hb := tok_bounds l k n v hk
        refine lexF_toks f _ _ _ (fun t' ht' => ?_) t ht
        rcases List.mem_append.1 ht' with h | h
        · exact ha t' h
        · rw [List.mem_singleton.1 h]
          have hlen : (l.take n).length = n := by rw [List.length_take]; omega
          refine ⟨l, ?_, ?_⟩
          · show tok l = .ok k (l.take n).length v
            rw [hlen, hk]
          · show l.take (l.take n).length = l.take n
            rw [hlen]
theorem lexS_toks (l : List UInt8) : ∀ t ∈ (lexS l).1, IsTok t := by
  unfold lexS
  split
  · intro t ht; cases ht
  · exact lexF_toks _ _ _ _ (fun t ht => by cases ht)
/-- Where there is an error there are no tokens. -/
theorem lexF_err : ∀ (f at_ : Nat) (l : List UInt8) (acc : List T), (lexF f at_ l acc).2.2 ≠ 0 → (lexF f at_ l acc).1 = []
  | 0, _, _, acc, h => absurd rfl h
  | f + 1, at_, l, acc, h => by
    rw [lexF] at h ⊢
    split
    · rename_i hl
      rw [if_pos hl] at h
      exact absurd rfl h
    · rename_i hl
      rw [if_neg hl] at h
      cases hk : tok l with
      | bad e => rfl
      | ok k n v =>
        rw [hk] at h
        exact lexF_err f _ _ _ h
theorem lexS_err (l : List UInt8) (h : (lexS l).2.2 ≠ 0) : (lexS l).1 = [] := by
  unfold lexS at h ⊢
  split
  · rfl
  · rename_i hl
    rw [if_neg hl] at h
    exact lexF_err _ _ _ _ h
/-- Where a text's tokens stand. -/
theorem lexF_at (X : List UInt8) : ∀ (f at_ : Nat) (acc : List T), (∀ t ∈ acc, t.at_ + t.text.length ≤ X.length ∧ (X.drop t.at_).take t.text.length = t.text) →
    ∀ t ∈ (lexF f at_ (X.drop at_) acc).1, t.at_ + t.text.length ≤ X.length ∧ (X.drop t.at_).take t.text.length = t.text
  | 0, _, acc, ha, t, ht => ha t ht
  | f + 1, at_, acc, ha, t, ht => by
    rw [lexF] at ht
    split at ht
    · exact ha t ht
    · cases hk : tok (X.drop at_) with
      | bad e => rw [hk] at ht; cases ht
      | ok k n v =>
        rw [hk] at ht
        have hb := tok_bounds (X.drop at_) k n v hk
        rw [List.length_drop] at hb
        have e : (X.drop at_).drop (n + skipW false ((X.drop at_).drop n)) = X.drop (at_ + n + skipW false ((X.drop at_).drop n)) := by rw [List.drop_drop, Nat.add_assoc]
        replace ht : t ∈ (lexF f (at_ + n + skipW false ((X.drop at_).drop n)) ((X.drop at_).drop (n + skipW false ((X.drop at_).drop n))) (acc ++ [⟨k, (X.drop at_).take n, v, at_⟩])).1 := ht
        rw [e] at ht
        refine lexF_at X f _ _ (fun t' ht' => ?_) t ht
        rcases List.mem_append.1 ht' with h | h
        · exact ha t' h
        · rw [List.mem_singleton.1 h]
          have hlen : ((X.drop at_).take n).length = n := by rw [List.length_take, List.length_drop]; omega
          refine ⟨?_, ?_⟩
          · show at_ + ((X.drop at_).take n).length ≤ X.length
            omega
          · show (X.drop at_).take ((X.drop at_).take n).length = (X.drop at_).take n
            rw [hlen]
theorem lexS_at (X : List UInt8) : ∀ t ∈ (lexS X).1, t.at_ + t.text.length ≤ X.length ∧ (X.drop t.at_).take t.text.length = t.text := by
  unfold lexS
  split
  · intro t ht; cases ht
  · exact lexF_at X _ _ _ (fun t ht => by cases ht)

/-! ### Told again -/
def catT (gs : Nat → List UInt8) : Nat → List T → List UInt8
  | _, [] => []
  | i, t :: L => t.text ++ gs i ++ catT gs (i + 1) L
/-- A gap: blanks and comments that end; what follows is where it was. -/
def IsGap (g : List UInt8) : Prop := ends g ∧ ∀ r, skipW false (g ++ r) = g.length + skipW false r
def alike (t u : T) : Prop := t.kind = u.kind ∧ t.text = u.text ∧ t.num = u.num
theorem isTok_head {t : T} (h : IsTok t) : ∃ c r, t.text = c :: r ∧ isB c = false ∧ c.toNat ≠ 37 := by
  obtain ⟨l, h1, h2⟩ := h
  have hb := tok_bounds l _ _ _ h1
  cases l with
  | nil => exact absurd hb.2 (by have := hb.1; simp only [List.length_nil]; omega)
  | cons c r =>
    obtain ⟨a, b⟩ := tok_head c r _ _ _ h1
    cases ht : t.text.length with
    | zero => rw [ht] at hb; omega
    | succ m =>
      rw [ht, List.take_succ_cons] at h2
      exact ⟨c, _, h2.symm, a, b⟩
theorem catT_start (gs : Nat → List UInt8) (i : Nat) (L : List T) (hL : ∀ t ∈ L, IsTok t) : skipW false (catT gs i L) = 0 := by
  cases L with
  | nil => rfl
  | cons t L =>
    obtain ⟨c, r, e, h1, h2⟩ := isTok_head (hL t (by simp))
    show skipW false (t.text ++ gs i ++ catT gs (i + 1) L) = 0
    rw [e, List.cons_append, List.cons_append]
    exact skipW_stop c _ h1 h2
theorem again (gs : Nat → List UInt8) (hg : ∀ i, IsGap (gs i)) : ∀ (L : List T) (i f at_ : Nat) (acc : List T), (∀ t ∈ L, IsTok t) → L.length ≤ f →
    ∃ M, lexF f at_ (catT gs i L) acc = (acc ++ M, 0, 0) ∧ M.length = L.length ∧ ∀ (j : Nat) (t u : T), M[j]? = some t → L[j]? = some u → alike t u
  | [], i, f, at_, acc, _, _ => by
    refine ⟨[], ?_, rfl, fun j t u h => by simp at h⟩
    show lexF f at_ [] acc = _
    cases f with
    | zero => simp [lexF]
    | succ f => rw [lexF, if_pos rfl, List.append_nil]
  | t :: L, i, f, at_, acc, hL, hf => by
    have ht := hL t (by simp)
    obtain ⟨l, h1, h2⟩ := ht
    have ht := hL t (by simp)
    obtain ⟨c, r, e, _, _⟩ := isTok_head ht
    simp only [List.length_cons] at hf
    obtain ⟨f, rfl⟩ : ∃ f', f = f' + 1 := ⟨f - 1, by omega⟩
    obtain ⟨⟨g1, g2, hge, he1, he2, he3⟩, hsk⟩ := hg i
    have hcat : catT gs i (t :: L) = l.take t.text.length ++ (gs i ++ catT gs (i + 1) L) := by
      show t.text ++ gs i ++ catT gs (i + 1) L = _
      rw [h2, List.append_assoc]
    have htok := tok_again l _ _ _ h1 (gs i ++ catT gs (i + 1) L) ⟨g1, g2 ++ catT gs (i + 1) L, by rw [hge]; rfl, he1, he2, he3⟩
    have hne : catT gs i (t :: L) ≠ [] := by
      show t.text ++ gs i ++ catT gs (i + 1) L ≠ []
      rw [e]
      simp
    have hd : (catT gs i (t :: L)).drop t.text.length = gs i ++ catT gs (i + 1) L := by
      rw [hcat, h2, List.drop_left']
      rfl
    have htk : (catT gs i (t :: L)).take t.text.length = t.text := by
      rw [hcat, h2, List.take_left']
      rfl
    have hw : skipW false (gs i ++ catT gs (i + 1) L) = (gs i).length := by
      rw [hsk, catT_start gs (i + 1) L (fun x hx => hL x (by simp [hx])), Nat.add_zero]
    have hd2 : (catT gs i (t :: L)).drop (t.text.length + (gs i).length) = catT gs (i + 1) L := by
      rw [← List.drop_drop, hd, List.drop_left']
      rfl
    rw [← hcat] at htok
    obtain ⟨M, m1, m2, m3⟩ := again gs hg L (i + 1) f (at_ + t.text.length + (gs i).length) (acc ++ [⟨t.kind, t.text, t.num, at_⟩]) (fun x hx => hL x (by simp [hx])) (by omega)
    refine ⟨⟨t.kind, t.text, t.num, at_⟩ :: M, ?_, by simp [m2], ?_⟩
    · rw [lexF, if_neg hne, htok]
      show lexF f (at_ + t.text.length + skipW false ((catT gs i (t :: L)).drop t.text.length)) ((catT gs i (t :: L)).drop (t.text.length + skipW false ((catT gs i (t :: L)).drop t.text.length))) (acc ++ [⟨t.kind, (catT gs i (t :: L)).take t.text.length, t.num, at_⟩]) = _
      rw [hd, hw, hd2, htk, m1, List.append_assoc]
      rfl
    · intro j x u hx hu
      cases j with
      | zero =>
        simp only [List.getElem?_cons_zero, Option.some.injEq] at hx hu
        rw [← hx, ← hu]
        exact ⟨rfl, rfl, rfl⟩
      | succ j =>
        rw [List.getElem?_cons_succ] at hx hu
        exact m3 j x u hx hu
theorem catT_length (gs : Nat → List UInt8) (B : Nat) (hB : ∀ i, (gs i).length ≤ B) (C : Nat) : ∀ (L : List T) (i : Nat), (∀ t ∈ L, t.text.length ≤ C) → (catT gs i L).length ≤ L.length * (C + B)
  | [], i, _ => by simp [catT]
  | t :: L, i, h => by
    have b := catT_length gs B hB C L (i + 1) (fun x hx => h x (by simp [hx]))
    have h1 := h t (by simp)
    have h2 := hB i
    simp only [catT, List.length_append, List.length_cons]
    rw [Nat.succ_mul]
    omega
/-- Tokens, with gaps between them, told again. -/
theorem lexS_again (gs : Nat → List UInt8) (hg : ∀ i, IsGap (gs i)) (L : List T) (hL : ∀ t ∈ L, IsTok t) (hsz : (catT gs 0 L).length ≤ 1048576) :
    ∃ M, lexS (catT gs 0 L) = (M, 0, 0) ∧ M.length = L.length ∧ ∀ (j : Nat) (t u : T), M[j]? = some t → L[j]? = some u → alike t u := by
  have hlen : ∀ (L : List T) (i : Nat), (∀ t ∈ L, IsTok t) → L.length ≤ (catT gs i L).length := by
    intro L
    induction L with
    | nil => intro i _; simp
    | cons t L ih =>
      intro i hL
      obtain ⟨c, r, e, _, _⟩ := isTok_head (hL t (by simp))
      have := ih (i + 1) (fun x hx => hL x (by simp [hx]))
      simp only [catT, List.length_append, List.length_cons, e]
      omega
  unfold lexS
  rw [if_neg (by omega), catT_start gs 0 L hL, List.drop_zero]
  obtain ⟨M, m1, m2, m3⟩ := again gs hg L 0 (catT gs 0 L).length 0 [] hL (hlen L 0 hL)
  exact ⟨M, by rw [m1, List.nil_append], m2, m3⟩
/-- The texts' bytes, all told. -/
theorem lexF_bytes : ∀ (f at_ : Nat) (l : List UInt8) (acc : List T) (C : Nat), l.length ≤ C → (∀ t ∈ acc, t.text.length ≤ C) → ∀ t ∈ (lexF f at_ l acc).1, t.text.length ≤ C
  | 0, _, _, acc, C, _, ha, t, ht => ha t ht
  | f + 1, at_, l, acc, C, hl, ha, t, ht => by
    rw [lexF] at ht
    split at ht
    · exact ha t ht
    · cases hk : tok l with
      | bad e => rw [hk] at ht; cases ht
      | ok k n v =>
        rw [hk] at ht
        refine lexF_bytes f _ _ _ C (by rw [List.length_drop]; omega) (fun t' ht' => ?_) t ht
        rcases List.mem_append.1 ht' with h | h
        · exact ha t' h
        · rw [List.mem_singleton.1 h]
          show (l.take n).length ≤ C
          rw [List.length_take]
          omega
theorem lexS_bytes (l : List UInt8) : ∀ t ∈ (lexS l).1, t.text.length ≤ l.length := by
  unfold lexS
  split
  · intro t ht; cases ht
  · exact lexF_bytes _ _ _ _ _ (by rw [List.length_drop]; omega) (fun t ht => by cases ht)
end Go.Proofs.YtkcjlagaaekhjaaDoor.LexS
