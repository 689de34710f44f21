/-
  Plain laws of lex's texts, without a program: what lex.run counts of a text's bytes; the tokens of a list of bytes, as the document has them; what strconv.Atoi says of digits. No conditions but each theorem's own.
-/
import Derived.Test.YtkcjlagaaekhjaaDoorExt1
import Derived.Lib.AtoiAll
import Derived.Lib.Strings
namespace Go.Proofs.YtkcjlagaaekhjaaDoor.LexS
open Go.RowKit Go.Proofs.YtkcjlagaaekhjaaDoorW.PrintWords

abbrev tl (s : ByteArray) : List UInt8 := s.data.toList
def isL (c : UInt8) : Bool := (decide (97 ≤ c.toNat) && decide (c.toNat ≤ 122)) || (decide (65 ≤ c.toNat) && decide (c.toNat ≤ 90))
def isD (c : UInt8) : Bool := decide (48 ≤ c.toNat) && decide (c.toNat ≤ 57)
def isI (c : UInt8) : Bool := isL c || isD c || c.toNat == 95
def isB (c : UInt8) : Bool := c.toNat == 32 || c.toNat == 9 || c.toNat == 13 || c.toNat == 10
def isN (c : UInt8) : Bool := c.toNat != 10
def isS (c : UInt8) : Bool := c.toNat == 40 || c.toNat == 41 || c.toNat == 91 || c.toNat == 93 || c.toNat == 123 || c.toNat == 125 || c.toNat == 44 || c.toNat == 59 || c.toNat == 58
def cnt (q : UInt8 → Bool) (l : List UInt8) : Nat := (l.takeWhile q).length
theorem cnt_nil (q : UInt8 → Bool) : cnt q [] = 0 := rfl
theorem cnt_cons (q : UInt8 → Bool) (c : UInt8) (l : List UInt8) : cnt q (c :: l) = if q c = true then cnt q l + 1 else 0 := by
  unfold cnt
  cases h : q c <;> simp [h]
theorem cnt_le (q : UInt8 → Bool) : ∀ l, cnt q l ≤ l.length
  | [] => Nat.le_refl _
  | c :: l => by
    rw [cnt_cons]
    have := cnt_le q l
    split <;> simp <;> omega
theorem cnt_congr {q q' : UInt8 → Bool} (h : ∀ c, q c = q' c) (l : List UInt8) : cnt q l = cnt q' l := by
  rw [show q = q' from funext h]
/-- What stands first behind the counted ones isn't one. -/
theorem cnt_head (q : UInt8 → Bool) : ∀ (l : List UInt8) (c : UInt8) (r : List UInt8), l.drop (cnt q l) = c :: r → q c = false
  | [], c, r, h => by simp at h
  | a :: l, c, r, h => by
    rw [cnt_cons] at h
    cases hq : q a with
    | true =>
      rw [hq, if_pos rfl, List.drop_succ_cons] at h
      exact cnt_head q l c r h
    | false =>
      rw [hq, if_neg (by decide), List.drop_zero] at h
      injection h with h1 h2
      rw [← h1]
      exact hq
theorem cnt_all (q : UInt8 → Bool) : ∀ (l : List UInt8), ∀ c ∈ l.take (cnt q l), q c = true
  | [], c, h => by simp at h
  | a :: l, c, h => by
    rw [cnt_cons] at h
    cases hq : q a with
    | true =>
      rw [hq, if_pos rfl, List.take_succ_cons] at h
      rcases List.mem_cons.1 h with rfl | h
      · exact hq
      · exact cnt_all q l c h
    | false =>
      rw [hq, if_neg (by decide), List.take_zero] at h
      cases h
theorem cnt_run (q : UInt8 → Bool) (l : List UInt8) : ∀ (k p : Nat), (∀ j, j < k → ∃ c, l[p + j]? = some c ∧ q c = true) → cnt q (l.drop p) = k + cnt q (l.drop (p + k))
  | 0, p, _ => by simp
  | k + 1, p, h => by
    obtain ⟨c, hc, hq⟩ := h 0 (by omega)
    rw [Nat.add_zero] at hc
    obtain ⟨hlt, rfl⟩ := List.getElem?_eq_some_iff.1 hc
    rw [List.drop_eq_getElem_cons hlt, cnt_cons, if_pos hq, cnt_run q l k (p + 1) (fun j hj => by
      have := h (j + 1) (by omega)
      rwa [show p + (j + 1) = p + 1 + j by omega] at this), show p + 1 + k = p + (k + 1) by omega]
    omega

/-! ### A text's bytes -/
theorem tl_length (s : ByteArray) : (tl s).length = s.size := by rw [Lib.size_eq]
theorem get_at (s : ByteArray) (i : Nat) (h : i < s.size) : (tl s)[i]? = some (s.get! i) := by
  have h' : i < (tl s).length := by rw [tl_length]; exact h
  rw [List.getElem?_eq_getElem h']
  have e : s.get! i = s.data[i]! := by cases s; rfl
  rw [e, getElem!_pos s.data i h]
  rfl
theorem drop_at (s : ByteArray) (i : Nat) (h : i < s.size) : (tl s).drop i = s.get! i :: (tl s).drop (i + 1) := by
  have h' : i < (tl s).length := by rw [tl_length]; exact h
  rw [List.drop_eq_getElem_cons h']
  have := get_at s i h
  rw [List.getElem?_eq_getElem h'] at this
  rw [Option.some.inj this]
theorem bt_get (s : ByteArray) (i : Nat) (h : i < s.size) : bt s (i : Int) = ((s.get! i).toNat : Int) := by
  unfold bt
  rw [dif_pos (by simpa using h)]
  have h' : i < (tl s).length := by rw [tl_length]; exact h
  have := get_at s i h
  rw [List.getElem?_eq_getElem h'] at this
  rw [← Option.some.inj this]
  rfl
theorem bt_drop {s : ByteArray} {i : Nat} {c : UInt8} {r : List UInt8} (h : (tl s).drop i = c :: r) : i < s.size ∧ bt s (i : Int) = (c.toNat : Int) ∧ (tl s).drop (i + 1) = r := by
  have hlt : i < s.size := by
    rw [← tl_length]
    rcases Nat.lt_or_ge i (tl s).length with h' | h'
    · exact h'
    · rw [List.drop_eq_nil_of_le h'] at h; cases h
  rw [drop_at s i hlt] at h
  injection h with h1 h2
  exact ⟨hlt, by rw [bt_get s i hlt, h1], h2⟩
theorem tl_suffix (s : ByteArray) (a : Nat) : tl (s.extract a s.size) = (tl s).drop a := by
  rw [tl, Lib.extract_data, List.take_of_length_le]
  rw [List.length_drop, tl_length]
  exact Nat.le_refl _
theorem tl_prefix (s : ByteArray) (b : Nat) : tl (s.extract 0 b) = (tl s).take b := by
  rw [tl, Lib.extract_data, List.drop_zero, Nat.sub_zero]
theorem tl_mid (s : ByteArray) (a b : Nat) : tl (s.extract a b) = ((tl s).drop a).take (b - a) := Lib.extract_data s a b
theorem mk_tl {s : ByteArray} {l : List UInt8} (h : tl s = l) : s = ⟨l.toArray⟩ := by rw [← h]
theorem size_suffix (s : ByteArray) (a : Nat) : (s.extract a s.size).size = s.size - a := by rw [← tl_length, tl_suffix, List.length_drop, tl_length]

/-! ### UTF-8, as far as it is needed; what lex.run counts -/
theorem decode_low (s : ByteArray) (pos : Nat) (hc : (s.get! pos).toNat < 128) : Utf8.decode s pos = ((s.get! pos).toNat, 1) := by
  simp only [Utf8.decode, Nat.add_zero, hc, if_true]
theorem decode_far (s : ByteArray) (pos : Nat) (h : pos < s.size) (hc : ¬ (s.get! pos).toNat < 128) :
    128 ≤ (Utf8.decode s pos).1 ∧ 1 ≤ (Utf8.decode s pos).2 ∧ ∀ j, j < (Utf8.decode s pos).2 → pos + j < s.size ∧ 128 ≤ (s.get! (pos + j)).toNat := by
  simp only [Utf8.decode, Nat.add_zero, hc, if_false]
  repeat' split
  all_goals simp only [Bool.and_eq_true, decide_eq_true_eq, beq_iff_eq, ge_iff_le, Utf8.runeError] at *
  all_goals refine ⟨by omega, by omega, fun j hj => ?_⟩
  all_goals have hj4 : j = 0 ∨ j = 1 ∨ j = 2 ∨ j = 3 := by omega
  all_goals rcases hj4 with rfl | rfl | rfl | rfl
  all_goals first
    | (exfalso; omega)
    | (rw [Nat.add_zero]; exact ⟨by omega, by omega⟩)
    | exact ⟨by omega, by omega⟩
theorem run_cnt (p : Nat → Bool) (b : Bool) (hp : ∀ r, 128 ≤ r → p r = b) (q : UInt8 → Bool) (hq : ∀ c : UInt8, q c = if c.toNat < 128 then p c.toNat else b) (s : ByteArray) :
    ∀ (f pos : Nat), pos ≤ s.size → s.size ≤ pos + f → Ext.runFrom p s f pos = ((pos + cnt q ((tl s).drop pos) : Nat) : Int)
  | 0, pos, h1, h2 => by
    rw [List.drop_eq_nil_of_le (by rw [tl_length]; omega), cnt_nil, Ext.runFrom]
    omega
  | f + 1, pos, h1, h2 => by
    unfold Ext.runFrom
    by_cases hlt : pos < s.size
    · rw [if_pos hlt]
      by_cases hc : (s.get! pos).toNat < 128
      · rw [decode_low s pos hc, drop_at s pos hlt, cnt_cons, hq, if_pos hc]
        cases hpc : p (s.get! pos).toNat with
        | true => rw [if_pos rfl, if_pos rfl, run_cnt p b hp q hq s f (pos + 1) (by omega) (by omega)]; omega
        | false => rw [if_neg (by decide), if_neg (by decide)]; omega
      · obtain ⟨d1, d2, d3⟩ := decode_far s pos hlt hc
        rw [hp _ d1]
        cases b with
        | true =>
          rw [if_pos rfl]
          have hK : pos + (Utf8.decode s pos).2 ≤ s.size := by
            have := (d3 ((Utf8.decode s pos).2 - 1) (by omega)).1
            omega
          rw [run_cnt p true hp q hq s f _ hK (by omega), cnt_run q (tl s) (Utf8.decode s pos).2 pos (fun j hj => by
            obtain ⟨e1, e2⟩ := d3 j hj
            exact ⟨_, get_at s _ e1, by rw [hq, if_neg (by omega)]⟩)]
          omega
        | false =>
          rw [if_neg (by decide), drop_at s pos hlt, cnt_cons, hq, if_neg hc, if_neg (by decide)]
          omega
    · rw [if_neg hlt, List.drop_eq_nil_of_le (by rw [tl_length]; omega), cnt_nil]
      omega
theorem run_all (p : Nat → Bool) (b : Bool) (hp : ∀ r, 128 ≤ r → p r = b) (q : UInt8 → Bool) (hq : ∀ c : UInt8, q c = if c.toNat < 128 then p c.toNat else b) (s : ByteArray) :
    Ext.runFrom p s s.size 0 = ((cnt q (tl s) : Nat) : Int) := by
  have := run_cnt p b hp q hq s s.size 0 (by omega) (by omega)
  rw [List.drop_zero, Nat.zero_add] at this
  exact this

/-! ### Blanks and comments -/
def skipW : Bool → List UInt8 → Nat
  | _, [] => 0
  | false, c :: l => if isB c = true then 1 + skipW false l else if c.toNat = 37 then 1 + skipW true l else 0
  | true, c :: l => if isN c = true then 1 + skipW true l else 1 + skipW false l
theorem skipW_le : ∀ (b : Bool) (l : List UInt8), skipW b l ≤ l.length
  | _, [] => by simp [skipW]
  | false, c :: l => by
    have h1 := skipW_le false l
    have h2 := skipW_le true l
    simp only [skipW, List.length_cons]
    repeat' split
    all_goals omega
  | true, c :: l => by
    have h1 := skipW_le false l
    have h2 := skipW_le true l
    simp only [skipW, List.length_cons]
    repeat' split
    all_goals omega
theorem skipW_blank : ∀ l, skipW false l = cnt isB l + skipW false (l.drop (cnt isB l))
  | [] => rfl
  | c :: l => by
    rw [cnt_cons]
    by_cases h : isB c = true
    · rw [if_pos h, List.drop_succ_cons]
      have := skipW_blank l
      simp only [skipW, if_pos h]
      omega
    · rw [if_neg h]
      simp
theorem skipW_com : ∀ l, skipW true l = cnt isN l + skipW false (l.drop (cnt isN l))
  | [] => rfl
  | c :: l => by
    rw [cnt_cons]
    by_cases h : isN c = true
    · rw [if_pos h, List.drop_succ_cons]
      have := skipW_com l
      simp only [skipW, if_pos h]
      omega
    · rw [if_neg h, List.drop_zero]
      have hb : isB c = true := by
        simp only [isN, bne_iff_ne, ne_eq, Decidable.not_not] at h
        simp [isB, h]
      simp only [skipW, if_neg h, if_pos hb]
      omega
theorem skipW_pct (r : List UInt8) (c : UInt8) (hc : c.toNat = 37) : skipW false (c :: r) = cnt isN (c :: r) + skipW false ((c :: r).drop (cnt isN (c :: r))) := by
  have hn : isN c = true := by simp [isN, hc]
  have hb : ¬ isB c = true := by simp [isB, hc]
  rw [cnt_cons, if_pos hn, List.drop_succ_cons]
  simp only [skipW, if_neg hb, if_pos hc]
  rw [skipW_com r]
  omega
theorem skipW_stop (c : UInt8) (r : List UInt8) (h1 : isB c = false) (h2 : c.toNat ≠ 37) : skipW false (c :: r) = 0 := by
  simp [skipW, h1, h2]
/-- Behind what is skipped stands no blank and no comment. -/
theorem skipW_behind : ∀ (b : Bool) (l : List UInt8), skipW false (l.drop (skipW b l)) = 0
  | _, [] => by simp [skipW]
  | false, c :: l => by
    have h1 := skipW_behind false l
    have h2 := skipW_behind true l
    by_cases hb : isB c = true
    · simp only [skipW, if_pos hb]
      rw [Nat.add_comm, List.drop_succ_cons]
      exact h1
    · by_cases hp : c.toNat = 37
      · simp only [skipW, if_neg hb, if_pos hp]
        rw [Nat.add_comm, List.drop_succ_cons]
        exact h2
      · simp only [skipW, if_neg hb, if_neg hp, List.drop_zero]
  | true, c :: l => by
    have h1 := skipW_behind false l
    have h2 := skipW_behind true l
    by_cases hn : isN c = true
    · simp only [skipW, if_pos hn]
      rw [Nat.add_comm, List.drop_succ_cons]
      exact h2
    · simp only [skipW, if_neg hn]
      rw [Nat.add_comm, List.drop_succ_cons]
      exact h1

/-! ### Tokens -/
def dstep (a : Nat) (c : UInt8) : Nat := 10 * a + (c.toNat - 48)
theorem dstep_eq (a : Nat) (c : UInt8) : dstep a c = 10 * a + (c.toNat - 48) := rfl
attribute [irreducible] dstep
def valN : Nat → List UInt8 → Nat
  | a, [] => a
  | a, c :: l => valN (dstep a c) l
theorem valN_nil (a : Nat) : valN a [] = a := rfl
theorem valN_cons (a : Nat) (c : UInt8) (l : List UInt8) : valN a (c :: l) = valN (dstep a c) l := rfl
inductive Tk where
  | ok (kind : Int) (n : Nat) (v : Int)
  | bad (e : Int)
def badNum (neg : Bool) (d : List UInt8) : Bool := decide (10 < cnt isD d) || ((decide (1 < cnt isD d) || neg) && (d.headD 0).toNat == 48)
def num (neg : Bool) (d : List UInt8) : Int := if neg then -(valN 0 (d.take (cnt isD d)) : Int) else (valN 0 (d.take (cnt isD d)) : Int)
def tok : List UInt8 → Tk
  | [] => .bad 6
  | c :: r =>
    if isL c = true then .ok 1 (cnt isI (c :: r)) 0
    else if 0 < cnt isD (if c.toNat = 45 then r else c :: r) then
      (if badNum (decide (c.toNat = 45)) (if c.toNat = 45 then r else c :: r) = true then .bad 15
      else .ok 2 (cnt isD (if c.toNat = 45 then r else c :: r) + (if c.toNat = 45 then 1 else 0)) (num (decide (c.toNat = 45)) (if c.toNat = 45 then r else c :: r)))
    else if c.toNat = 46 ∧ (r.headD 0).toNat = 46 then .ok 3 2 0
    else if isS c = true then .ok 3 1 0
    else .bad 6
structure T where
  kind : Int
  text : List UInt8
  num : Int
  at_ : Nat
def lexF : Nat → Nat → List UInt8 → List T → List T × Int × Int
  | 0, _, _, acc => (acc, 0, 0)
  | f + 1, at_, l, acc =>
    if l = [] then (acc, 0, 0) else
    match tok l with
    | .bad e => ([], (at_ : Int), e)
    | .ok k n v => lexF f (at_ + n + skipW false (l.drop n)) (l.drop (n + skipW false (l.drop n))) (acc ++ [⟨k, l.take n, v, at_⟩])
/-- The tokens of a text, by the document; the place, the error. -/
def lexS (l : List UInt8) : List T × Int × Int :=
  if 1048576 < l.length then ([], 1048576, 13) else lexF l.length (skipW false l) (l.drop (skipW false l)) []
theorem tok_bounds : ∀ (l : List UInt8) (k : Int) (n : Nat) (v : Int), tok l = .ok k n v → 1 ≤ n ∧ n ≤ l.length
  | [], k, n, v, h => by simp [tok] at h
  | c :: r, k, n, v, h => by
    rw [tok] at h
    by_cases hl : isL c = true
    · rw [if_pos hl] at h
      injection h with _ h2 _
      subst h2
      have hi : isI c = true := by simp [isI, hl]
      refine ⟨?_, cnt_le _ _⟩
      rw [cnt_cons, if_pos hi]
      omega
    · rw [if_neg hl] at h
      have hD : cnt isD (if c.toNat = 45 then r else c :: r) + (if c.toNat = 45 then 1 else 0) ≤ (c :: r).length := by
        by_cases hm : c.toNat = 45
        · rw [if_pos hm, if_pos hm]
          have := cnt_le isD r
          simp
          omega
        · rw [if_neg hm, if_neg hm]
          exact cnt_le _ _
      by_cases h0 : 0 < cnt isD (if c.toNat = 45 then r else c :: r)
      · rw [if_pos h0] at h
        by_cases hb : badNum (decide (c.toNat = 45)) (if c.toNat = 45 then r else c :: r) = true
        · rw [if_pos hb] at h
          cases h
        · rw [if_neg hb] at h
          injection h with _ h2 _
          subst h2
          exact ⟨by omega, hD⟩
      · rw [if_neg h0] at h
        by_cases hd : c.toNat = 46 ∧ (r.headD 0).toNat = 46
        · rw [if_pos hd] at h
          injection h with _ h3 _
          subst h3
          refine ⟨by omega, ?_⟩
          cases r with
          | nil => simp at hd
          | cons d r => simp
        · rw [if_neg hd] at h
          by_cases hs : isS c = true
          · rw [if_pos hs] at h
            injection h with _ h3 _
            subst h3
            exact ⟨by omega, by simp⟩
          · rw [if_neg hs] at h
            cases h

/-! ### strconv.Atoi of digits -/
theorem valN_lt : ∀ (l : List UInt8) (k a : Nat), (∀ c ∈ l, isD c = true) → a < 10 ^ k → valN a l < 10 ^ (k + l.length)
  | [], _, _, _, h => h
  | c :: l, k, a, hd, h => by
    have hc := hd c (by simp)
    simp only [isD, Bool.and_eq_true, decide_eq_true_eq] at hc
    have := valN_lt l (k + 1) (dstep a c) (fun x hx => hd x (by simp [hx])) (by rw [Nat.pow_succ, dstep_eq]; omega)
    show valN (dstep a c) l < 10 ^ (k + (l.length + 1))
    rw [show k + (l.length + 1) = k + 1 + l.length by omega]
    exact this
theorem parse_digits : ∀ (l : List UInt8) (k a : Nat), (∀ c ∈ l, isD c = true) → a < 10 ^ k → k + l.length ≤ 18 → Lib.parseUint10 a l = .ok (valN a l)
  | [], k, a, _, _, _ => rfl
  | c :: l, k, a, hd, h, hk => by
    have hc := hd c (by simp)
    simp only [isD, Bool.and_eq_true, decide_eq_true_eq] at hc
    simp only [List.length_cons] at hk
    have h17 : (10 : Nat) ^ k ≤ 10 ^ 17 := Nat.pow_le_pow_right (by omega) (by omega)
    have e17 : (10 : Nat) ^ 17 = 100000000000000000 := by simp
    have hA : ¬ 1844674407370955162 ≤ a := by omega
    have hB : ¬ 18446744073709551616 ≤ a * 10 + (c.toNat - 48) := by omega
    unfold Lib.parseUint10
    rw [if_pos hc, if_neg hA, if_neg hB, Nat.mul_comm a 10, ← dstep_eq, valN_cons]
    exact parse_digits l (k + 1) _ (fun x hx => hd x (by simp [hx])) (by rw [Nat.pow_succ, dstep_eq]; omega) (by omega)
theorem atoi_digits (neg : Bool) (d : List UInt8) (h0 : 0 < d.length) (h1 : d.length ≤ 10) (hd : ∀ c ∈ d, isD c = true) :
    Lib.atoiAll (if neg then 45 :: d else d) = .ok (if neg then -(valN 0 d : Int) else (valN 0 d : Int)) := by
  have hne : d ≠ [] := by intro e; rw [e] at h0; exact absurd h0 (by decide)
  have hp := parse_digits d 0 0 hd (by decide) (by omega)
  have hlt := valN_lt d 0 0 hd (by decide)
  have h17 : (10 : Nat) ^ (0 + d.length) ≤ 10 ^ 10 := Nat.pow_le_pow_right (by omega) (by omega)
  have e10 : (10 : Nat) ^ 10 = 10000000000 := by simp
  have hm : Lib.parseMag d = .ok (valN 0 d) := by unfold Lib.parseMag; rw [if_neg hne, hp]
  cases neg with
  | true =>
    simp only [if_true, Lib.atoiAll]
    have h45 : UInt8.toNat 45 = 45 := rfl
    rw [h45, if_pos (Or.inr rfl), hm]
    simp only
    rw [if_neg (fun h => h.1 trivial), if_neg (by omega), if_pos trivial]
  | false =>
    simp only [Bool.false_eq_true, if_false]
    match d, hne, hd, hm with
    | c :: r, _, hd, hm =>
      have hc := hd c (by simp)
      simp only [isD, Bool.and_eq_true, decide_eq_true_eq] at hc
      have h45 : ¬ c.toNat = 45 := by omega
      simp only [Lib.atoiAll]
      rw [if_neg (by omega), hm]
      simp only
      rw [if_neg (by omega), if_neg (by omega), if_neg h45]
end Go.Proofs.YtkcjlagaaekhjaaDoor.LexS
