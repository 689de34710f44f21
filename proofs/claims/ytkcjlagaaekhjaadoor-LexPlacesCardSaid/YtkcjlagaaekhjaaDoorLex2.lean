/-
  What the document's own lexer comes to, as a plain function: the same tokens of the text's bytes. No conditions but each theorem's own.
-/
import Derived.Test.YtkcjlagaaekhjaaDoorXx4
import Derived.Test.YtkcjlagaaekhjaaDoorLex1
import Derived.Lib.Hide
set_option linter.unusedVariables false
set_option linter.unusedSimpArgs false
namespace Go.Proofs.YtkcjlagaaekhjaaDoor.LexR
open Go.RowKit Go.Proofs.YtkcjlagaaekhjaaDoor.X Go.Proofs.YtkcjlagaaekhjaaDoorW.PrintWords LexS LexP

theorem w01 : wrap64 (0 + 1) = ((1 : Nat) : Int) := by unfold wrap64; omega
theorem w_dig (v c : Nat) (hv : v < 100000000000) (h1 : 48 ≤ c) (h2 : c ≤ 57) : wrap64 ((wrap64 ((wrap64 (10 * (v : Int))) + (wrap64 (c : Int)))) - 48) = ((v * 10 + (c - 48) : Nat) : Int) := by
  have a1 : wrap64 (10 * (v : Int)) = ((10 * v : Nat) : Int) := by unfold wrap64; omega
  have a2 : wrap64 (c : Int) = (c : Int) := by unfold wrap64; omega
  rw [a1, a2]
  clear a1 a2
  have a3 : wrap64 (((10 * v : Nat) : Int) + (c : Int)) = ((10 * v + c : Nat) : Int) := by unfold wrap64; omega
  rw [a3]
  clear a3
  unfold wrap64
  omega
theorem rletter_f (c : UInt8) : jigsawref05_letter.f (c.toNat : Int) = some (isL c) := by
  unfold jigsawref05_letter.f
  repeat' split
  all_goals (refine congrArg some ?_; rw [Bool.eq_iff_iff]; simp [isL] at *; try omega)
theorem rdigit_f (c : UInt8) : jigsawref05_digit.f (c.toNat : Int) = some (isD c) := by
  unfold jigsawref05_digit.f
  repeat' split
  all_goals (refine congrArg some ?_; rw [Bool.eq_iff_iff]; simp [isD] at *; try omega)
theorem word_loop (s : ByteArray) (hs : s.size ≤ 2000000000) (at_ : Nat) : ∀ (d n : Nat), 1 ≤ n → at_ + n ≤ s.size → s.size - (at_ + n) < d →
    Ev (fun k => jigsawref05_word.l0 k s (at_ : Int) (n : Int)) ((n + cnt isI ((tl s).drop (at_ + n)) : Nat) : Int) := by
  intro d
  induction d with
  | zero => exact fun _ _ _ h => absurd h (by omega)
  | succ d ihd =>
    intro n h0 h1 h2
    have w1 : Hid (wrap64 ((at_ : Int) + (n : Int)) = ((at_ + n : Nat) : Int)) := by show wrap64 ((at_ : Int) + (n : Int)) = ((at_ + n : Nat) : Int); unfold wrap64; omega
    have w2 : Hid (wrap64 ((n : Int) + 1) = ((n + 1 : Nat) : Int)) := by show wrap64 ((n : Int) + 1) = ((n + 1 : Nat) : Int); unfold wrap64; omega
    by_cases hlt : at_ + n < s.size
    · obtain ⟨c, r, hcr⟩ : ∃ c r, (tl s).drop (at_ + n) = c :: r := ⟨_, _, drop_at s _ hlt⟩
      obtain ⟨_, hb, hr⟩ := bt_drop hcr
      rw [hcr, cnt_cons]
      have first : ∀ k, jigsawref05_word.l0 (k + 1) s (at_ : Int) (n : Int) = if isI c = true then jigsawref05_word.l0 k s (at_ : Int) ((n + 1 : Nat) : Int) else some (n : Int) := by
        intro k
        simp only [jigsawref05_word.l0]
        rw [w1.out, w2.out, if_pos (by omega), if_pos (by omega), hb, rletter_f, rdigit_f, Option.bind_some, Option.bind_some]
        cases hl : isL c with
        | true => rw [if_pos rfl, if_pos (by simp [isI, hl])]
        | false =>
          rw [if_neg (by decide), if_neg (by omega)]
          cases hd : isD c with
          | true => rw [if_pos rfl, if_pos (by simp [isI, hd])]
          | false =>
            rw [if_neg (by decide)]
            by_cases h95 : c.toNat = 95
            · rw [if_pos (by omega), if_pos (by simp [isI, h95])]
            · rw [if_neg (by omega), if_neg (by simp [isI, hl, hd, h95])]
      by_cases hi : isI c = true
      · refine Ev.step (f := fun k => jigsawref05_word.l0 k s (at_ : Int) ((n + 1 : Nat) : Int)) (fun k => by rw [first, if_pos hi]) ?_
        rw [if_pos hi]
        have ih := ihd (n + 1) (by omega) (by omega) (by omega)
        rw [show at_ + (n + 1) = at_ + n + 1 by omega, hr] at ih
        rw [show n + (cnt isI r + 1) = n + 1 + cnt isI r by omega]
        exact ih
      · refine Ev.step (f := fun _ => some (n : Int)) (fun k => by rw [first, if_neg hi]) ?_
        rw [if_neg hi]
        exact Ev.now _
    · refine Ev.step (f := fun _ => some (n : Int)) (fun k => ?_) ?_
      · simp only [jigsawref05_word.l0]
        rw [w1.out, if_neg (by omega)]
      · rw [List.drop_eq_nil_of_le (by rw [tl_length]; omega), cnt_nil]
        exact Ev.now _
theorem word_ev (s : ByteArray) (hs : s.size ≤ 2000000000) (at_ : Nat) (c : UInt8) (r : List UInt8) (h : (tl s).drop at_ = c :: r) :
    Ev (fun k => jigsawref05_word.f k s (at_ : Int)) ((if isL c = true then cnt isI (c :: r) else 0 : Nat) : Int) := by
  obtain ⟨hlt, hb, hr⟩ := bt_drop h
  have w1 : Hid (wrap64 ((at_ : Int) + 0) = (at_ : Int)) := by show wrap64 ((at_ : Int) + 0) = (at_ : Int); unfold wrap64; omega
  unfold jigsawref05_word.f
  cases hl : isL c with
  | true =>
    refine Ev.step (f := fun k => jigsawref05_word.l0 k s (at_ : Int) ((1 : Nat) : Int)) (fun k => ?_) ?_
    · simp only [jigsawref05_word.l0]
      rw [w1.out, if_pos (by omega), if_pos (by omega), hb, rletter_f, rdigit_f, hl, Option.bind_some, Option.bind_some]
      rw [if_pos rfl, w01]
    · have := word_loop s hs at_ (s.size + 1) 1 (by omega) (by omega) (by omega)
      rw [hr] at this
      rw [if_pos rfl, cnt_cons, if_pos (by simp [isI, hl]), Nat.add_comm]
      exact this
  | false =>
    refine Ev.step (f := fun _ => some 0) (fun k => ?_) ?_
    · simp only [jigsawref05_word.l0]
      rw [w1.out, if_pos (by omega), if_pos (by omega), hb, rletter_f, rdigit_f, hl, Option.bind_some, Option.bind_some]
      rw [if_neg (by decide), if_pos trivial]
    · rw [if_neg (by decide)]
      exact Ev.now _

theorem valN_snoc (l : List UInt8) : ∀ (a : Nat) (c : UInt8), valN a (l ++ [c]) = 10 * valN a l + (c.toNat - 48) := by
  induction l with
  | nil => intro a c; rw [List.nil_append, valN_cons, valN_nil, valN_nil, dstep_eq]
  | cons b l ih => intro a c; rw [List.cons_append, valN_cons, valN_cons]; exact ih _ c
def numR (neg : Bool) (D : List UInt8) (z : Nat) : Int × Int × Int :=
  if cnt isD D = 0 then (0, 0, 0) else if badNum neg D = true then (0, 0, 15) else (((cnt isD D + z : Nat) : Int), num neg D, 0)
theorem num_end (s : ByteArray) (hs : s.size ≤ 2000000000) (x1 z fr : Nat) (neg : Bool) (sg : Int) (hsg : (sg = -1 ∧ neg = true) ∨ (sg = 1 ∧ neg = false)) (hfr : fr = x1 + z) (hz : z ≤ 1) (n v : Nat) (hn : cnt isD ((tl s).drop fr) = n) (hle : fr + n ≤ s.size)
    (hv : v = valN 0 (((tl s).drop fr).take (min n 10))) (hv2 : v < 10000000000) (k : Nat) :
    jigsawref05_number.j2 (k + 1) s (x1 : Int) ((fr + n : Nat) : Int) sg (fr : Int) (v : Int) = some (numR neg ((tl s).drop fr) z) := by
  have w1 : Hid (wrap64 (((fr + n : Nat) : Int) - (fr : Int)) = (n : Int)) := by show wrap64 (((fr + n : Nat) : Int) - (fr : Int)) = (n : Int); clear hv; unfold wrap64; omega
  have w2 : Hid (wrap64 (((fr + n : Nat) : Int) - (x1 : Int)) = ((n + z : Nat) : Int)) := by show wrap64 (((fr + n : Nat) : Int) - (x1 : Int)) = ((n + z : Nat) : Int); clear hv; unfold wrap64; omega
  have w3 : Hid (wrap64 (sg * (v : Int)) = if neg = true then -(v : Int) else (v : Int)) := by
    show wrap64 (sg * (v : Int)) = _
    clear hv w1 w2
    rcases hsg with ⟨rfl, rfl⟩ | ⟨rfl, rfl⟩
    · rw [if_pos rfl]; unfold wrap64; omega
    · rw [if_neg (by decide)]; unfold wrap64; omega
  simp only [jigsawref05_number.j2]
  rw [w1.out, w2.out, w3.out]
  unfold numR badNum num
  rw [hn]
  by_cases h0 : n = 0
  · rw [if_pos (by omega), if_pos h0]
  · rw [if_neg (by omega), if_neg h0]
    by_cases h10 : 10 < n
    · rw [if_pos (by omega), decide_eq_true h10, Bool.true_or, if_pos rfl]
    · rw [show min n 10 = n by omega] at hv
      rw [if_neg (by omega), decide_eq_false h10, Bool.false_or]
      obtain ⟨c, r, hcr⟩ : ∃ c r, (tl s).drop fr = c :: r := ⟨_, _, drop_at s fr (by omega)⟩
      obtain ⟨hlt, hb, _⟩ := bt_drop hcr
      rw [hb]
      rw [hcr] at hv ⊢
      rw [List.headD_cons, ← hv]
      have hc48 : ((c.toNat : Int) = 48) ↔ c.toNat = 48 := by omega
      by_cases h1 : 1 < n
      · rw [if_pos (by omega), if_pos (by omega), if_pos (by omega), decide_eq_true h1, Bool.true_or, Bool.true_and]
        by_cases h48 : c.toNat = 48
        · rw [if_pos (hc48.2 h48), h48, if_pos (by decide)]
        · rw [if_neg (fun h => h48 (hc48.1 h)), show (c.toNat == 48) = false by simpa using h48]
          rcases hsg with ⟨rfl, rfl⟩ | ⟨rfl, rfl⟩
          · rw [if_pos (by decide), if_neg (by omega)]; rfl
          · rw [if_neg (by decide)]; rfl
      · have hn1 : n = 1 := by omega
        rw [if_neg (by omega), decide_eq_false h1, Bool.false_or]
        rcases hsg with ⟨rfl, rfl⟩ | ⟨rfl, rfl⟩
        · rw [if_pos (by decide), if_pos (by omega), if_pos (by omega), if_pos (by omega), Bool.true_and]
          by_cases h48 : c.toNat = 48
          · rw [if_pos (hc48.2 h48), h48, if_pos (by decide)]
          · rw [if_neg (fun h => h48 (hc48.1 h)), show (c.toNat == 48) = false by simpa using h48]; rfl
        · rw [if_neg (by decide), Bool.false_and]; rfl
theorem num_loop (s : ByteArray) (hs : s.size ≤ 2000000000) (x1 z fr : Nat) (neg : Bool) (sg : Int) (hsg : (sg = -1 ∧ neg = true) ∨ (sg = 1 ∧ neg = false)) (hfr : fr = x1 + z) (hz : z ≤ 1) : ∀ (d j v : Nat), fr + j ≤ s.size → s.size - (fr + j) < d →
    cnt isD ((tl s).drop fr) = j + cnt isD ((tl s).drop (fr + j)) → v = valN 0 (((tl s).drop fr).take (min j 10)) → v < 10 ^ (min j 10) →
    Ev (fun k => jigsawref05_number.l0 k s (x1 : Int) ((fr + j : Nat) : Int) sg (fr : Int) (v : Int)) (numR neg ((tl s).drop fr) z) := by
  intro d
  induction d with
  | zero => exact fun _ _ _ h => absurd h (by omega)
  | succ d ihd =>
    intro j v h1 h2 hc hv hv2
    have hp : (10 : Nat) ^ (min j 10) ≤ 10 ^ 10 := Nat.pow_le_pow_right (by omega) (by omega)
    have hv3 : v < 10000000000 := by
      have e10 : (10 : Nat) ^ 10 = 10000000000 := by simp
      rw [e10] at hp
      exact Nat.lt_of_lt_of_le hv2 hp
    have wend : cnt isD ((tl s).drop (fr + j)) = 0 → Ev (fun k => jigsawref05_number.j2 k s (x1 : Int) ((fr + j : Nat) : Int) sg (fr : Int) (v : Int)) (numR neg ((tl s).drop fr) z) := fun h0 =>
      Ev.step (f := fun _ => some (numR neg ((tl s).drop fr) z)) (fun k => num_end s hs x1 z fr neg sg hsg hfr hz j v (by rw [hc, h0]; rfl) h1 hv hv3 k) (Ev.now _)
    by_cases hlt : fr + j < s.size
    · obtain ⟨c, r, hcr⟩ : ∃ c r, (tl s).drop (fr + j) = c :: r := ⟨_, _, drop_at s _ hlt⟩
      obtain ⟨_, hb, hr⟩ := bt_drop hcr
      have i1 : ((fr + j : Nat) : Int) < (s.size : Int) := by omega
      have i2 : (0 : Int) ≤ ((fr + j : Nat) : Int) := by omega
      have w1 : Hid (wrap64 (((fr + j : Nat) : Int) - (fr : Int)) = (j : Int)) := by show wrap64 (((fr + j : Nat) : Int) - (fr : Int)) = (j : Int); clear hp hv hv2 hc; unfold wrap64; omega
      have w2 : Hid (wrap64 (((fr + j : Nat) : Int) + 1) = ((fr + (j + 1) : Nat) : Int)) := by show wrap64 (((fr + j : Nat) : Int) + 1) = ((fr + (j + 1) : Nat) : Int); clear hp hv hv2 hc; unfold wrap64; omega
      cases hd : isD c with
      | false =>
        refine Ev.step (f := fun k => jigsawref05_number.j2 k s (x1 : Int) ((fr + j : Nat) : Int) sg (fr : Int) (v : Int)) (fun k => ?_) (wend (by rw [hcr, cnt_cons, hd]; rfl))
        simp only [jigsawref05_number.l0]
        rw [if_pos i1, if_pos i2, hb, rdigit_f, hd, Option.bind_some, if_neg (by decide)]
      | true =>
        have hD := hd
        simp only [isD, Bool.and_eq_true, decide_eq_true_eq] at hD
        have hcnt : cnt isD ((tl s).drop fr) = j + 1 + cnt isD ((tl s).drop (fr + (j + 1))) := by
          rw [show fr + (j + 1) = fr + j + 1 by omega, hr]
          rw [hcr, cnt_cons, hd, if_pos rfl] at hc
          rw [hc, Nat.add_right_comm]
          rfl
        have hjth : ((tl s).drop fr)[j]? = some c := by
          rw [List.getElem?_drop]
          have := congrArg (fun l => l[0]?) hcr
          simpa using this
        by_cases h10 : j < 10
        · have hm1 : min (j + 1) 10 = j + 1 := by omega
          have hm0 : min j 10 = j := by omega
          rw [hm0] at hv hv2
          have hstep : v * 10 + (c.toNat - 48) = valN 0 (((tl s).drop fr).take (min (j + 1) 10)) := by
            rw [hm1, List.take_add_one, hjth]
            simp only [Option.toList_some]
            rw [valN_snoc, ← hv, Nat.mul_comm]
          have hlt2 : v * 10 + (c.toNat - 48) < 10 ^ (min (j + 1) 10) := by
            rw [hm1, Nat.pow_succ]
            clear hstep hv hp
            generalize 10 ^ j = P at hv2 ⊢
            omega
          have w3 := Lib.hid (w_dig v c.toNat (Nat.lt_trans hv3 (by decide)) hD.1 hD.2)
          refine Ev.step (f := fun k => jigsawref05_number.l0 k s (x1 : Int) ((fr + (j + 1) : Nat) : Int) sg (fr : Int) ((v * 10 + (c.toNat - 48) : Nat) : Int)) (fun k => ?_)
            (ihd (j + 1) _ (by omega) (by omega) hcnt hstep hlt2)
          have i3 : (j : Int) < 10 := by omega
          simp only [jigsawref05_number.l0]
          rw [if_pos i1, if_pos i2, hb, rdigit_f, hd, Option.bind_some, if_pos rfl, w1.out, if_pos i3, w2.out, w3.out]
        · have hm : min (j + 1) 10 = min j 10 := by omega
          have i3 : ¬ (j : Int) < 10 := by omega
          refine Ev.step (f := fun k => jigsawref05_number.l0 k s (x1 : Int) ((fr + (j + 1) : Nat) : Int) sg (fr : Int) (v : Int)) (fun k => ?_)
            (ihd (j + 1) v (by omega) (by omega) hcnt (by rw [hm]; exact hv) (by rw [hm]; exact hv2))
          simp only [jigsawref05_number.l0]
          rw [if_pos i1, if_pos i2, hb, rdigit_f, hd, Option.bind_some, if_pos rfl, w1.out, if_neg i3, w2.out]
    · refine Ev.step (f := fun k => jigsawref05_number.j2 k s (x1 : Int) ((fr + j : Nat) : Int) sg (fr : Int) (v : Int)) (fun k => ?_) (wend (by rw [List.drop_eq_nil_of_le (by rw [tl_length]; omega), cnt_nil]))
      have i1 : ¬ ((fr + j : Nat) : Int) < (s.size : Int) := by omega
      simp only [jigsawref05_number.l0]
      rw [if_neg i1]
theorem number_ev (s : ByteArray) (hs : s.size ≤ 2000000000) (at_ : Nat) (c : UInt8) (r : List UInt8) (h : (tl s).drop at_ = c :: r) :
    Ev (fun k => jigsawref05_number.f k s (at_ : Int)) (numR (decide (c.toNat = 45)) (if c.toNat = 45 then r else c :: r) (if c.toNat = 45 then 1 else 0)) := by
  obtain ⟨hlt, hb, hr⟩ := bt_drop h
  unfold jigsawref05_number.f
  by_cases hc : c.toNat = 45
  · rw [if_pos hc, if_pos hc, decide_eq_true hc]
    have w1 : Hid (wrap64 ((at_ : Int) + 1) = ((at_ + 1 : Nat) : Int)) := by show wrap64 ((at_ : Int) + 1) = ((at_ + 1 : Nat) : Int); unfold wrap64; omega
    have := num_loop s hs at_ 1 (at_ + 1) true (-1) (.inl ⟨rfl, rfl⟩) rfl (by omega) (s.size + 1) 0 0 (by omega) (by omega) (by rw [Nat.zero_add]) rfl (by decide)
    rw [hr] at this
    refine Ev.congr (f := fun k => jigsawref05_number.j0 k s (at_ : Int) ((at_ + 1 : Nat) : Int) (-1)) (fun k => ?_) ?_
    · rw [if_pos (by omega), if_pos (by omega), hb, if_pos (by omega), w1.out]
    · refine Ev.step (f := fun k => jigsawref05_number.l0 k s (at_ : Int) ((at_ + 1 : Nat) : Int) (-1) ((at_ + 1 : Nat) : Int) 0) (fun k => ?_) this
      simp only [jigsawref05_number.j0]
  · rw [if_neg hc, if_neg hc, decide_eq_false hc]
    have := num_loop s hs at_ 0 at_ false 1 (.inr ⟨rfl, rfl⟩) rfl (by omega) (s.size + 1) 0 0 (by omega) (by omega) (by rw [Nat.zero_add, Nat.add_zero]) rfl (by decide)
    rw [h] at this
    refine Ev.congr (f := fun k => jigsawref05_number.j0 k s (at_ : Int) (at_ : Int) 1) (fun k => ?_) ?_
    · rw [if_pos (by omega), if_pos (by omega), hb, if_neg (by omega)]
    · refine Ev.step (f := fun k => jigsawref05_number.l0 k s (at_ : Int) (at_ : Int) 1 (at_ : Int) 0) (fun k => ?_) this
      simp only [jigsawref05_number.j0]

def mk43 (t : T) : S43 := ⟨t.kind, ⟨t.text.toArray⟩, t.num, (t.at_ : Int)⟩
def out43 (R : List T × Int × Int) : List S43 × Int × Int := (R.1.map mk43, R.2.1, R.2.2)
theorem com_loop (s : ByteArray) (hs : s.size ≤ 1048576) (acc : List S43) : ∀ (d at_ : Nat) (R : List S43 × Int × Int), at_ ≤ s.size → s.size - at_ < d →
    Ev (fun k => jigsawref05_Lex.l0 k s acc ((at_ + cnt isN ((tl s).drop at_) : Nat) : Int)) R → Ev (fun k => jigsawref05_Lex.l1 k s acc (at_ : Int)) R := by
  intro d
  induction d with
  | zero => exact fun _ _ _ h => absurd h (by omega)
  | succ d ihd =>
    intro at_ R h1 h2 hE
    by_cases hlt : at_ < s.size
    · obtain ⟨c, r, hcr⟩ : ∃ c r, (tl s).drop at_ = c :: r := ⟨_, _, drop_at s _ hlt⟩
      obtain ⟨_, hb, hr⟩ := bt_drop hcr
      rw [hcr, cnt_cons] at hE
      by_cases hn : isN c = true
      · rw [if_pos hn] at hE
        have hn2 : c.toNat ≠ 10 := by simpa [isN] using hn
        have w1 : Hid (wrap64 ((at_ : Int) + 1) = ((at_ + 1 : Nat) : Int)) := by show wrap64 ((at_ : Int) + 1) = ((at_ + 1 : Nat) : Int); unfold wrap64; omega
        refine Ev.step (f := fun k => jigsawref05_Lex.l1 k s acc ((at_ + 1 : Nat) : Int)) (fun k => ?_) (ihd (at_ + 1) R (by omega) (by omega) (by rw [hr, show at_ + 1 + cnt isN r = at_ + (cnt isN r + 1) by omega]; exact hE))
        simp only [jigsawref05_Lex.l1]
        rw [if_pos (by omega), if_pos (by omega), hb, if_neg (by omega), w1.out]
      · rw [if_neg hn, Nat.add_zero] at hE
        have hn2 : c.toNat = 10 := by simpa [isN] using hn
        refine Ev.step (f := fun k => jigsawref05_Lex.l0 k s acc (at_ : Int)) (fun k => ?_) hE
        simp only [jigsawref05_Lex.l1]
        rw [if_pos (by omega), if_pos (by omega), hb, if_pos (by omega)]
    · rw [List.drop_eq_nil_of_le (by rw [tl_length]; omega), cnt_nil, Nat.add_zero] at hE
      refine Ev.step (f := fun k => jigsawref05_Lex.l0 k s acc (at_ : Int)) (fun k => ?_) hE
      simp only [jigsawref05_Lex.l1]
      rw [if_neg (by omega)]
theorem ref_head (s : ByteArray) (acc : List S43) (at_ : Nat) (c : UInt8) (r : List UInt8) (h : (tl s).drop at_ = c :: r) (k : Nat) :
    jigsawref05_Lex.l0 (k + 1) s acc (at_ : Int) = jigsawref05_Lex.j1 k s acc (at_ : Int) (c.toNat : Int) (isB c) := by
  obtain ⟨hlt, hb, _⟩ := bt_drop h
  simp only [jigsawref05_Lex.l0]
  rw [if_pos (by omega), if_pos (by omega), hb]
  by_cases h32 : c.toNat = 32
  · rw [if_pos (by omega), show isB c = true by simp [isB, h32]]
  · rw [if_neg (by omega)]
    by_cases h9 : c.toNat = 9
    · rw [if_pos (by omega), show isB c = true by simp [isB, h9]]
    · rw [if_neg (by omega)]
      by_cases h10 : c.toNat = 10
      · rw [if_pos (by omega), show isB c = true by simp [isB, h10]]
      · rw [if_neg (by omega), show isB c = ((c.toNat : Int) == 13) by
          rw [Bool.eq_iff_iff]; simp [isB, h32, h9, h10]; omega]
theorem ref_signs (s : ByteArray) (acc : List S43) (at_ : Nat) (c : UInt8) (k : Nat) :
    (if (c.toNat : Int) = 40 then (jigsawref05_Lex.j3 k s acc (at_ : Int) (c.toNat : Int) 0 true) else (if (c.toNat : Int) = 41 then (jigsawref05_Lex.j3 k s acc (at_ : Int) (c.toNat : Int) 0 true) else (if (c.toNat : Int) = 91 then (jigsawref05_Lex.j3 k s acc (at_ : Int) (c.toNat : Int) 0 true) else (if (c.toNat : Int) = 93 then (jigsawref05_Lex.j3 k s acc (at_ : Int) (c.toNat : Int) 0 true) else (if (c.toNat : Int) = 123 then (jigsawref05_Lex.j3 k s acc (at_ : Int) (c.toNat : Int) 0 true) else (if (c.toNat : Int) = 125 then (jigsawref05_Lex.j3 k s acc (at_ : Int) (c.toNat : Int) 0 true) else (if (c.toNat : Int) = 44 then (jigsawref05_Lex.j3 k s acc (at_ : Int) (c.toNat : Int) 0 true) else (if (c.toNat : Int) = 59 then (jigsawref05_Lex.j3 k s acc (at_ : Int) (c.toNat : Int) 0 true) else (jigsawref05_Lex.j3 k s acc (at_ : Int) (c.toNat : Int) 0 ((c.toNat : Int) == 58))))))))))
      = jigsawref05_Lex.j3 k s acc (at_ : Int) (c.toNat : Int) 0 (isS c) := by
  cases hS : isS c with
  | true =>
    simp only [isS, Bool.or_eq_true, beq_iff_eq] at hS
    repeat' split
    all_goals first | rfl | (rw [show ((c.toNat : Int) == 58) = true by rw [beq_iff_eq]; omega])
  | false =>
    simp only [isS, Bool.or_eq_false_iff, beq_eq_false_iff_ne] at hS
    rw [if_neg (by omega), if_neg (by omega), if_neg (by omega), if_neg (by omega), if_neg (by omega), if_neg (by omega), if_neg (by omega), if_neg (by omega), show ((c.toNat : Int) == 58) = false by rw [beq_eq_false_iff_ne]; omega]
theorem signs_end (s : ByteArray) (hs : s.size ≤ 1048576) (acc : List S43) (at_ : Nat) (c : UInt8) (r : List UInt8) (h : (tl s).drop at_ = c :: r) (hacc : acc.length ≤ at_) (R : List S43 × Int × Int)
    (h2 : (c.toNat = 46 ∧ (r.headD 0).toNat = 46) → at_ + 2 ≤ s.size → Ev (fun k => jigsawref05_Lex.l0 k s (acc ++ [(⟨3, s.extract at_ (at_ + 2), 0, (at_ : Int)⟩ : S43)]) ((at_ + 2 : Nat) : Int)) R)
    (h1 : ¬ (c.toNat = 46 ∧ (r.headD 0).toNat = 46) → isS c = true → Ev (fun k => jigsawref05_Lex.l0 k s (acc ++ [(⟨3, s.extract at_ (at_ + 1), 0, (at_ : Int)⟩ : S43)]) ((at_ + 1 : Nat) : Int)) R)
    (h0 : ¬ (c.toNat = 46 ∧ (r.headD 0).toNat = 46) → isS c = false → R = ([], (at_ : Int), 6)) :
    Ev (fun k => jigsawref05_Lex.j3 k s acc (at_ : Int) (c.toNat : Int) 0 (isS c)) R := by
  obtain ⟨hlt, hb, hr⟩ := bt_drop h
  have w1 : Hid (wrap64 ((at_ : Int) + 1) = ((at_ + 1 : Nat) : Int)) := by show wrap64 ((at_ : Int) + 1) = ((at_ + 1 : Nat) : Int); unfold wrap64; omega
  have w2 : Hid (wrap64 ((at_ : Int) + 2) = ((at_ + 2 : Nat) : Int)) := by show wrap64 ((at_ : Int) + 2) = ((at_ + 2 : Nat) : Int); unfold wrap64; omega
  have j4_ : ∀ (k : Nat) (x8 : Int), jigsawref05_Lex.j4 (k + 1) s acc (at_ : Int) (c.toNat : Int) x8 = jigsawref05_Lex.j5 k s acc (at_ : Int) x8 (decide (c.toNat = 46 ∧ (r.headD 0).toNat = 46)) := by
    intro k x8
    simp only [jigsawref05_Lex.j4]
    by_cases h46 : c.toNat = 46
    · rw [if_pos (by omega), w1.out]
      by_cases hlt2 : at_ + 1 < s.size
      · rw [if_pos (by omega), if_pos (by omega)]
        obtain ⟨a, r2, har⟩ : ∃ a r2, (tl s).drop (at_ + 1) = a :: r2 := ⟨_, _, drop_at s _ hlt2⟩
        rw [(bt_drop har).2.1]
        rw [hr] at har
        have hbb : ((a.toNat : Int) == 46) = decide (c.toNat = 46 ∧ a.toNat = 46) := by
          rw [Bool.eq_iff_iff, beq_iff_eq, decide_eq_true_eq]
          exact ⟨fun h => ⟨h46, by omega⟩, fun h => by omega⟩
        rw [har, List.headD_cons, hbb]
      · rw [if_neg (by omega)]
        have hnil : r = [] := by rw [← hr, List.drop_eq_nil_of_le (by rw [tl_length]; omega)]
        rw [hnil, decide_eq_false (by simp)]
    · rw [if_neg (by omega), decide_eq_false (fun h => h46 h.1)]
  have hL : acc.length < 3518437208883 := by omega
  have i0 : (0 : Int) ≤ (at_ : Int) := by omega
  by_cases hdd : c.toNat = 46 ∧ (r.headD 0).toNat = 46
  · have hsz : at_ + 2 ≤ s.size := by
      cases hrr : r with
      | nil => rw [hrr] at hdd; simp at hdd
      | cons a r2 =>
        rw [hrr] at hr
        have := (bt_drop hr).1
        omega
    have j5_ : ∀ (k : Nat) (x8 : Int), jigsawref05_Lex.j5 (k + 1) s acc (at_ : Int) x8 true = jigsawref05_Lex.l0 k s (acc ++ [(⟨3, s.extract at_ (at_ + 2), 0, (at_ : Int)⟩ : S43)]) ((at_ + 2 : Nat) : Int) := by
      intro k x8
      have i1 : (at_ : Int) ≤ ((at_ + 2 : Nat) : Int) := by omega
      have i2 : ((at_ + 2 : Nat) : Int) ≤ (s.size : Int) := by omega
      simp only [jigsawref05_Lex.j5]
      rw [if_pos trivial, w2.out, if_pos i0, if_pos i1, if_pos i2, if_pos hL, Int.toNat_natCast, Int.toNat_natCast]
    have e2 := h2 hdd hsz
    have e3 : ∀ x8 : Int, Ev (fun k => jigsawref05_Lex.j4 k s acc (at_ : Int) (c.toNat : Int) x8) R := fun x8 =>
      Ev.step (f := fun k => jigsawref05_Lex.j5 k s acc (at_ : Int) x8 true) (fun k => by rw [j4_, decide_eq_true hdd]) (Ev.step (fun k => j5_ k x8) e2)
    cases isS c with
    | true => exact Ev.step (f := fun k => jigsawref05_Lex.j4 k s acc (at_ : Int) (c.toNat : Int) 1) (fun k => by simp only [jigsawref05_Lex.j3]; rw [if_pos trivial]) (e3 1)
    | false => exact Ev.step (f := fun k => jigsawref05_Lex.j4 k s acc (at_ : Int) (c.toNat : Int) 0) (fun k => by simp only [jigsawref05_Lex.j3]; rw [if_neg (by decide)]) (e3 0)
  · cases hS : isS c with
    | true =>
      have i1 : (at_ : Int) ≤ ((at_ + 1 : Nat) : Int) := by omega
      have i2 : ((at_ + 1 : Nat) : Int) ≤ (s.size : Int) := by omega
      have j5_ : ∀ (k : Nat), jigsawref05_Lex.j5 (k + 1) s acc (at_ : Int) 1 false = jigsawref05_Lex.l0 k s (acc ++ [(⟨3, s.extract at_ (at_ + 1), 0, (at_ : Int)⟩ : S43)]) ((at_ + 1 : Nat) : Int) := by
        intro k
        simp only [jigsawref05_Lex.j5]
        rw [if_neg (by decide), if_neg (by decide), w1.out, if_pos i0, if_pos i1, if_pos i2, if_pos hL, Int.toNat_natCast, Int.toNat_natCast]
      exact Ev.step (f := fun k => jigsawref05_Lex.j4 k s acc (at_ : Int) (c.toNat : Int) 1) (fun k => by simp only [jigsawref05_Lex.j3]; rw [if_pos trivial])
        (Ev.step (f := fun k => jigsawref05_Lex.j5 k s acc (at_ : Int) 1 false) (fun k => by rw [j4_, decide_eq_false hdd]) (Ev.step j5_ (h1 hdd hS)))
    | false =>
      rw [h0 hdd hS]
      have j5_ : ∀ (k : Nat), jigsawref05_Lex.j5 (k + 1) s acc (at_ : Int) 0 false = some (([] : List S43), (at_ : Int), 6) := by
        intro k
        simp only [jigsawref05_Lex.j5]
        rw [if_neg (by decide), if_pos trivial]
      exact Ev.step (f := fun k => jigsawref05_Lex.j4 k s acc (at_ : Int) (c.toNat : Int) 0) (fun k => by simp only [jigsawref05_Lex.j3]; rw [if_neg (by decide)])
        (Ev.step (f := fun k => jigsawref05_Lex.j5 k s acc (at_ : Int) 0 false) (fun k => by rw [j4_, decide_eq_false hdd]) (Ev.step (f := fun _ => some _) j5_ (Ev.now _)))

theorem mid_take (s : ByteArray) (a n : Nat) (l : List UInt8) (h : (tl s).drop a = l) : s.extract a (a + n) = ⟨(l.take n).toArray⟩ := by
  apply mk_tl
  rw [tl_mid, h, Nat.add_sub_cancel_left]
theorem ref_loop (s : ByteArray) (hs : s.size ≤ 1048576) : ∀ (d at_ f : Nat) (acc : List T), at_ ≤ s.size → s.size - at_ < d → acc.length ≤ at_ → s.size - (at_ + skipW false ((tl s).drop at_)) ≤ f →
    Ev (fun k => jigsawref05_Lex.l0 k s (acc.map mk43) (at_ : Int)) (out43 (lexF f (at_ + skipW false ((tl s).drop at_)) ((tl s).drop (at_ + skipW false ((tl s).drop at_))) acc)) := by
  intro d
  induction d with
  | zero => exact fun _ _ _ _ h => absurd h (by omega)
  | succ d ihd =>
    intro at_ f acc h1 h2 h3 hf
    by_cases hlt : at_ < s.size
    · obtain ⟨c, r, hcr⟩ : ∃ c r, (tl s).drop at_ = c :: r := ⟨_, _, drop_at s _ hlt⟩
      obtain ⟨_, hb, hr⟩ := bt_drop hcr
      have hlen := congrArg List.length hcr
      rw [List.length_drop, tl_length, List.length_cons] at hlen
      have hL : (acc.map mk43).length < 3518437208883 := by
        have : (acc.map mk43).length = acc.length := List.length_map _
        omega
      refine Ev.step (f := fun k => jigsawref05_Lex.j1 k s (acc.map mk43) (at_ : Int) (c.toNat : Int) (isB c)) (fun k => ref_head s _ at_ c r hcr k) ?_
      cases hB : isB c with
      | true =>
        have hW : skipW false (c :: r) = 1 + skipW false r := by simp only [skipW, if_pos hB]
        rw [hcr, hW] at hf ⊢
        have w1 : Hid (wrap64 ((at_ : Int) + 1) = ((at_ + 1 : Nat) : Int)) := by show wrap64 ((at_ : Int) + 1) = ((at_ + 1 : Nat) : Int); unfold wrap64; omega
        have ih := ihd (at_ + 1) f acc (by omega) (by omega) (by omega) (by rw [hr]; omega)
        rw [hr, show at_ + 1 + skipW false r = at_ + (1 + skipW false r) by omega] at ih
        refine Ev.step (f := fun k => jigsawref05_Lex.l0 k s (acc.map mk43) ((at_ + 1 : Nat) : Int)) (fun k => ?_) ih
        simp only [jigsawref05_Lex.j1]
        rw [if_pos trivial, w1.out]
      | false =>
        by_cases h37 : c.toNat = 37
        · have hpc := skipW_pct r c h37
          have hm := cnt_le isN (c :: r)
          have hm1 : 1 ≤ cnt isN (c :: r) := by rw [cnt_cons, if_pos (by simp [isN, h37])]; omega
          rw [List.length_cons] at hm
          obtain ⟨m, em⟩ : ∃ m, cnt isN (c :: r) = m := ⟨_, rfl⟩
          rw [em] at hpc hm hm1
          rw [show (c :: r).drop m = (tl s).drop (at_ + m) by rw [← hcr, List.drop_drop]] at hpc
          rw [hcr, hpc] at hf ⊢
          have ih := ihd (at_ + m) f acc (by omega) (by omega) (by omega) (by omega)
          rw [show at_ + m + skipW false ((tl s).drop (at_ + m)) = at_ + (m + skipW false ((tl s).drop (at_ + m))) by omega] at ih
          refine Ev.step (f := fun k => jigsawref05_Lex.l1 k s (acc.map mk43) (at_ : Int)) (fun k => ?_) (com_loop s hs _ (s.size + 1) at_ _ (by omega) (by omega) (by rw [hcr, em]; exact ih))
          simp only [jigsawref05_Lex.j1]
          rw [if_neg (by decide), if_pos (by omega)]
        · have hW := skipW_stop c r hB h37
          rw [hcr, hW, Nat.add_zero] at hf ⊢
          rw [hcr]
          obtain ⟨f, rfl⟩ : ∃ f', f = f' + 1 := ⟨f - 1, by omega⟩
          rw [lexF, if_neg (by simp)]
          have next : ∀ (n : Nat) (kd v : Int), 1 ≤ n → at_ + n ≤ s.size → Ev (fun k => jigsawref05_Lex.l0 k s (acc.map mk43 ++ [(⟨kd, s.extract at_ (at_ + n), v, (at_ : Int)⟩ : S43)]) ((at_ + n : Nat) : Int))
              (out43 (lexF f (at_ + n + skipW false ((c :: r).drop n)) ((c :: r).drop (n + skipW false ((c :: r).drop n))) (acc ++ [⟨kd, (c :: r).take n, v, at_⟩]))) := by
            intro n kd v hn hle
            have hd : (tl s).drop (at_ + n) = (c :: r).drop n := by rw [← hcr, List.drop_drop]
            have hsk := skipW_le false ((c :: r).drop n)
            rw [List.length_drop, List.length_cons] at hsk
            have ih := ihd (at_ + n) f (acc ++ [⟨kd, (c :: r).take n, v, at_⟩]) (by omega) (by omega) (by simp; omega) (by rw [hd]; omega)
            have e5 : ∀ x, (tl s).drop (at_ + n + x) = (c :: r).drop (n + x) := fun x => by rw [← hcr, List.drop_drop, Nat.add_assoc]
            rw [hd, e5] at ih
            rw [List.map_append] at ih
            rw [mid_take s at_ n (c :: r) hcr]
            exact ih
          have htok := tok_bounds (c :: r)
          have hword := word_ev s (by omega) at_ c r hcr
          refine Ev.step (f := fun k => (jigsawref05_word.f k s (at_ : Int)).bind fun t136 => _) (fun k => by
            simp only [jigsawref05_Lex.j1]
            rw [if_neg (by decide), if_neg (by omega)]) ?_
          cases hl : isL c with
          | true =>
            rw [hl, if_pos rfl] at hword
            refine Ev.bind hword ?_
            have ht : tok (c :: r) = .ok 1 (cnt isI (c :: r)) 0 := by rw [tok, if_pos hl]
            obtain ⟨hn1, hn2⟩ := htok _ _ _ ht
            rw [List.length_cons] at hn2
            rw [ht]
            obtain ⟨n, en⟩ : ∃ n, cnt isI (c :: r) = n := ⟨_, rfl⟩
            rw [en] at hn1 hn2 ⊢
            have w1 : Hid (wrap64 ((at_ : Int) + (n : Int)) = ((at_ + n : Nat) : Int)) := by show wrap64 ((at_ : Int) + (n : Int)) = ((at_ + n : Nat) : Int); unfold wrap64; omega
            refine Ev.congr (fun k => ?_) (next n 1 0 hn1 (by omega))
            rw [if_pos (by omega), w1.out, if_pos (by omega), if_pos (by omega), if_pos (by omega), if_pos hL, Int.toNat_natCast, Int.toNat_natCast]
          | false =>
            have hnum := number_ev s (by omega) at_ c r hcr
            rw [hl, if_neg (by decide)] at hword
            refine Ev.bind hword ?_
            refine Ev.congr (f := fun k => (jigsawref05_number.f k s (at_ : Int)).bind fun bt140 => _) (fun k => by
              rw [if_neg (show ¬ ((0 : Nat) : Int) > 0 by decide)]) ?_
            refine Ev.bind hnum ?_
            have ht : tok (c :: r) = (if 0 < cnt isD (if c.toNat = 45 then r else c :: r) then (if badNum (decide (c.toNat = 45)) (if c.toNat = 45 then r else c :: r) = true then .bad 15 else .ok 2 (cnt isD (if c.toNat = 45 then r else c :: r) + (if c.toNat = 45 then 1 else 0)) (num (decide (c.toNat = 45)) (if c.toNat = 45 then r else c :: r)))
                else if c.toNat = 46 ∧ (r.headD 0).toNat = 46 then .ok 3 2 0 else if isS c = true then .ok 3 1 0 else .bad 6) := by
              rw [tok, hl, if_neg (by decide)]
            obtain ⟨D, eD⟩ : ∃ D, (if c.toNat = 45 then r else c :: r) = D := ⟨_, rfl⟩
            obtain ⟨z, ez⟩ : ∃ z : Nat, (if c.toNat = 45 then 1 else 0) = z := ⟨_, rfl⟩
            rw [eD, ez] at ht ⊢
            obtain ⟨n, en⟩ : ∃ n, cnt isD D = n := ⟨_, rfl⟩
            rw [en] at ht
            unfold numR
            rw [en]
            by_cases h0 : 0 < n
            · rw [if_pos h0] at ht
              rw [if_neg (by omega)]
              cases hbad : badNum (decide (c.toNat = 45)) D with
              | true =>
                rw [hbad, if_pos rfl] at ht
                rw [if_pos rfl, ht]
                refine Ev.congr (f := fun _ => some _) (fun k => ?_) (Ev.now _)
                simp only
                rw [if_neg (by decide)]
                rfl
              | false =>
                rw [hbad, if_neg (by decide)] at ht
                obtain ⟨hn1, hn2⟩ := htok _ _ _ ht
                rw [List.length_cons] at hn2
                rw [if_neg (by decide), ht]
                have w1 : Hid (wrap64 ((at_ : Int) + ((n + z : Nat) : Int)) = ((at_ + (n + z) : Nat) : Int)) := by show wrap64 ((at_ : Int) + ((n + z : Nat) : Int)) = ((at_ + (n + z) : Nat) : Int); unfold wrap64; omega
                refine Ev.congr (fun k => ?_) (next (n + z) 2 (num (decide (c.toNat = 45)) D) hn1 (by omega))
                simp only
                rw [if_pos trivial, if_pos (by omega), w1.out, if_pos (by omega), if_pos (by omega), if_pos (by omega), if_pos hL, Int.toNat_natCast, Int.toNat_natCast]
            · rw [if_neg h0] at ht
              rw [if_pos (by omega)]
              refine Ev.congr (f := fun k => jigsawref05_Lex.j3 k s (acc.map mk43) (at_ : Int) (c.toNat : Int) 0 (isS c)) (fun k => ?_) ?_
              · simp only
                rw [if_pos trivial, if_neg (by decide)]
                exact ref_signs s _ at_ c k
              · refine signs_end s hs (acc.map mk43) at_ c r hcr (by rw [List.length_map]; exact h3) _ (fun hdd h2 => ?_) (fun hdd hS => ?_) (fun hdd hS => ?_)
                · rw [if_pos hdd] at ht
                  rw [ht]
                  exact next 2 3 0 (by omega) h2
                · rw [if_neg hdd, if_pos hS] at ht
                  rw [ht]
                  exact next 1 3 0 (by omega) (by omega)
                · rw [if_neg hdd, hS, if_neg (by decide)] at ht
                  rw [ht]
                  rfl
    · have hnil : (tl s).drop at_ = [] := List.drop_eq_nil_of_le (by rw [tl_length]; omega)
      rw [hnil]
      simp only [skipW, Nat.add_zero]
      rw [hnil]
      refine Ev.step (f := fun _ => some _) (fun k => ?_) (Ev.now _)
      simp only [jigsawref05_Lex.l0]
      rw [if_neg (by omega)]
      cases f with
      | zero => rfl
      | succ f => rw [lexF, if_pos rfl]; rfl
/-- The document's Lex. -/
theorem RefLex_ev (s : ByteArray) : Ev (fun k => jigsawref05_Lex.f k s) (out43 (lexS (tl s))) := by
  unfold lexS jigsawref05_Lex.f
  rw [tl_length]
  by_cases h : 1048576 < s.size
  · rw [if_pos h]
    refine Ev.congr (f := fun _ => some _) (fun k => ?_) (Ev.now _)
    rw [if_pos (by omega)]
    rfl
  · rw [if_neg h]
    refine Ev.congr (f := fun k => jigsawref05_Lex.l0 k s ([] : List S43) ((0 : Nat) : Int)) (fun k => ?_) ?_
    · rw [if_neg (by omega)]
      rfl
    · have := ref_loop s (by omega) (s.size + 1) 0 s.size [] (by omega) (by omega) (by simp) (by omega)
      rw [List.drop_zero, Nat.zero_add] at this
      exact this
end Go.Proofs.YtkcjlagaaekhjaaDoor.LexR
