/-
  What the program's lexer comes to, as a plain function: the document's tokens of the text's bytes. No conditions but each theorem's own.
-/
import Derived.Test.YtkcjlagaaekhjaaDoorXx2
import Derived.Test.YtkcjlagaaekhjaaDoorLex0
set_option linter.unusedVariables false
set_option linter.unusedSimpArgs false
namespace Go.Proofs.YtkcjlagaaekhjaaDoor.LexP
open Go.RowKit Go.Proofs.YtkcjlagaaekhjaaDoor.X Go.Proofs.YtkcjlagaaekhjaaDoorW.PrintWords LexS

theorem w64 (n : Nat) (h : n < 4611686018427387904) : wrap64 (n : Int) = (n : Int) := by unfold wrap64; omega
theorem hp_f (a p : ByteArray) : stringslite_HasPrefix.f a p = some ((tl a).take p.size == tl p) := by
  unfold stringslite_HasPrefix.f
  by_cases h : p.size ≤ a.size
  · rw [if_pos (by omega), if_pos (by omega), if_pos (by omega), Int.toNat_natCast, Lib.extract_toList, Lib.toList_data, List.drop_zero, Nat.sub_zero]
  · rw [if_neg (by omega)]
    refine congrArg some ?_
    symm
    rw [beq_eq_false_iff_ne]
    intro e
    have := congrArg List.length e
    rw [List.length_take, tl_length, tl_length] at this
    omega
theorem HasPrefix_f (a p : ByteArray) : strings_HasPrefix.f a p = some ((tl a).take p.size == tl p) := by
  unfold strings_HasPrefix.f
  rw [hp_f]
  rfl
theorem TrimPrefix_f (a p : ByteArray) : strings_TrimPrefix.f a p = some (if ((tl a).take p.size == tl p) = true then a.extract p.size a.size else a) := by
  unfold strings_TrimPrefix.f stringslite_TrimPrefix.f
  rw [hp_f]
  rw [Option.bind_some]
  by_cases h : ((tl a).take p.size == tl p) = true
  · have e := congrArg List.length (beq_iff_eq.1 h)
    rw [List.length_take, tl_length, tl_length] at e
    rw [if_pos h, if_pos h, if_pos (by omega), if_pos (by omega), Int.toNat_natCast]
    rfl
  · rw [if_neg h, if_neg h]
    rfl
theorem run28 (s : ByteArray) : lex_run.f s 28 = some ((cnt isB (tl s) : Nat) : Int) := by
  unfold lex_run.f lexPredB
  rw [if_pos rfl, Option.map_some, run_all _ false (fun r hr => by simp; omega) isB (fun c => by
    by_cases h : c.toNat < 128
    · rw [if_pos h]; rfl
    · rw [if_neg h]; simp [isB]; omega)]
theorem run29 (s : ByteArray) : lex_run.f s 29 = some ((cnt isN (tl s) : Nat) : Int) := by
  unfold lex_run.f lexPredB
  rw [if_neg (by decide), if_pos rfl, Option.map_some, run_all _ true (fun r hr => by simp; omega) isN (fun c => by
    by_cases h : c.toNat < 128
    · rw [if_pos h]; rfl
    · rw [if_neg h]; simp [isN]; omega)]
theorem run30 (s : ByteArray) : lex_run.f s 30 = some ((cnt isI (tl s) : Nat) : Int) := by
  unfold lex_run.f lexPredB
  rw [if_neg (by decide), if_neg (by decide), if_pos rfl, Option.map_some, run_all _ false (fun r hr => by simp; omega) isI (fun c => by
    by_cases h : c.toNat < 128
    · rw [if_pos h]; rfl
    · rw [if_neg h]; simp [isI, isL, isD]; omega)]
theorem run33 (s : ByteArray) : lex_run.f s 33 = some ((cnt isD (tl s) : Nat) : Int) := by
  unfold lex_run.f lexPredB
  rw [if_neg (by decide), if_neg (by decide), if_neg (by decide), if_pos rfl, Option.map_some, run_all _ false (fun r hr => by simp; omega) isD (fun c => by
    by_cases h : c.toNat < 128
    · rw [if_pos h]; rfl
    · rw [if_neg h]; simp [isD]; omega)]
theorem byte_eq {c : UInt8} {n : Nat} (h : c.toNat = n) (hn : n < 256) : c = UInt8.ofNat n := by
  apply UInt8.toNat.inj
  simp
  omega

theorem pct_f (s : ByteArray) : strings_HasPrefix.f s (⟨#[37]⟩ : ByteArray) = some ((tl s).take 1 == [37]) := HasPrefix_f s _
theorem skip_first (s : ByteArray) (at_ b : Nat) (eb : cnt isB ((tl s).drop at_) = b) (h1 : at_ + b ≤ s.size) (hs : s.size ≤ 2000000000) (k : Nat) :
    lex_skip.l0 (k + 1) s (at_ : Int) = (if (((tl s).drop (at_ + b)).take 1 == [37]) = true then lex_skip.l0 k s (wrap64 (((at_ + b : Nat) : Int) + ((cnt isN ((tl s).drop (at_ + b)) : Nat) : Int))) else some ((at_ + b : Nat) : Int)) := by
  have w1 : wrap64 ((at_ : Int) + (b : Int)) = ((at_ + b : Nat) : Int) := by unfold wrap64; omega
  have i1 : (0 : Int) ≤ (at_ : Int) := by omega
  have i2 : (at_ : Int) ≤ (s.size : Int) := by omega
  have i3 : (0 : Int) ≤ ((at_ + b : Nat) : Int) := by omega
  have i4 : ((at_ + b : Nat) : Int) ≤ (s.size : Int) := by omega
  simp only [lex_skip.l0]
  rw [if_pos i1, if_pos i2, Int.toNat_natCast, run28, tl_suffix, eb]
  rw [Option.bind_some]
  rw [w1, if_pos i3, if_pos i4, Int.toNat_natCast, pct_f, tl_suffix, run29, tl_suffix, Option.bind_some]
  by_cases hb : (((tl s).drop (at_ + b)).take 1 == [37]) = true
  · rw [if_pos hb, if_pos hb, Option.bind_some]
  · rw [if_neg hb, if_neg hb]
theorem skip_ev (s : ByteArray) (hs : s.size ≤ 2000000000) : ∀ (d at_ : Nat), at_ ≤ s.size → s.size - at_ < d → Ev (fun k => lex_skip.l0 k s (at_ : Int)) ((at_ + skipW false ((tl s).drop at_) : Nat) : Int) := by
  intro d
  induction d with
  | zero => exact fun _ _ h => absurd h (by omega)
  | succ d ihd =>
    intro at_ h1 h2
    have hb := cnt_le isB ((tl s).drop at_)
    rw [List.length_drop, tl_length] at hb
    have hW := skipW_blank ((tl s).drop at_)
    rw [List.drop_drop] at hW
    have hH := fun c r h => cnt_head isB ((tl s).drop at_) c r (by rw [List.drop_drop]; exact h)
    obtain ⟨b, eb⟩ : ∃ b, cnt isB ((tl s).drop at_) = b := ⟨_, rfl⟩
    rw [eb] at hb hW hH
    have first := skip_first s at_ b eb (by omega) (by omega)
    by_cases hp : (((tl s).drop (at_ + b)).take 1 == [37]) = true
    · obtain ⟨c, r, hcr⟩ : ∃ c r, (tl s).drop (at_ + b) = c :: r := by
        cases h : (tl s).drop (at_ + b) with
        | nil => rw [h] at hp; exact absurd hp (by decide)
        | cons c r => exact ⟨c, r, rfl⟩
      have h37 : c.toNat = 37 := by
        rw [hcr] at hp
        simp at hp
        rw [hp]; rfl
      have hpc := skipW_pct r c h37
      have hm := cnt_le isN (c :: r)
      have hm1 : 1 ≤ cnt isN (c :: r) := by rw [cnt_cons, if_pos (by simp [isN, h37])]; omega
      have hl := congrArg List.length hcr
      rw [List.length_drop, tl_length] at hl
      rw [← hcr, List.drop_drop] at hpc
      rw [← hcr] at hm hm1
      obtain ⟨m, em⟩ : ∃ m, cnt isN ((tl s).drop (at_ + b)) = m := ⟨_, rfl⟩
      rw [em] at hpc hm hm1
      rw [hcr] at hm
      simp only [List.length_cons] at hm hl
      have w2 : Hid (wrap64 (((at_ + b : Nat) : Int) + (m : Int)) = ((at_ + b + m : Nat) : Int)) := by show wrap64 (((at_ + b : Nat) : Int) + (m : Int)) = ((at_ + b + m : Nat) : Int); unfold wrap64; omega
      have i1 : at_ + b + m ≤ s.size := by clear hW hpc; omega
      have i2 : s.size - (at_ + b + m) < d := by clear hW hpc; omega
      have ih := ihd (at_ + b + m) i1 i2
      have e3 : at_ + skipW false ((tl s).drop at_) = at_ + b + m + skipW false ((tl s).drop (at_ + b + m)) := by rw [hW, hpc, Nat.add_assoc, Nat.add_assoc, Nat.add_assoc]
      rw [e3]
      refine Ev.step (f := fun k => lex_skip.l0 k s ((at_ + b + m : Nat) : Int)) (fun k => ?_) ih
      rw [first, if_pos hp, em, w2.out]
    · refine Ev.step (f := fun _ => some ((at_ + b : Nat) : Int)) (fun k => by rw [first, if_neg hp]) ?_
      have h0 : skipW false ((tl s).drop (at_ + b)) = 0 := by
        cases h : (tl s).drop (at_ + b) with
        | nil => rfl
        | cons c r =>
          refine skipW_stop c r (hH c r h) ?_
          intro h37
          refine hp ?_
          rw [h, byte_eq h37 (by omega)]
          rfl
      rw [hW, h0, Nat.add_zero]
      exact Ev.now _
theorem skip_f (s : ByteArray) (hs : s.size ≤ 2000000000) : Ev (fun k => lex_skip.f k s) ((skipW false (tl s) : Nat) : Int) := by
  have := skip_ev s hs (s.size + 1) 0 (by omega) (by omega)
  rw [List.drop_zero, Nat.zero_add] at this
  exact this

theorem letter_f (c : UInt8) : lex_letter.f (c.toNat : Int) = some (isL c) := by
  unfold lex_letter.f
  repeat' split
  all_goals (refine congrArg some ?_; rw [Bool.eq_iff_iff]; simp [isL] at *; try omega)
theorem head_take {l : List UInt8} {n : Nat} (h : 0 < n) : (l.take n).headD 0 = l.headD 0 := by
  cases l with
  | nil => simp
  | cons c r => cases n with
    | zero => omega
    | succ n => rfl
/-- What stands behind a minus, or all. -/
theorem trim_minus (s : ByteArray) (c : UInt8) (r : List UInt8) (h : tl s = c :: r) :
    ∃ d, strings_TrimPrefix.f s (⟨#[45]⟩ : ByteArray) = some d ∧ tl d = (if c.toNat = 45 then r else c :: r) ∧ (d.size : Int) = (s.size : Int) - (if c.toNat = 45 then 1 else 0) ∧ (c.toNat ≠ 45 → d = s) := by
  have hl := congrArg List.length h
  rw [tl_length, List.length_cons] at hl
  rw [TrimPrefix_f]
  refine ⟨_, rfl, ?_⟩
  by_cases hc : c.toNat = 45
  · have e : ((tl s).take (⟨#[45]⟩ : ByteArray).size == tl (⟨#[45]⟩ : ByteArray)) = true := by
      rw [h, byte_eq hc (by omega)]
      rfl
    rw [if_pos e, if_pos hc, if_pos hc]
    refine ⟨?_, ?_, fun h => absurd hc h⟩
    · show tl (s.extract 1 s.size) = r
      rw [tl_suffix, h]
      rfl
    · show ((s.extract 1 s.size).size : Int) = _
      rw [size_suffix]
      omega
  · have e : ¬ ((tl s).take (⟨#[45]⟩ : ByteArray).size == tl (⟨#[45]⟩ : ByteArray)) = true := by
      rw [h]
      intro e
      have e' : [c] = [45] := beq_iff_eq.1 e
      injection e' with e' _
      rw [e'] at hc
      exact hc rfl
    rw [if_neg e, if_neg hc, if_neg hc]
    exact ⟨h, by omega, fun _ => rfl⟩
theorem right_f (neg : Bool) (d : List UInt8) (s : ByteArray) (h : tl s = if neg = true then 45 :: d else d) (h0 : 0 < d.length) (hd : ∀ c ∈ d, isD c = true) :
    lex_right.f s = some (!(decide (10 < d.length) || ((decide (1 < d.length) || neg) && (d.headD 0).toNat == 48))) := by
  match d, h0, hd, h with
  | c :: r, _, hd, h =>
    have hc := hd c (by simp)
    simp only [isD, Bool.and_eq_true, decide_eq_true_eq] at hc
    obtain ⟨d', e1, e2⟩ : ∃ d', strings_TrimPrefix.f s (⟨#[45]⟩ : ByteArray) = some d' ∧ tl d' = c :: r := by
      cases neg with
      | true =>
        obtain ⟨d', e1, e2, _⟩ := trim_minus s 45 (c :: r) h
        exact ⟨d', e1, by rw [e2]; rfl⟩
      | false =>
        obtain ⟨d', e1, e2, _⟩ := trim_minus s c r h
        exact ⟨d', e1, by rw [e2, if_neg (by omega)]⟩
    have hsz : d'.size = r.length + 1 := by rw [← tl_length, e2]; rfl
    have hbt : bt d' 0 = (c.toNat : Int) := (bt_drop (s := d') (i := 0) (c := c) (r := r) (by rw [List.drop_zero]; exact e2)).2.1
    unfold lex_right.f
    rw [e1]
    simp only [Option.bind_some, Lib.toList_data, hbt]
    rw [show d'.data.toList = c :: r from e2, show s.data.toList = _ from h]
    simp only [List.length_cons, List.headD_cons]
    by_cases h10 : (d'.size : Int) ≤ 10
    · rw [if_pos h10]
      have hp0 : (0 : Int) < (d'.size : Int) := by omega
      by_cases h48 : c.toNat = 48
      · have hc48 := byte_eq h48 (by omega)
        cases r with
        | nil =>
          rw [if_pos (show [c] = [48] by rw [hc48]; rfl)]
          cases neg with
          | true => rw [if_neg (by simp), if_pos hp0, h48]; rfl
          | false => rw [if_pos (by simp)]; rfl
        | cons a r =>
          rw [if_neg (by simp), if_pos hp0, h48]
          simp
      · have hne : ¬ (c :: r = [48]) := by
          intro e
          injection e with e _
          rw [e] at h48
          exact h48 rfl
        rw [if_neg hne, if_pos hp0]
        have a1 : ((c.toNat : Int) != 48) = true := by rw [bne_iff_ne]; omega
        have a2 : (c.toNat == 48) = false := by simpa using h48
        have a3 : decide (10 < r.length + 1) = false := by simp; omega
        rw [a1, a2, a3]
        simp
    · rw [if_neg h10]
      have a3 : decide (10 < r.length + 1) = true := by simp; omega
      rw [a3]
      rfl

def res34 (l : List UInt8) : Tk → Int × ByteArray × Int × Int × Int × Int
  | .ok k n v => (k, ⟨(l.take n).toArray⟩, v, 0, (n : Int), 0)
  | .bad e => (0, ⟨#[]⟩, 0, 0, 0, e)
theorem cntI_zero {c : UInt8} {r : List UInt8} (h : cnt isI (c :: r) = 0) : isL c = false := by
  cases hl : isL c with
  | false => rfl
  | true =>
    rw [cnt_cons, if_pos (by simp [isI, hl])] at h
    omega
theorem wrap32_byte (c : UInt8) : wrap32 (c.toNat : Int) = (c.toNat : Int) := by
  have := c.toNat_lt
  unfold wrap32
  omega
theorem signs_f (c : UInt8) : strings_ContainsRune.f (⟨#[40, 41, 91, 93, 123, 125, 44, 59, 58]⟩ : ByteArray) (c.toNat : Int) = some (isS c) := by
  have := c.toNat_lt
  unfold strings_ContainsRune.f
  rw [if_pos ⟨by decide, by omega, by omega⟩]
  refine congrArg some ?_
  rw [Bool.eq_iff_iff]
  simp only [Ext.hasRune, isS, List.any_cons, List.any_nil, Bool.or_eq_true, decide_eq_true_eq, beq_iff_eq, Bool.false_eq_true, or_false]
  simp
  omega
theorem begin_ev (t : ByteArray) (c : UInt8) (r : List UInt8) (h : tl t = c :: r) (hs : t.size ≤ 2000000000) : Ev (fun k => lex_begin.f k t) (res34 (c :: r) (tok (c :: r))) := by
  have hsz : t.size = r.length + 1 := by rw [← tl_length, h]; rfl
  have hbt : bt t 0 = (c.toNat : Int) := (bt_drop (s := t) (i := 0) (c := c) (r := r) (by rw [List.drop_zero]; exact h)).2.1
  have hI := cnt_le isI (c :: r)
  have first : ∀ k, lex_begin.f k t = lex_begin.j0 k t ((cnt isI (c :: r) : Nat) : Int) (isL c) := by
    intro k
    unfold lex_begin.f
    rw [run30, h]
    rw [Option.bind_some]
    by_cases h0 : 0 < cnt isI (c :: r)
    · rw [if_pos (by omega), if_pos (by omega), hbt, wrap32_byte, letter_f]
      rfl
    · have hz : cnt isI (c :: r) = 0 := by omega
      rw [if_neg (by omega), cntI_zero hz]
  refine Ev.congr first ?_
  cases hl : isL c with
  | true =>
    refine Ev.step (f := fun _ => some (res34 (c :: r) (tok (c :: r)))) (fun k => ?_) (Ev.now _)
    have hI1 : (0 : Int) ≤ ((cnt isI (c :: r) : Nat) : Int) := by omega
    have hI2 : ((cnt isI (c :: r) : Nat) : Int) ≤ (t.size : Int) := by rw [List.length_cons] at hI; omega
    have hT : tok (c :: r) = .ok 1 (cnt isI (c :: r)) 0 := by rw [tok, if_pos hl]
    simp only [lex_begin.j0]
    rw [if_pos trivial, if_pos hI1, if_pos hI2, Int.toNat_natCast, hT, mk_tl (tl_prefix t (cnt isI (c :: r))), h]
    rfl
  | false =>
    obtain ⟨d, e1, e2, e3, e4⟩ := trim_minus t c r h
    have hn := cnt_le isD (if c.toNat = 45 then r else c :: r)
    have hlen : (if c.toNat = 45 then r else c :: r).length = r.length + (if c.toNat = 45 then 0 else 1) := by split <;> simp
    have hall := cnt_all isD (if c.toNat = 45 then r else c :: r)
    obtain ⟨D, eD⟩ : ∃ D, (if c.toNat = 45 then r else c :: r) = D := ⟨_, rfl⟩
    have hLD : c :: r = if c.toNat = 45 then 45 :: D else D := by
      by_cases hc : c.toNat = 45
      · rw [if_pos hc] at eD ⊢
        rw [← eD, byte_eq hc (by omega)]
        rfl
      · rw [if_neg hc] at eD ⊢
        exact eD
    have htok : tok (c :: r) = (if 0 < cnt isD D then (if badNum (decide (c.toNat = 45)) D = true then .bad 15 else .ok 2 (cnt isD D + (if c.toNat = 45 then 1 else 0)) (num (decide (c.toNat = 45)) D))
        else if c.toNat = 46 ∧ (r.headD 0).toNat = 46 then .ok 3 2 0 else if isS c = true then .ok 3 1 0 else .bad 6) := by
      rw [tok, hl, if_neg (by decide), eD]
    rw [eD] at hn hlen hall e2
    obtain ⟨n, en⟩ : ∃ n, cnt isD D = n := ⟨_, rfl⟩
    have hneg : ∃ z : Nat, (if c.toNat = 45 then 1 else 0) = z ∧ z ≤ 1 ∧ ((t.size : Int) - (d.size : Int)) = (z : Int) ∧ (z = 1 ↔ c.toNat = 45) ∧ (if c.toNat = 45 then (0 : Nat) else 1) = 1 - z := by
      by_cases hc : c.toNat = 45
      · rw [if_pos hc] at e3
        exact ⟨1, by rw [if_pos hc], by omega, by omega, by simp [hc], by rw [if_pos hc]⟩
      · rw [if_neg hc] at e3
        exact ⟨0, by rw [if_neg hc], by omega, by omega, by simp [hc], by rw [if_neg hc]⟩
    obtain ⟨z, ez, hz1, hz2, hz3, hz4⟩ := hneg
    rw [hz4] at hlen
    rw [htok, ez, en]
    rw [en] at hn hall
    have w1 : Hid (wrap64 ((t.size : Int) - (d.size : Int)) = (z : Int)) := by show wrap64 ((t.size : Int) - (d.size : Int)) = (z : Int); rw [hz2]; unfold wrap64; omega
    have w2 : Hid (wrap64 ((n : Int) + (z : Int)) = ((n + z : Nat) : Int)) := by show wrap64 ((n : Int) + (z : Int)) = ((n + z : Nat) : Int); unfold wrap64; omega
    refine Ev.step (f := fun _ => some _) (fun k => ?_) (Ev.now _)
    simp only [lex_begin.j0]
    rw [if_neg (by decide), e1]
    rw [Option.bind_some]
    rw [run33, e2, en]
    rw [Option.bind_some]
    by_cases h0 : 0 < n
    · rw [if_pos h0, if_pos (by omega), w1.out, w2.out, if_pos (by omega), if_pos (by omega), Int.toNat_natCast]
      have htx : tl (t.extract 0 (n + z)) = if (decide (c.toNat = 45)) = true then 45 :: D.take n else D.take n := by
        rw [tl_prefix, h, hLD]
        by_cases hc : c.toNat = 45
        · rw [if_pos hc, if_pos (decide_eq_true hc), hz3.2 hc, List.take_succ_cons]
        · rw [if_neg hc, if_neg (by simpa using hc), show z = 0 by have := hz3.1; omega, Nat.add_zero]
      have hlT : (D.take n).length = n := by rw [List.length_take]; omega
      have hr := right_f (decide (c.toNat = 45)) (D.take n) (t.extract 0 (n + z)) htx (by omega) hall
      have hbad : (decide (10 < (D.take n).length) || ((decide (1 < (D.take n).length) || decide (c.toNat = 45)) && ((D.take n).headD 0).toNat == 48)) = badNum (decide (c.toNat = 45)) D := by
        rw [hlT, head_take h0, badNum, en]
      rw [hbad] at hr
      rw [hr]
      rw [Option.bind_some]
      cases hb : badNum (decide (c.toNat = 45)) D with
      | true => rfl
      | false =>
        have hb10 : n ≤ 10 := by
          rw [badNum, en, Bool.or_eq_false_iff] at hb
          simpa using hb.1
        have ha := atoi_digits (decide (c.toNat = 45)) (D.take n) (by omega) (by omega) hall
        have hsz2 : (t.extract 0 (n + z)).size ≤ 1000 := by
          rw [← tl_length, tl_prefix, List.length_take]
          omega
        unfold strconv_Atoi.f
        rw [if_pos (show (!false) = true from rfl), if_pos hsz2, show (t.extract 0 (n + z)).data.toList = _ from htx, ha]
        simp only [Option.bind_some, Bool.false_eq_true, if_false, res34, num, en]
        rw [mk_tl (tl_prefix t (n + z)), h]
    · rw [if_neg h0, if_neg (by omega), HasPrefix_f, h]
      rw [Option.bind_some]
      by_cases hdd : c.toNat = 46 ∧ (r.headD 0).toNat = 46
      · rw [if_pos hdd]
        obtain ⟨d1, d2⟩ := hdd
        cases r with
        | nil => simp at d2
        | cons a r =>
          have ea : a = 46 := byte_eq (n := 46) d2 (by decide)
          have ec : c = 46 := byte_eq (n := 46) d1 (by decide)
          subst ea; subst ec
          rfl
      · rw [if_neg hdd]
        have hp : ((c :: r).take (⟨#[46, 46]⟩ : ByteArray).size == tl (⟨#[46, 46]⟩ : ByteArray)) = false := by
          rw [beq_eq_false_iff_ne]
          intro e
          have e' : (c :: r).take 2 = [46, 46] := e
          refine hdd ?_
          cases r with
          | nil => simp at e'
          | cons a r =>
            simp at e'
            rw [e'.1, e'.2]
            exact ⟨rfl, rfl⟩
        rw [hp, if_neg (by decide), if_pos (by omega), hbt, wrap32_byte, signs_f]
        rw [Option.bind_some]
        cases hS : isS c with
        | true =>
          rw [if_pos rfl, if_pos (by omega), if_pos rfl, mk_tl (tl_prefix t 1), h]
          rfl
        | false => rfl

def mk34 (t : T) : S34 := ⟨t.kind, ⟨t.text.toArray⟩, t.num, (t.at_ : Int)⟩
def out34 (R : List T × Int × Int) : List S34 × Int × Int := (R.1.map mk34, R.2.1, R.2.2)
set_option maxRecDepth 100000 in
theorem lex_loop (s : ByteArray) (hs : s.size ≤ 1048576) : ∀ (f at_ : Nat) (acc : List T), at_ ≤ s.size → s.size - at_ ≤ f → acc.length ≤ at_ →
    Ev (fun k => lex_Lex.l0 k s (acc.map mk34) (at_ : Int)) (out34 (lexF f at_ ((tl s).drop at_) acc)) := by
  intro f
  induction f with
  | zero =>
    intro at_ acc h1 h2 h3
    refine Ev.step (f := fun _ => some _) (fun k => ?_) (Ev.now _)
    simp only [lex_Lex.l0]
    rw [if_neg (by omega)]
    rfl
  | succ f ihf =>
    intro at_ acc h1 h2 h3
    by_cases hlt : at_ < s.size
    · have hcr := drop_at s at_ hlt
      obtain ⟨c, r, hcr⟩ : ∃ c r, (tl s).drop at_ = c :: r := ⟨_, _, hcr⟩
      have hlen := congrArg List.length hcr
      rw [List.length_drop, tl_length, List.length_cons] at hlen
      have hbeg := begin_ev (s.extract at_ s.size) c r (by rw [tl_suffix, hcr]) (by rw [size_suffix]; omega)
      have htb := tok_bounds (c :: r)
      rw [lexF, hcr, if_neg (by simp)]
      refine Ev.step (f := fun k => (lex_begin.f k (s.extract at_ s.size)).bind fun bt122 => _) (fun k => by
        simp only [lex_Lex.l0]
        rw [if_pos (by omega), if_pos (by omega), if_pos (by omega), Int.toNat_natCast]) ?_
      cases ht : tok (c :: r) with
      | bad e =>
        rw [ht] at hbeg
        have hbeg : Ev (fun k => lex_begin.f k (s.extract at_ s.size)) ((0 : Int), (⟨#[]⟩ : ByteArray), (0 : Int), (0 : Int), (0 : Int), e) := hbeg
        refine Ev.bind hbeg ?_
        have he : e ≠ 0 := by
          intro e0
          subst e0
          simp only [tok] at ht
          repeat' split at ht
          all_goals simp at ht
        refine Ev.congr (f := fun _ => some _) (fun k => ?_) (Ev.now _)
        rw [if_neg he]
        rfl
      | ok kd n v =>
        obtain ⟨hn1, hn2⟩ := htb kd n v ht
        simp only [List.length_cons] at hn2
        rw [ht] at hbeg
        have hbeg : Ev (fun k => lex_begin.f k (s.extract at_ s.size)) (kd, (⟨((c :: r).take n).toArray⟩ : ByteArray), v, (0 : Int), (n : Int), (0 : Int)) := hbeg
        refine Ev.bind hbeg ?_
        have hsk := skipW_le false ((c :: r).drop n)
        rw [List.length_drop, List.length_cons] at hsk
        have hdn : (tl s).drop (at_ + n) = (c :: r).drop n := by rw [← hcr, List.drop_drop]
        obtain ⟨m, em⟩ : ∃ m, skipW false ((c :: r).drop n) = m := ⟨_, rfl⟩
        have hskip := skip_f (s.extract (at_ + n) s.size) (by rw [size_suffix]; omega)
        rw [tl_suffix, hdn, em] at hskip
        rw [em] at hsk
        have w1 : Hid (wrap64 ((at_ : Int) + (n : Int)) = ((at_ + n : Nat) : Int)) := by show wrap64 ((at_ : Int) + (n : Int)) = ((at_ + n : Nat) : Int); unfold wrap64; omega
        have w2 : Hid (wrap64 (((at_ + n : Nat) : Int) + (m : Int)) = ((at_ + n + m : Nat) : Int)) := by show wrap64 (((at_ + n : Nat) : Int) + (m : Int)) = ((at_ + n + m : Nat) : Int); unfold wrap64; omega
        have ih := ihf (at_ + n + m) (acc ++ [⟨kd, (c :: r).take n, v, at_⟩]) (by omega) (by omega) (by simp; omega)
        rw [show (tl s).drop (at_ + n + m) = (c :: r).drop (n + m) by rw [← hcr, List.drop_drop, Nat.add_assoc]] at ih
        refine Ev.congr (f := fun k => (lex_skip.f k (s.extract (at_ + n) s.size)).bind fun t132 => lex_Lex.l0 k s (acc.map mk34 ++ [(⟨kd, ⟨((c :: r).take n).toArray⟩, v, (at_ : Int)⟩ : S34)]) (wrap64 (((at_ + n : Nat) : Int) + t132))) (fun k => ?_) ?_
        · have hL : (acc.map mk34).length < 3518437208883 := by
            have : (acc.map mk34).length = acc.length := List.length_map _
            omega
          rw [if_pos rfl, if_pos hL, w1.out, if_pos (by omega), if_pos (by omega), Int.toNat_natCast]
        · refine Ev.bind hskip ?_
          rw [w2.out]
          simp only [em]
          rw [List.map_append] at ih
          exact ih
    · refine Ev.step (f := fun _ => some _) (fun k => ?_) (Ev.now _)
      simp only [lex_Lex.l0]
      rw [if_neg (by omega), lexF, List.drop_eq_nil_of_le (by rw [tl_length]; omega), if_pos rfl]
      rfl
/-- lex.Lex. -/
theorem Lex_ev (s : ByteArray) (hs : s.size ≤ 2000000000) : Ev (fun k => lex_Lex.f k s) (out34 (lexS (tl s))) := by
  unfold lexS lex_Lex.f
  rw [tl_length]
  by_cases h : 1048576 < s.size
  · rw [if_pos h]
    refine Ev.congr (f := fun _ => some _) (fun k => ?_) (Ev.now _)
    rw [if_pos (by omega)]
    rfl
  · rw [if_neg h]
    have hsk := skipW_le false (tl s)
    rw [tl_length] at hsk
    refine Ev.congr (f := fun k => (lex_skip.f k s).bind fun t121 => (lex_Lex.l0 k s ([] : List S34) t121)) (fun k => ?_) ?_
    · rw [if_neg (by omega)]
    · exact Ev.bind (skip_f s hs) (lex_loop s (by omega) s.size (skipW false (tl s)) [] hsk (by omega) (by simp))
end Go.Proofs.YtkcjlagaaekhjaaDoor.LexP
