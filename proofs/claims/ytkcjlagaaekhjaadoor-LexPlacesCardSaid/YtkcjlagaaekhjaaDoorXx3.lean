/- Written by a program of this session (wip/xprint.py) out of the translation: Go functions as Lean functions, and that the Go code comes to their answers; no condition but each theorem's own hypotheses. -/
import Derived.Test.YtkcjlagaaekhjaaDoorXx0
import Derived.Test.YtkcjlagaaekhjaaDoorXx2
namespace Go.Proofs.YtkcjlagaaekhjaaDoor.X
open Go.RowKit Go.Proofs.YtkcjlagaaekhjaaDoorW.PrintWords Go.Proofs.YtkcjlagaaekhjaaDoorW.PrintLast Go.Proofs.YtkcjlagaaekhjaaDoorW.PrintMore
attribute [local go_sem] max2_int min2_int max_two min_two max_three min_three max_four min_four   -- for this text's walks alone
set_option linter.unusedVariables false
set_option linter.unusedSimpArgs false
open Go.Proofs.YtkcjlagaaekhjaaDoor in attribute [local go_sem] Ext.cell_over

/-! ### jigsawref05_number: function 16 -/
mutual
def jigsawref05_number.j0 : Nat → ByteArray → Int → Int → Int → Option (Int × Int × Int)
  | 0, _, _, _, _ => none
  | k + 1, x0, x1, x7, x8 => jigsawref05_number.l0 k x0 x1 x7 x8 x7 0
def jigsawref05_number.j2 : Nat → ByteArray → Int → Int → Int → Int → Int → Option (Int × Int × Int)
  | 0, _, _, _, _, _, _ => none
  | k + 1, x0, x1, x7, x8, x9, x10 => if (wrap64 (x7 - x9)) = 0 then (some (0, 0, 0)) else (if (wrap64 (x7 - x9)) > 10 then (some (0, 0, 15)) else (if (wrap64 (x7 - x9)) > 1 then (if 0 ≤ x9 then (if x9 < (x0.size : Int) then (if (bt x0 x9) = 48 then (some (0, 0, 15)) else (if x8 < 0 then (if (wrap64 (x7 - x9)) = 1 then (some (wrap64 (x7 - x1), wrap64 (x8 * x10), 0)) else (some (wrap64 (x7 - x1), wrap64 (x8 * x10), 0))) else (some (wrap64 (x7 - x1), wrap64 (x8 * x10), 0)))) else (none)) else (none)) else (if x8 < 0 then (if (wrap64 (x7 - x9)) = 1 then (if 0 ≤ x9 then (if x9 < (x0.size : Int) then (if (bt x0 x9) = 48 then (some (0, 0, 15)) else (some (wrap64 (x7 - x1), wrap64 (x8 * x10), 0))) else (none)) else (none)) else (some (wrap64 (x7 - x1), wrap64 (x8 * x10), 0))) else (some (wrap64 (x7 - x1), wrap64 (x8 * x10), 0)))))
def jigsawref05_number.l0 : Nat → ByteArray → Int → Int → Int → Int → Int → Option (Int × Int × Int)
  | 0, _, _, _, _, _, _ => none
  | k + 1, x0, x1, x7, x8, x9, x10 => if x7 < (x0.size : Int) then (if 0 ≤ x7 then ((jigsawref05_digit.f (bt x0 x7)).bind fun t135 => (if t135 = true then (if (wrap64 (x7 - x9)) < 10 then (jigsawref05_number.l0 k x0 x1 (wrap64 (x7 + 1)) x8 x9 (wrap64 ((wrap64 ((wrap64 (10 * x10)) + (wrap64 (bt x0 x7)))) - 48))) else (jigsawref05_number.l0 k x0 x1 (wrap64 (x7 + 1)) x8 x9 x10)) else (jigsawref05_number.j2 k x0 x1 x7 x8 x9 x10))) else (none)) else (jigsawref05_number.j2 k x0 x1 x7 x8 x9 x10)
end
def jigsawref05_number.f (k : Nat) (a0 : ByteArray) (a1 : Int) : Option (Int × Int × Int) := if 0 ≤ a1 then (if a1 < (a0.size : Int) then (if (bt a0 a1) = 45 then (jigsawref05_number.j0 k a0 a1 (wrap64 (a1 + 1)) (-1)) else (jigsawref05_number.j0 k a0 a1 a1 1)) else (none)) else (none)
theorem jigsawref05_number.mono_l : ∀ k, (∀ y0 y1 y2 y3, LeO (jigsawref05_number.j0 k y0 y1 y2 y3) (jigsawref05_number.j0 (k + 1) y0 y1 y2 y3)) ∧ (∀ y0 y1 y2 y3 y4 y5, LeO (jigsawref05_number.j2 k y0 y1 y2 y3 y4 y5) (jigsawref05_number.j2 (k + 1) y0 y1 y2 y3 y4 y5)) ∧ (∀ y0 y1 y2 y3 y4 y5, LeO (jigsawref05_number.l0 k y0 y1 y2 y3 y4 y5) (jigsawref05_number.l0 (k + 1) y0 y1 y2 y3 y4 y5))
  | 0 => ⟨fun _ _ _ _ r h => by simp [jigsawref05_number.j0] at h, fun _ _ _ _ _ _ r h => by simp [jigsawref05_number.j2] at h, fun _ _ _ _ _ _ r h => by simp [jigsawref05_number.l0] at h⟩
  | k + 1 => by
    obtain ⟨ih0, ih1, ih2⟩ := jigsawref05_number.mono_l k
    refine ⟨?_, ?_, ?_⟩
    · intro y0 y1 y2 y3
      unfold jigsawref05_number.j0
      repeat' first
      | (with_reducible exact ih0 _ _ _ _)
      | (with_reducible exact ih1 _ _ _ _ _ _)
      | (with_reducible exact ih2 _ _ _ _ _ _)
      | (with_reducible exact LeO.refl _)
      | (with_reducible exact LeO.none _)
      | (with_reducible refine LeO.ite ?_ ?_)
      | (with_reducible refine LeO.bind ?_ (fun _ => ?_))
      | exact ih0 _ _ _ _
      | exact ih1 _ _ _ _ _ _
      | exact ih2 _ _ _ _ _ _
      | exact LeO.none _
      | refine LeO.ite ?_ ?_
      | refine LeO.bind ?_ (fun _ => ?_)
    · intro y0 y1 y2 y3 y4 y5
      unfold jigsawref05_number.j2
      repeat' first
      | (with_reducible exact ih0 _ _ _ _)
      | (with_reducible exact ih1 _ _ _ _ _ _)
      | (with_reducible exact ih2 _ _ _ _ _ _)
      | (with_reducible exact LeO.refl _)
      | (with_reducible exact LeO.none _)
      | (with_reducible refine LeO.ite ?_ ?_)
      | (with_reducible refine LeO.bind ?_ (fun _ => ?_))
      | exact ih0 _ _ _ _
      | exact ih1 _ _ _ _ _ _
      | exact ih2 _ _ _ _ _ _
      | exact LeO.none _
      | refine LeO.ite ?_ ?_
      | refine LeO.bind ?_ (fun _ => ?_)
    · intro y0 y1 y2 y3 y4 y5
      unfold jigsawref05_number.l0
      repeat' first
      | (with_reducible exact ih0 _ _ _ _)
      | (with_reducible exact ih1 _ _ _ _ _ _)
      | (with_reducible exact ih2 _ _ _ _ _ _)
      | (with_reducible exact LeO.refl _)
      | (with_reducible exact LeO.none _)
      | (with_reducible refine LeO.ite ?_ ?_)
      | (with_reducible refine LeO.bind ?_ (fun _ => ?_))
      | exact ih0 _ _ _ _
      | exact ih1 _ _ _ _ _ _
      | exact ih2 _ _ _ _ _ _
      | exact LeO.none _
      | refine LeO.ite ?_ ?_
      | refine LeO.bind ?_ (fun _ => ?_)
theorem jigsawref05_number.mono : ∀ a0 a1 k, LeO (jigsawref05_number.f k a0 a1) (jigsawref05_number.f (k + 1) a0 a1) := by
  intro a0 a1 k
  obtain ⟨ih0, ih1, ih2⟩ := jigsawref05_number.mono_l k
  unfold jigsawref05_number.f
  repeat' first
      | (with_reducible exact ih0 _ _ _ _)
      | (with_reducible exact ih1 _ _ _ _ _ _)
      | (with_reducible exact ih2 _ _ _ _ _ _)
      | (with_reducible exact LeO.refl _)
      | (with_reducible exact LeO.none _)
      | (with_reducible refine LeO.ite ?_ ?_)
      | (with_reducible refine LeO.bind ?_ (fun _ => ?_))
      | exact ih0 _ _ _ _
      | exact ih1 _ _ _ _ _ _
      | exact ih2 _ _ _ _ _ _
      | exact LeO.none _
      | refine LeO.ite ?_ ?_
      | refine LeO.bind ?_ (fun _ => ?_)
set_option maxHeartbeats 8000000 in
set_option maxRecDepth 100000 in
theorem jigsawref05_number.calls (k : Nat) (a0 : ByteArray) (a1 : Int) (r1 : Int) (r2 : Int) (r3 : Int) (w : World) (h : jigsawref05_number.f k a0 a1 = some (r1, r2, r3)) :
    Calls Tryd.prog 16 #[.string a0, .int .i64 a1] w fun e w' => e = .returned (.tuple #[.int .i64 r1, .int .i64 r2, .int .i64 r3]) ∧ Drawn0 w w' := by
  have H : (if 0 ≤ a1 then (if a1 < (a0.size : Int) then (if (bt a0 a1) = 45 then (jigsawref05_number.j0 k a0 a1 (wrap64 (a1 + 1)) (-1)) else (jigsawref05_number.j0 k a0 a1 a1 1)) else (none)) else (none)) = some (r1, r2, r3) := h
  clear h
  by_cases c3 : 0 ≤ a1
  · rw [if_pos c3] at H
    have c3b0 : decide (0 ≤ a1) = true := decide_eq_true c3
    clear c3
    by_cases c4 : a1 < (a0.size : Int)
    · rw [if_pos c4] at H
      have c4b0 : decide (a1 < (a0.size : Int)) = true := decide_eq_true c4
      clear c4
      have HC6 := Aside0.mk H
      clear H
      have p5 : 0 ≤ (a1 : Int) := of_decide_eq_true (by first | (with_reducible assumption) | assumption)
      have q5 : a1 < (a0.size : Int) := of_decide_eq_true (by first | (with_reducible assumption) | assumption)
      have hx5 := bt_at a0 a1
      replace p5 := eq_true p5
      replace q5 := eq_true q5
      go_enter Tryd.func16, Tryd.ntmps16
      go_upto_if 17 with (fail)
      go_cut [7, 8] (fun v7 v8 wc => ∃ (kq : Nat) (x7_5 : Int) (x8_5 : Int), v7 = .int .i64 x7_5 ∧ v8 = .int .i64 x8_5 ∧ Aside0 (jigsawref05_number.j0 kq a0 a1 x7_5 x8_5 = some (r1, r2, r3)) ∧ Aside0 (kq ≤ k) ∧ Drawn0 w wc)
      case first => as_aux_lemma =>
        have H := HC6.out
        clear HC6
        by_cases c7 : (bt a0 a1) = 45
        · rw [if_pos c7] at H
          have c7b0 : ((bt a0 a1) == 45) = true := beq_iff_eq.mpr c7
          have c7b1 : ((bt a0 a1) != 45) = false := bne_eq_false_iff_eq.mpr c7
          clear c7
          (first | rw [c7b0] | (simp only [i64_w, i32_w]; rw [c7b0]) | skip)
          have H' := Aside0.mk H
          clear H
          go_wp2
          go_meet
          case rel => exact ⟨_, (wrap64 (a1 + 1)), ((-1)), (by first | rfl | (simp; done) | (simp [*]; done)), (by first | rfl | (simp; done) | (simp [*]; done)), H', ⟨by first | omega | exact Nat.le_refl _⟩, by repeat (first | exact Drawn0.refl _ | apply Drawn0.step)⟩
        · rw [if_neg c7] at H
          have c7b0 : ((bt a0 a1) == 45) = false := beq_eq_false_iff_ne.mpr c7
          have c7b1 : ((bt a0 a1) != 45) = true := bne_iff_ne.mpr c7
          (first | rw [c7b0] | (simp only [i64_w, i32_w]; rw [c7b0]) | skip)
          have H' := Aside0.mk H
          clear H
          go_wp2
          go_meet
          case rel => exact ⟨_, (a1), (1), (by first | rfl | (simp; done) | (simp [*]; done)), (by first | rfl | (simp; done) | (simp [*]; done)), H', ⟨by first | omega | exact Nat.le_refl _⟩, by repeat (first | exact Drawn0.refl _ | apply Drawn0.step)⟩
      case rest => as_aux_lemma =>
        clear HC6
        try clear c1
        try clear p2
        try clear c3
        try clear c3b0
        try clear c4
        try clear c4b0
        try clear p5
        try clear q5
        try clear hx5
        try clear p6
        try clear c7
        try clear c7b0
        try clear c7b1
        try clear p5
        try clear q5
        obtain ⟨kq, x7_5, x8_5, rfl, rfl, HA, HJ5, ⟨mc5, rfl⟩⟩ := hcut
        cases kq with
        | zero => exact absurd HA.out (by simp [jigsawref05_number.j0])
        | succ kj5 =>
          have H := HA.out
          clear HA
          simp only [jigsawref05_number.j0] at H
          have HC8 := Aside0.mk H
          clear H
          go_upto_block 0 with (fail)
          go_cut [7, 10] (fun v7 v10 wc => ∃ (kq : Nat) (x7_7 : Int) (x10_7 : Int), v7 = .int .i64 x7_7 ∧ v10 = .int .i64 x10_7 ∧ Aside0 (jigsawref05_number.j2 kq a0 a1 x7_7 x8_5 x7_5 x10_7 = some (r1, r2, r3)) ∧ Aside0 (kq ≤ kj5) ∧ Drawn0 w wc)
          case first => as_aux_lemma =>
            have H := HC8.out
            clear HC8
            have H' := Aside0.mk H
            clear H
            go_wp2
            go_loopg [7, 10] kj5 (fun kq v7 v10 w' => ∃ (x7_2 : Int) (x10_2 : Int), v7 = .int .i64 x7_2 ∧ v10 = .int .i64 x10_2 ∧ Aside0 (jigsawref05_number.l0 kq a0 a1 x7_2 x8_5 x7_5 x10_2 = some (r1, r2, r3)) ∧ Aside0 (kq ≤ kj5) ∧ Drawn0 w w')
            case atStart => exact ⟨(x7_5), (0), (by first | rfl | (simp; done) | (simp [*]; done)), (by first | rfl | (simp; done) | (simp [*]; done)), H', ⟨Nat.le_refl _⟩, by repeat (first | exact Drawn0.refl _ | apply Drawn0.step)⟩
            case round =>
              clear H'
              try clear c1
              try clear p2
              try clear c3
              try clear c3b0
              try clear c4
              try clear c4b0
              try clear c5
              try clear p5
              try clear q5
              try clear hx5
              try clear p6
              try clear c7
              try clear c7b0
              try clear c7b1
              try clear p2
              try clear p5
              try clear p6
              try clear q5
              obtain ⟨x7_2, x10_2, rfl, rfl, HA, HK2, ⟨m2, rfl⟩⟩ := hrel
              cases gk with
              | zero => exact absurd HA.out (by simp [jigsawref05_number.l0])
              | succ k2 =>
                have H := HA.out
                clear HA
                simp only [jigsawref05_number.l0] at H
                by_cases c9 : x7_2 < (a0.size : Int)
                · rw [if_pos c9] at H
                  have c9b0 : decide (x7_2 < (a0.size : Int)) = true := decide_eq_true c9
                  clear c9
                  (first | rw [c9b0] | (simp only [i64_w, i32_w]; rw [c9b0]) | skip)
                  by_cases c10 : 0 ≤ x7_2
                  · rw [if_pos c10] at H
                    have c10b0 : decide (0 ≤ x7_2) = true := decide_eq_true c10
                    clear c10
                    replace H := Option.bind_eq_some_iff.mp H
                    obtain ⟨t135, A120, H⟩ := H
                    replace H : (if t135 = true then (if (wrap64 (x7_2 - x7_5)) < 10 then (jigsawref05_number.l0 k2 a0 a1 (wrap64 (x7_2 + 1)) x8_5 x7_5 (wrap64 ((wrap64 ((wrap64 (10 * x10_2)) + (wrap64 (bt a0 x7_2)))) - 48))) else (jigsawref05_number.l0 k2 a0 a1 (wrap64 (x7_2 + 1)) x8_5 x7_5 x10_2)) else (jigsawref05_number.j2 k2 a0 a1 x7_2 x8_5 x7_5 x10_2)) = some (r1, r2, r3) := H
                    have A12 := Aside0.mk A120
                    clear A120
                    by_cases c13 : t135 = true
                    · subst c13
                      have H1 : (if (wrap64 (x7_2 - x7_5)) < 10 then (jigsawref05_number.l0 k2 a0 a1 (wrap64 (x7_2 + 1)) x8_5 x7_5 (wrap64 ((wrap64 ((wrap64 (10 * x10_2)) + (wrap64 (bt a0 x7_2)))) - 48))) else (jigsawref05_number.l0 k2 a0 a1 (wrap64 (x7_2 + 1)) x8_5 x7_5 x10_2)) = some (r1, r2, r3) := by rw [if_pos rfl] at H; exact H
                      clear H
                      have H := H1
                      clear H1
                      by_cases c14 : (wrap64 (x7_2 - x7_5)) < 10
                      · rw [if_pos c14] at H
                        have c14b0 : decide ((wrap64 (x7_2 - x7_5)) < 10) = true := decide_eq_true c14
                        clear c14
                        have H' := Aside0.mk H
                        clear H
                        have p11 : 0 ≤ (x7_2 : Int) := of_decide_eq_true (by first | (with_reducible assumption) | assumption)
                        have q11 : x7_2 < (a0.size : Int) := of_decide_eq_true (by first | (with_reducible assumption) | assumption)
                        have hx11 := bt_at a0 x7_2
                        replace p11 := eq_true p11
                        replace q11 := eq_true q11
                        go_wp2_with (first | ((with_reducible refine gate_callee (f := 38) rfl ?_); refine goesL_ (some 28) rfl rfl Tryd.func38 (by kernel_rfl) rfl #[.int .u8 (bt a0 x7_2)] rfl (by (try simp only [List.map_toArray, List.map_cons, List.map_nil]); first | done | rfl | (simp only [List.length_drop, List.length_take]; rfl)) ?_; (with_reducible refine (jigsawref05_digit.calls (bt a0 x7_2) true _ A12.out).mono ?_); rintro e w' ⟨rfl, ⟨nd, rfl⟩⟩; refine ⟨_, rfl, ?_⟩; have p15 : 0 ≤ (x7_2 : Int) := of_decide_eq_true (by first | (with_reducible assumption) | assumption); have q15 : x7_2 < (a0.size : Int) := of_decide_eq_true (by first | (with_reducible assumption) | assumption); have hx15 := bt_at a0 x7_2; replace p15 := eq_true p15; replace q15 := eq_true q15))
                        go_roundg k2
                        case measure => have := HJ5.out; have := HK2.out; omega
                        case rel => exact ⟨(wrap64 (x7_2 + 1)), (wrap64 ((wrap64 ((wrap64 (10 * x10_2)) + (wrap64 (bt a0 x7_2)))) - 48)), (by first | rfl | (simp; done) | (simp [*]; done)), (by first | rfl | (simp; done) | (simp [*]; done)), H', ⟨by have := HJ5.out; have := HK2.out; omega⟩, by repeat (first | exact Drawn0.refl _ | apply Drawn0.step)⟩
                      · rw [if_neg c14] at H
                        have c14b0 : decide ((wrap64 (x7_2 - x7_5)) < 10) = false := decide_eq_false c14
                        clear c14
                        have H' := Aside0.mk H
                        clear H
                        have p11 : 0 ≤ (x7_2 : Int) := of_decide_eq_true (by first | (with_reducible assumption) | assumption)
                        have q11 : x7_2 < (a0.size : Int) := of_decide_eq_true (by first | (with_reducible assumption) | assumption)
                        have hx11 := bt_at a0 x7_2
                        replace p11 := eq_true p11
                        replace q11 := eq_true q11
                        go_wp2_with (first | ((with_reducible refine gate_callee (f := 38) rfl ?_); refine goesL_ (some 28) rfl rfl Tryd.func38 (by kernel_rfl) rfl #[.int .u8 (bt a0 x7_2)] rfl (by (try simp only [List.map_toArray, List.map_cons, List.map_nil]); first | done | rfl | (simp only [List.length_drop, List.length_take]; rfl)) ?_; (with_reducible refine (jigsawref05_digit.calls (bt a0 x7_2) true _ A12.out).mono ?_); rintro e w' ⟨rfl, ⟨nd, rfl⟩⟩; refine ⟨_, rfl, ?_⟩))
                        go_roundg k2
                        case measure => have := HJ5.out; have := HK2.out; omega
                        case rel => exact ⟨(wrap64 (x7_2 + 1)), (x10_2), (by first | rfl | (simp; done) | (simp [*]; done)), (by first | rfl | (simp; done) | (simp [*]; done)), H', ⟨by have := HJ5.out; have := HK2.out; omega⟩, by repeat (first | exact Drawn0.refl _ | apply Drawn0.step)⟩
                    · replace c13 := Bool.eq_false_iff.mpr c13
                      subst c13
                      have H1 : (jigsawref05_number.j2 k2 a0 a1 x7_2 x8_5 x7_5 x10_2) = some (r1, r2, r3) := by rw [if_neg (show ¬ (false = true) by decide)] at H; exact H
                      clear H
                      have H := H1
                      clear H1
                      have H' := Aside0.mk H
                      clear H
                      have p11 : 0 ≤ (x7_2 : Int) := of_decide_eq_true (by first | (with_reducible assumption) | assumption)
                      have q11 : x7_2 < (a0.size : Int) := of_decide_eq_true (by first | (with_reducible assumption) | assumption)
                      have hx11 := bt_at a0 x7_2
                      replace p11 := eq_true p11
                      replace q11 := eq_true q11
                      go_wp2_with (first | ((with_reducible refine gate_callee (f := 38) rfl ?_); refine goesL_ (some 28) rfl rfl Tryd.func38 (by kernel_rfl) rfl #[.int .u8 (bt a0 x7_2)] rfl (by (try simp only [List.map_toArray, List.map_cons, List.map_nil]); first | done | rfl | (simp only [List.length_drop, List.length_take]; rfl)) ?_; (with_reducible refine (jigsawref05_digit.calls (bt a0 x7_2) false _ A12.out).mono ?_); rintro e w' ⟨rfl, ⟨nd, rfl⟩⟩; refine ⟨_, rfl, ?_⟩))
                      go_meet
                      case rel => exact ⟨_, (x7_2), (x10_2), (by first | rfl | (simp; done) | (simp [*]; done)), (by first | rfl | (simp; done) | (simp [*]; done)), H', ⟨by have := HJ5.out; have := HK2.out; first | omega | exact Nat.le_refl _⟩, by repeat (first | exact Drawn0.refl _ | apply Drawn0.step)⟩
                  · rw [if_neg c10] at H
                    exact absurd H (by simp)
                · rw [if_neg c9] at H
                  have c9b0 : decide (x7_2 < (a0.size : Int)) = false := decide_eq_false c9
                  clear c9
                  (first | rw [c9b0] | (simp only [i64_w, i32_w]; rw [c9b0]) | skip)
                  have H' := Aside0.mk H
                  clear H
                  go_wp2
                  go_meet
                  case rel => exact ⟨_, (x7_2), (x10_2), (by first | rfl | (simp; done) | (simp [*]; done)), (by first | rfl | (simp; done) | (simp [*]; done)), H', ⟨by have := HJ5.out; have := HK2.out; first | omega | exact Nat.le_refl _⟩, by repeat (first | exact Drawn0.refl _ | apply Drawn0.step)⟩
          case rest => as_aux_lemma =>
            clear HC8
            try clear c1
            try clear p1
            try clear q1
            try clear hx1
            try clear p2
            try clear c3
            try clear c3b0
            try clear c4
            try clear c4b0
            try clear c5
            try clear p5
            try clear q5
            try clear hx5
            try clear p6
            try clear c7
            try clear c7b0
            try clear c7b1
            try clear c9
            try clear c9b0
            try clear c10
            try clear c10b0
            try clear p11
            try clear q11
            try clear hx11
            try clear c13
            try clear c14
            try clear c14b0
            try clear p15
            try clear q15
            try clear hx15
            try clear p11
            try clear p15
            try clear p2
            try clear p5
            try clear p6
            try clear q11
            try clear q15
            try clear q5
            obtain ⟨kq, x7_7, x10_7, rfl, rfl, HA, HJ7, ⟨mc7, rfl⟩⟩ := hcut
            cases kq with
            | zero => exact absurd HA.out (by simp [jigsawref05_number.j2])
            | succ kj7 =>
              have H := HA.out
              clear HA
              simp only [jigsawref05_number.j2] at H
              by_cases c16 : (wrap64 (x7_7 - x7_5)) = 0
              · rw [if_pos c16] at H
                have c16b0 : ((wrap64 (x7_7 - x7_5)) == 0) = true := beq_iff_eq.mpr c16
                have c16b1 : ((wrap64 (x7_7 - x7_5)) != 0) = false := bne_eq_false_iff_eq.mpr c16
                clear c16
                simp only [Option.some.injEq, Prod.mk.injEq] at H
                obtain ⟨rfl, rfl, rfl⟩ := H
                go_wp2
                go_ret3
                exact ⟨by first | rfl | (simp; done) | (simp [*]; done), by repeat (first | exact Drawn0.refl _ | apply Drawn0.step)⟩
              · rw [if_neg c16] at H
                have c16b0 : ((wrap64 (x7_7 - x7_5)) == 0) = false := beq_eq_false_iff_ne.mpr c16
                have c16b1 : ((wrap64 (x7_7 - x7_5)) != 0) = true := bne_iff_ne.mpr c16
                by_cases c17 : (wrap64 (x7_7 - x7_5)) > 10
                · rw [if_pos c17] at H
                  have c17b0 : decide (10 < (wrap64 (x7_7 - x7_5))) = true := decide_eq_true c17
                  clear c17
                  simp only [Option.some.injEq, Prod.mk.injEq] at H
                  obtain ⟨rfl, rfl, rfl⟩ := H
                  go_wp2
                  go_ret3
                  exact ⟨by first | rfl | (simp; done) | (simp [*]; done), by repeat (first | exact Drawn0.refl _ | apply Drawn0.step)⟩
                · rw [if_neg c17] at H
                  have c17b0 : decide (10 < (wrap64 (x7_7 - x7_5))) = false := decide_eq_false c17
                  clear c17
                  by_cases c18 : (wrap64 (x7_7 - x7_5)) > 1
                  · rw [if_pos c18] at H
                    have c18b0 : decide (1 < (wrap64 (x7_7 - x7_5))) = true := decide_eq_true c18
                    clear c18
                    by_cases c19 : 0 ≤ x7_5
                    · rw [if_pos c19] at H
                      have c19b0 : decide (0 ≤ x7_5) = true := decide_eq_true c19
                      clear c19
                      by_cases c20 : x7_5 < (a0.size : Int)
                      · rw [if_pos c20] at H
                        have c20b0 : decide (x7_5 < (a0.size : Int)) = true := decide_eq_true c20
                        clear c20
                        by_cases c22 : (bt a0 x7_5) = 48
                        · rw [if_pos c22] at H
                          have c22b0 : ((bt a0 x7_5) == 48) = true := beq_iff_eq.mpr c22
                          have c22b1 : ((bt a0 x7_5) != 48) = false := bne_eq_false_iff_eq.mpr c22
                          clear c22
                          simp only [Option.some.injEq, Prod.mk.injEq] at H
                          obtain ⟨rfl, rfl, rfl⟩ := H
                          have p21 : 0 ≤ (x7_5 : Int) := of_decide_eq_true (by first | (with_reducible assumption) | assumption)
                          have q21 : x7_5 < (a0.size : Int) := of_decide_eq_true (by first | (with_reducible assumption) | assumption)
                          have hx21 := bt_at a0 x7_5
                          replace p21 := eq_true p21
                          replace q21 := eq_true q21
                          go_wp2
                          go_ret3
                          exact ⟨by first | rfl | (simp; done) | (simp [*]; done), by repeat (first | exact Drawn0.refl _ | apply Drawn0.step)⟩
                        · rw [if_neg c22] at H
                          have c22b0 : ((bt a0 x7_5) == 48) = false := beq_eq_false_iff_ne.mpr c22
                          have c22b1 : ((bt a0 x7_5) != 48) = true := bne_iff_ne.mpr c22
                          by_cases c23 : x8_5 < 0
                          · rw [if_pos c23] at H
                            have c23b0 : decide (x8_5 < 0) = true := decide_eq_true c23
                            clear c23
                            by_cases c24 : (wrap64 (x7_7 - x7_5)) = 1
                            · rw [if_pos c24] at H
                              have c24b0 : ((wrap64 (x7_7 - x7_5)) == 1) = true := beq_iff_eq.mpr c24
                              have c24b1 : ((wrap64 (x7_7 - x7_5)) != 1) = false := bne_eq_false_iff_eq.mpr c24
                              clear c24
                              simp only [Option.some.injEq, Prod.mk.injEq] at H
                              obtain ⟨rfl, rfl, rfl⟩ := H
                              have p21 : 0 ≤ (x7_5 : Int) := of_decide_eq_true (by first | (with_reducible assumption) | assumption)
                              have q21 : x7_5 < (a0.size : Int) := of_decide_eq_true (by first | (with_reducible assumption) | assumption)
                              have hx21 := bt_at a0 x7_5
                              replace p21 := eq_true p21
                              replace q21 := eq_true q21
                              have p25 : 0 ≤ (x7_5 : Int) := of_decide_eq_true (by first | (with_reducible assumption) | assumption)
                              have q25 : x7_5 < (a0.size : Int) := of_decide_eq_true (by first | (with_reducible assumption) | assumption)
                              have hx25 := bt_at a0 x7_5
                              replace p25 := eq_true p25
                              replace q25 := eq_true q25
                              go_wp2
                              go_ret3
                              exact ⟨by first | rfl | (simp; done) | (simp [*]; done), by repeat (first | exact Drawn0.refl _ | apply Drawn0.step)⟩
                            · rw [if_neg c24] at H
                              have c24b0 : ((wrap64 (x7_7 - x7_5)) == 1) = false := beq_eq_false_iff_ne.mpr c24
                              have c24b1 : ((wrap64 (x7_7 - x7_5)) != 1) = true := bne_iff_ne.mpr c24
                              simp only [Option.some.injEq, Prod.mk.injEq] at H
                              obtain ⟨rfl, rfl, rfl⟩ := H
                              have p21 : 0 ≤ (x7_5 : Int) := of_decide_eq_true (by first | (with_reducible assumption) | assumption)
                              have q21 : x7_5 < (a0.size : Int) := of_decide_eq_true (by first | (with_reducible assumption) | assumption)
                              have hx21 := bt_at a0 x7_5
                              replace p21 := eq_true p21
                              replace q21 := eq_true q21
                              go_wp2
                              go_ret3
                              exact ⟨by first | rfl | (simp; done) | (simp [*]; done), by repeat (first | exact Drawn0.refl _ | apply Drawn0.step)⟩
                          · rw [if_neg c23] at H
                            have c23b0 : decide (x8_5 < 0) = false := decide_eq_false c23
                            clear c23
                            simp only [Option.some.injEq, Prod.mk.injEq] at H
                            obtain ⟨rfl, rfl, rfl⟩ := H
                            have p21 : 0 ≤ (x7_5 : Int) := of_decide_eq_true (by first | (with_reducible assumption) | assumption)
                            have q21 : x7_5 < (a0.size : Int) := of_decide_eq_true (by first | (with_reducible assumption) | assumption)
                            have hx21 := bt_at a0 x7_5
                            replace p21 := eq_true p21
                            replace q21 := eq_true q21
                            go_wp2
                            go_ret3
                            exact ⟨by first | rfl | (simp; done) | (simp [*]; done), by repeat (first | exact Drawn0.refl _ | apply Drawn0.step)⟩
                      · rw [if_neg c20] at H
                        exact absurd H (by simp)
                    · rw [if_neg c19] at H
                      exact absurd H (by simp)
                  · rw [if_neg c18] at H
                    have c18b0 : decide (1 < (wrap64 (x7_7 - x7_5))) = false := decide_eq_false c18
                    clear c18
                    by_cases c26 : x8_5 < 0
                    · rw [if_pos c26] at H
                      have c26b0 : decide (x8_5 < 0) = true := decide_eq_true c26
                      clear c26
                      by_cases c27 : (wrap64 (x7_7 - x7_5)) = 1
                      · rw [if_pos c27] at H
                        have c27b0 : ((wrap64 (x7_7 - x7_5)) == 1) = true := beq_iff_eq.mpr c27
                        have c27b1 : ((wrap64 (x7_7 - x7_5)) != 1) = false := bne_eq_false_iff_eq.mpr c27
                        clear c27
                        by_cases c28 : 0 ≤ x7_5
                        · rw [if_pos c28] at H
                          have c28b0 : decide (0 ≤ x7_5) = true := decide_eq_true c28
                          clear c28
                          by_cases c29 : x7_5 < (a0.size : Int)
                          · rw [if_pos c29] at H
                            have c29b0 : decide (x7_5 < (a0.size : Int)) = true := decide_eq_true c29
                            clear c29
                            by_cases c31 : (bt a0 x7_5) = 48
                            · rw [if_pos c31] at H
                              have c31b0 : ((bt a0 x7_5) == 48) = true := beq_iff_eq.mpr c31
                              have c31b1 : ((bt a0 x7_5) != 48) = false := bne_eq_false_iff_eq.mpr c31
                              clear c31
                              simp only [Option.some.injEq, Prod.mk.injEq] at H
                              obtain ⟨rfl, rfl, rfl⟩ := H
                              have p30 : 0 ≤ (x7_5 : Int) := of_decide_eq_true (by first | (with_reducible assumption) | assumption)
                              have q30 : x7_5 < (a0.size : Int) := of_decide_eq_true (by first | (with_reducible assumption) | assumption)
                              have hx30 := bt_at a0 x7_5
                              replace p30 := eq_true p30
                              replace q30 := eq_true q30
                              go_wp2
                              go_ret3
                              exact ⟨by first | rfl | (simp; done) | (simp [*]; done), by repeat (first | exact Drawn0.refl _ | apply Drawn0.step)⟩
                            · rw [if_neg c31] at H
                              have c31b0 : ((bt a0 x7_5) == 48) = false := beq_eq_false_iff_ne.mpr c31
                              have c31b1 : ((bt a0 x7_5) != 48) = true := bne_iff_ne.mpr c31
                              simp only [Option.some.injEq, Prod.mk.injEq] at H
                              obtain ⟨rfl, rfl, rfl⟩ := H
                              have p30 : 0 ≤ (x7_5 : Int) := of_decide_eq_true (by first | (with_reducible assumption) | assumption)
                              have q30 : x7_5 < (a0.size : Int) := of_decide_eq_true (by first | (with_reducible assumption) | assumption)
                              have hx30 := bt_at a0 x7_5
                              replace p30 := eq_true p30
                              replace q30 := eq_true q30
                              go_wp2
                              go_ret3
                              exact ⟨by first | rfl | (simp; done) | (simp [*]; done), by repeat (first | exact Drawn0.refl _ | apply Drawn0.step)⟩
                          · rw [if_neg c29] at H
                            exact absurd H (by simp)
                        · rw [if_neg c28] at H
                          exact absurd H (by simp)
                      · rw [if_neg c27] at H
                        have c27b0 : ((wrap64 (x7_7 - x7_5)) == 1) = false := beq_eq_false_iff_ne.mpr c27
                        have c27b1 : ((wrap64 (x7_7 - x7_5)) != 1) = true := bne_iff_ne.mpr c27
                        simp only [Option.some.injEq, Prod.mk.injEq] at H
                        obtain ⟨rfl, rfl, rfl⟩ := H
                        go_wp2
                        go_ret3
                        exact ⟨by first | rfl | (simp; done) | (simp [*]; done), by repeat (first | exact Drawn0.refl _ | apply Drawn0.step)⟩
                    · rw [if_neg c26] at H
                      have c26b0 : decide (x8_5 < 0) = false := decide_eq_false c26
                      clear c26
                      simp only [Option.some.injEq, Prod.mk.injEq] at H
                      obtain ⟨rfl, rfl, rfl⟩ := H
                      go_wp2
                      go_ret3
                      exact ⟨by first | rfl | (simp; done) | (simp [*]; done), by repeat (first | exact Drawn0.refl _ | apply Drawn0.step)⟩
    · rw [if_neg c4] at H
      exact absurd H (by simp)
  · rw [if_neg c3] at H
    exact absurd H (by simp)

end Go.Proofs.YtkcjlagaaekhjaaDoor.X
