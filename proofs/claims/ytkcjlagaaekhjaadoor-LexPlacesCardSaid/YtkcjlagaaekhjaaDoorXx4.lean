/- Written by a program of this session (wip/xprint.py) out of the translation: Go functions as Lean functions, and that the Go code comes to their answers; no condition but each theorem's own hypotheses. -/
import Derived.Test.YtkcjlagaaekhjaaDoorXx0
import Derived.Test.YtkcjlagaaekhjaaDoorXx2
import Derived.Test.YtkcjlagaaekhjaaDoorXx3
namespace Go.Proofs.YtkcjlagaaekhjaaDoor.X
open Go.RowKit Go.Proofs.YtkcjlagaaekhjaaDoorW.PrintWords Go.Proofs.YtkcjlagaaekhjaaDoorW.PrintLast Go.Proofs.YtkcjlagaaekhjaaDoorW.PrintMore
attribute [local go_sem] max2_int min2_int max_two min_two max_three min_three max_four min_four   -- for this text's walks alone
set_option linter.unusedVariables false
set_option linter.unusedSimpArgs false
open Go.Proofs.YtkcjlagaaekhjaaDoor in attribute [local go_sem] Ext.cell_over

/-! ### jigsawref05_Lex: function 8 -/
mutual
def jigsawref05_Lex.l0 : Nat → ByteArray → List (S43) → Int → Option ((List (S43)) × Int × Int)
  | 0, _, _, _ => none
  | k + 1, x0, x5, x6 => if x6 < (x0.size : Int) then (if 0 ≤ x6 then (if (bt x0 x6) = 32 then (jigsawref05_Lex.j1 k x0 x5 x6 (bt x0 x6) true) else (if (bt x0 x6) = 9 then (jigsawref05_Lex.j1 k x0 x5 x6 (bt x0 x6) true) else (if (bt x0 x6) = 10 then (jigsawref05_Lex.j1 k x0 x5 x6 (bt x0 x6) true) else (jigsawref05_Lex.j1 k x0 x5 x6 (bt x0 x6) ((bt x0 x6) == 13))))) else (none)) else (some (x5, 0, 0))
def jigsawref05_Lex.j1 : Nat → ByteArray → List (S43) → Int → Int → Bool → Option ((List (S43)) × Int × Int)
  | 0, _, _, _, _, _ => none
  | k + 1, x0, x5, x6, x7, x34 => if x34 = true then (jigsawref05_Lex.l0 k x0 x5 (wrap64 (x6 + 1))) else (if x7 = 37 then (jigsawref05_Lex.l1 k x0 x5 x6) else ((jigsawref05_word.f k x0 x6).bind fun t136 => (if t136 > 0 then (if 0 ≤ x6 then (if x6 ≤ (wrap64 (x6 + t136)) then (if (wrap64 (x6 + t136)) ≤ (x0.size : Int) then (if x5.length < 3518437208883 then (jigsawref05_Lex.l0 k x0 (x5 ++ [(⟨1, x0.extract (x6 : Int).toNat ((wrap64 (x6 + t136)) : Int).toNat, 0, x6⟩ : S43)]) (wrap64 (x6 + t136))) else (none)) else (none)) else (none)) else (none)) else ((jigsawref05_number.f k x0 x6).bind fun bt140 => (if bt140.2.2 = 0 then (if bt140.1 > 0 then (if 0 ≤ x6 then (if x6 ≤ (wrap64 (x6 + bt140.1)) then (if (wrap64 (x6 + bt140.1)) ≤ (x0.size : Int) then (if x5.length < 3518437208883 then (jigsawref05_Lex.l0 k x0 (x5 ++ [(⟨2, x0.extract (x6 : Int).toNat ((wrap64 (x6 + bt140.1)) : Int).toNat, bt140.2.1, x6⟩ : S43)]) (wrap64 (x6 + bt140.1))) else (none)) else (none)) else (none)) else (none)) else (if x7 = 40 then (jigsawref05_Lex.j3 k x0 x5 x6 x7 0 true) else (if x7 = 41 then (jigsawref05_Lex.j3 k x0 x5 x6 x7 0 true) else (if x7 = 91 then (jigsawref05_Lex.j3 k x0 x5 x6 x7 0 true) else (if x7 = 93 then (jigsawref05_Lex.j3 k x0 x5 x6 x7 0 true) else (if x7 = 123 then (jigsawref05_Lex.j3 k x0 x5 x6 x7 0 true) else (if x7 = 125 then (jigsawref05_Lex.j3 k x0 x5 x6 x7 0 true) else (if x7 = 44 then (jigsawref05_Lex.j3 k x0 x5 x6 x7 0 true) else (if x7 = 59 then (jigsawref05_Lex.j3 k x0 x5 x6 x7 0 true) else (jigsawref05_Lex.j3 k x0 x5 x6 x7 0 (x7 == 58))))))))))) else (some (([] : List (S43)), x6, bt140.2.2)))))))
def jigsawref05_Lex.l1 : Nat → ByteArray → List (S43) → Int → Option ((List (S43)) × Int × Int)
  | 0, _, _, _ => none
  | k + 1, x0, x5, x6 => if x6 < (x0.size : Int) then (if 0 ≤ x6 then (if (bt x0 x6) = 10 then (jigsawref05_Lex.l0 k x0 x5 x6) else (jigsawref05_Lex.l1 k x0 x5 (wrap64 (x6 + 1)))) else (none)) else (jigsawref05_Lex.l0 k x0 x5 x6)
def jigsawref05_Lex.j3 : Nat → ByteArray → List (S43) → Int → Int → Int → Bool → Option ((List (S43)) × Int × Int)
  | 0, _, _, _, _, _, _ => none
  | k + 1, x0, x5, x6, x7, x8, x131 => if x131 = true then (jigsawref05_Lex.j4 k x0 x5 x6 x7 1) else (jigsawref05_Lex.j4 k x0 x5 x6 x7 x8)
def jigsawref05_Lex.j4 : Nat → ByteArray → List (S43) → Int → Int → Int → Option ((List (S43)) × Int × Int)
  | 0, _, _, _, _, _ => none
  | k + 1, x0, x5, x6, x7, x8 => if x7 = 46 then (if (wrap64 (x6 + 1)) < (x0.size : Int) then (if 0 ≤ (wrap64 (x6 + 1)) then (jigsawref05_Lex.j5 k x0 x5 x6 x8 ((bt x0 (wrap64 (x6 + 1))) == 46)) else (none)) else (jigsawref05_Lex.j5 k x0 x5 x6 x8 false)) else (jigsawref05_Lex.j5 k x0 x5 x6 x8 false)
def jigsawref05_Lex.j5 : Nat → ByteArray → List (S43) → Int → Int → Bool → Option ((List (S43)) × Int × Int)
  | 0, _, _, _, _, _ => none
  | k + 1, x0, x5, x6, x8, x147 => if x147 = true then (if 0 ≤ x6 then (if x6 ≤ (wrap64 (x6 + 2)) then (if (wrap64 (x6 + 2)) ≤ (x0.size : Int) then (if x5.length < 3518437208883 then (jigsawref05_Lex.l0 k x0 (x5 ++ [(⟨3, x0.extract (x6 : Int).toNat ((wrap64 (x6 + 2)) : Int).toNat, 0, x6⟩ : S43)]) (wrap64 (x6 + 2))) else (none)) else (none)) else (none)) else (none)) else (if x8 = 0 then (some (([] : List (S43)), x6, 6)) else (if 0 ≤ x6 then (if x6 ≤ (wrap64 (x6 + x8)) then (if (wrap64 (x6 + x8)) ≤ (x0.size : Int) then (if x5.length < 3518437208883 then (jigsawref05_Lex.l0 k x0 (x5 ++ [(⟨3, x0.extract (x6 : Int).toNat ((wrap64 (x6 + x8)) : Int).toNat, 0, x6⟩ : S43)]) (wrap64 (x6 + x8))) else (none)) else (none)) else (none)) else (none)))
end
def jigsawref05_Lex.f (k : Nat) (a0 : ByteArray) : Option ((List (S43)) × Int × Int) := if (a0.size : Int) > 1048576 then (some (([] : List (S43)), 1048576, 13)) else (jigsawref05_Lex.l0 k a0 ([] : List (S43)) 0)
theorem jigsawref05_Lex.mono_l : ∀ k, (∀ y0 y1 y2, LeO (jigsawref05_Lex.l0 k y0 y1 y2) (jigsawref05_Lex.l0 (k + 1) y0 y1 y2)) ∧ (∀ y0 y1 y2 y3 y4, LeO (jigsawref05_Lex.j1 k y0 y1 y2 y3 y4) (jigsawref05_Lex.j1 (k + 1) y0 y1 y2 y3 y4)) ∧ (∀ y0 y1 y2, LeO (jigsawref05_Lex.l1 k y0 y1 y2) (jigsawref05_Lex.l1 (k + 1) y0 y1 y2)) ∧ (∀ y0 y1 y2 y3 y4 y5, LeO (jigsawref05_Lex.j3 k y0 y1 y2 y3 y4 y5) (jigsawref05_Lex.j3 (k + 1) y0 y1 y2 y3 y4 y5)) ∧ (∀ y0 y1 y2 y3 y4, LeO (jigsawref05_Lex.j4 k y0 y1 y2 y3 y4) (jigsawref05_Lex.j4 (k + 1) y0 y1 y2 y3 y4)) ∧ (∀ y0 y1 y2 y3 y4, LeO (jigsawref05_Lex.j5 k y0 y1 y2 y3 y4) (jigsawref05_Lex.j5 (k + 1) y0 y1 y2 y3 y4))
  | 0 => ⟨fun _ _ _ r h => by simp [jigsawref05_Lex.l0] at h, fun _ _ _ _ _ r h => by simp [jigsawref05_Lex.j1] at h, fun _ _ _ r h => by simp [jigsawref05_Lex.l1] at h, fun _ _ _ _ _ _ r h => by simp [jigsawref05_Lex.j3] at h, fun _ _ _ _ _ r h => by simp [jigsawref05_Lex.j4] at h, fun _ _ _ _ _ r h => by simp [jigsawref05_Lex.j5] at h⟩
  | k + 1 => by
    obtain ⟨ih0, ih1, ih2, ih3, ih4, ih5⟩ := jigsawref05_Lex.mono_l k
    refine ⟨?_, ?_, ?_, ?_, ?_, ?_⟩
    · intro y0 y1 y2
      unfold jigsawref05_Lex.l0
      repeat' first
      | (with_reducible exact ih0 _ _ _)
      | (with_reducible exact ih1 _ _ _ _ _)
      | (with_reducible exact ih2 _ _ _)
      | (with_reducible exact ih3 _ _ _ _ _ _)
      | (with_reducible exact ih4 _ _ _ _ _)
      | (with_reducible exact ih5 _ _ _ _ _)
      | (with_reducible exact jigsawref05_number.mono _ _ _)
      | (with_reducible exact jigsawref05_word.mono _ _ _)
      | (with_reducible exact LeO.refl _)
      | (with_reducible exact LeO.none _)
      | (with_reducible refine LeO.ite ?_ ?_)
      | (with_reducible refine LeO.bind ?_ (fun _ => ?_))
      | exact ih0 _ _ _
      | exact ih1 _ _ _ _ _
      | exact ih2 _ _ _
      | exact ih3 _ _ _ _ _ _
      | exact ih4 _ _ _ _ _
      | exact ih5 _ _ _ _ _
      | exact jigsawref05_number.mono _ _ _
      | exact jigsawref05_word.mono _ _ _
      | exact LeO.none _
      | refine LeO.ite ?_ ?_
      | refine LeO.bind ?_ (fun _ => ?_)
    · intro y0 y1 y2 y3 y4
      unfold jigsawref05_Lex.j1
      repeat' first
      | (with_reducible exact ih0 _ _ _)
      | (with_reducible exact ih1 _ _ _ _ _)
      | (with_reducible exact ih2 _ _ _)
      | (with_reducible exact ih3 _ _ _ _ _ _)
      | (with_reducible exact ih4 _ _ _ _ _)
      | (with_reducible exact ih5 _ _ _ _ _)
      | (with_reducible exact jigsawref05_number.mono _ _ _)
      | (with_reducible exact jigsawref05_word.mono _ _ _)
      | (with_reducible exact LeO.refl _)
      | (with_reducible exact LeO.none _)
      | (with_reducible refine LeO.ite ?_ ?_)
      | (with_reducible refine LeO.bind ?_ (fun _ => ?_))
      | exact ih0 _ _ _
      | exact ih1 _ _ _ _ _
      | exact ih2 _ _ _
      | exact ih3 _ _ _ _ _ _
      | exact ih4 _ _ _ _ _
      | exact ih5 _ _ _ _ _
      | exact jigsawref05_number.mono _ _ _
      | exact jigsawref05_word.mono _ _ _
      | exact LeO.none _
      | refine LeO.ite ?_ ?_
      | refine LeO.bind ?_ (fun _ => ?_)
    · intro y0 y1 y2
      unfold jigsawref05_Lex.l1
      repeat' first
      | (with_reducible exact ih0 _ _ _)
      | (with_reducible exact ih1 _ _ _ _ _)
      | (with_reducible exact ih2 _ _ _)
      | (with_reducible exact ih3 _ _ _ _ _ _)
      | (with_reducible exact ih4 _ _ _ _ _)
      | (with_reducible exact ih5 _ _ _ _ _)
      | (with_reducible exact jigsawref05_number.mono _ _ _)
      | (with_reducible exact jigsawref05_word.mono _ _ _)
      | (with_reducible exact LeO.refl _)
      | (with_reducible exact LeO.none _)
      | (with_reducible refine LeO.ite ?_ ?_)
      | (with_reducible refine LeO.bind ?_ (fun _ => ?_))
      | exact ih0 _ _ _
      | exact ih1 _ _ _ _ _
      | exact ih2 _ _ _
      | exact ih3 _ _ _ _ _ _
      | exact ih4 _ _ _ _ _
      | exact ih5 _ _ _ _ _
      | exact jigsawref05_number.mono _ _ _
      | exact jigsawref05_word.mono _ _ _
      | exact LeO.none _
      | refine LeO.ite ?_ ?_
      | refine LeO.bind ?_ (fun _ => ?_)
    · intro y0 y1 y2 y3 y4 y5
      unfold jigsawref05_Lex.j3
      repeat' first
      | (with_reducible exact ih0 _ _ _)
      | (with_reducible exact ih1 _ _ _ _ _)
      | (with_reducible exact ih2 _ _ _)
      | (with_reducible exact ih3 _ _ _ _ _ _)
      | (with_reducible exact ih4 _ _ _ _ _)
      | (with_reducible exact ih5 _ _ _ _ _)
      | (with_reducible exact jigsawref05_number.mono _ _ _)
      | (with_reducible exact jigsawref05_word.mono _ _ _)
      | (with_reducible exact LeO.refl _)
      | (with_reducible exact LeO.none _)
      | (with_reducible refine LeO.ite ?_ ?_)
      | (with_reducible refine LeO.bind ?_ (fun _ => ?_))
      | exact ih0 _ _ _
      | exact ih1 _ _ _ _ _
      | exact ih2 _ _ _
      | exact ih3 _ _ _ _ _ _
      | exact ih4 _ _ _ _ _
      | exact ih5 _ _ _ _ _
      | exact jigsawref05_number.mono _ _ _
      | exact jigsawref05_word.mono _ _ _
      | exact LeO.none _
      | refine LeO.ite ?_ ?_
      | refine LeO.bind ?_ (fun _ => ?_)
    · intro y0 y1 y2 y3 y4
      unfold jigsawref05_Lex.j4
      repeat' first
      | (with_reducible exact ih0 _ _ _)
      | (with_reducible exact ih1 _ _ _ _ _)
      | (with_reducible exact ih2 _ _ _)
      | (with_reducible exact ih3 _ _ _ _ _ _)
      | (with_reducible exact ih4 _ _ _ _ _)
      | (with_reducible exact ih5 _ _ _ _ _)
      | (with_reducible exact jigsawref05_number.mono _ _ _)
      | (with_reducible exact jigsawref05_word.mono _ _ _)
      | (with_reducible exact LeO.refl _)
      | (with_reducible exact LeO.none _)
      | (with_reducible refine LeO.ite ?_ ?_)
      | (with_reducible refine LeO.bind ?_ (fun _ => ?_))
      | exact ih0 _ _ _
      | exact ih1 _ _ _ _ _
      | exact ih2 _ _ _
      | exact ih3 _ _ _ _ _ _
      | exact ih4 _ _ _ _ _
      | exact ih5 _ _ _ _ _
      | exact jigsawref05_number.mono _ _ _
      | exact jigsawref05_word.mono _ _ _
      | exact LeO.none _
      | refine LeO.ite ?_ ?_
      | refine LeO.bind ?_ (fun _ => ?_)
    · intro y0 y1 y2 y3 y4
      unfold jigsawref05_Lex.j5
      repeat' first
      | (with_reducible exact ih0 _ _ _)
      | (with_reducible exact ih1 _ _ _ _ _)
      | (with_reducible exact ih2 _ _ _)
      | (with_reducible exact ih3 _ _ _ _ _ _)
      | (with_reducible exact ih4 _ _ _ _ _)
      | (with_reducible exact ih5 _ _ _ _ _)
      | (with_reducible exact jigsawref05_number.mono _ _ _)
      | (with_reducible exact jigsawref05_word.mono _ _ _)
      | (with_reducible exact LeO.refl _)
      | (with_reducible exact LeO.none _)
      | (with_reducible refine LeO.ite ?_ ?_)
      | (with_reducible refine LeO.bind ?_ (fun _ => ?_))
      | exact ih0 _ _ _
      | exact ih1 _ _ _ _ _
      | exact ih2 _ _ _
      | exact ih3 _ _ _ _ _ _
      | exact ih4 _ _ _ _ _
      | exact ih5 _ _ _ _ _
      | exact jigsawref05_number.mono _ _ _
      | exact jigsawref05_word.mono _ _ _
      | exact LeO.none _
      | refine LeO.ite ?_ ?_
      | refine LeO.bind ?_ (fun _ => ?_)
theorem jigsawref05_Lex.mono : ∀ a0 k, LeO (jigsawref05_Lex.f k a0) (jigsawref05_Lex.f (k + 1) a0) := by
  intro a0 k
  obtain ⟨ih0, ih1, ih2, ih3, ih4, ih5⟩ := jigsawref05_Lex.mono_l k
  unfold jigsawref05_Lex.f
  repeat' first
      | (with_reducible exact ih0 _ _ _)
      | (with_reducible exact ih1 _ _ _ _ _)
      | (with_reducible exact ih2 _ _ _)
      | (with_reducible exact ih3 _ _ _ _ _ _)
      | (with_reducible exact ih4 _ _ _ _ _)
      | (with_reducible exact ih5 _ _ _ _ _)
      | (with_reducible exact jigsawref05_number.mono _ _ _)
      | (with_reducible exact jigsawref05_word.mono _ _ _)
      | (with_reducible exact LeO.refl _)
      | (with_reducible exact LeO.none _)
      | (with_reducible refine LeO.ite ?_ ?_)
      | (with_reducible refine LeO.bind ?_ (fun _ => ?_))
      | exact ih0 _ _ _
      | exact ih1 _ _ _ _ _
      | exact ih2 _ _ _
      | exact ih3 _ _ _ _ _ _
      | exact ih4 _ _ _ _ _
      | exact ih5 _ _ _ _ _
      | exact jigsawref05_number.mono _ _ _
      | exact jigsawref05_word.mono _ _ _
      | exact LeO.none _
      | refine LeO.ite ?_ ?_
      | refine LeO.bind ?_ (fun _ => ?_)
set_option maxHeartbeats 8000000 in
set_option maxRecDepth 100000 in
theorem jigsawref05_Lex.calls (k : Nat) (a0 : ByteArray) (r1 : List (S43)) (r2 : Int) (r3 : Int) (w : World) (h : jigsawref05_Lex.f k a0 = some (r1, r2, r3)) :
    Calls Tryd.prog 8 #[.string a0] w fun e w' => ∃ v0_ : Value, e = .returned (.tuple #[v0_, .int .i64 r2, .int .i64 r3]) ∧ Kd.R k43 43 w' w.heap.size (fun _ => True) v0_ r1 ∧ Below w.heap.size w w' := by
  have hu43 := Tryd.underlying43
  have HB := Aside0.mk (Below.refl w.heap.size w)
  have H : (if (a0.size : Int) > 1048576 then (some (([] : List (S43)), 1048576, 13)) else (jigsawref05_Lex.l0 k a0 ([] : List (S43)) 0)) = some (r1, r2, r3) := h
  clear h
  by_cases c2 : (a0.size : Int) > 1048576
  · rw [if_pos c2] at H
    have c2b0 : decide (1048576 < (a0.size : Int)) = true := decide_eq_true c2
    have c2b1 : decide (1048576 < a0.size) = true := decide_eq_true (by omega)
    clear c2
    simp only [Option.some.injEq, Prod.mk.injEq] at H
    obtain ⟨rfl, rfl, rfl⟩ := H
    go_enter Tryd.func8, Tryd.ntmps8
    go_wp2
    go_ret3
    exact ⟨_, by first | rfl | (simp [errW_none, errW_some] <;> rfl) | (simp [*, errW_none, errW_some] <;> rfl), by first | exact Kd.R_nil _ _ _ _ _ | exact Kd.N_nil _ _ _ _ _ | exact Kd.V_nil _ _ _ _ _ | exact Kd.Q_nil _ _ _ _ _ | exact Kd.S_nil _ _ _ _ _, by repeat (first | (with_reducible first | exact HB.out | apply below_alloc | apply pw_below_drewN | apply below_drew1) | exact HB.out)⟩
  · rw [if_neg c2] at H
    have c2b0 : decide (1048576 < (a0.size : Int)) = false := decide_eq_false c2
    have c2b1 : decide (1048576 < a0.size) = false := decide_eq_false (by omega)
    clear c2
    have H' := Aside0.mk H
    clear H
    go_enter Tryd.func8, Tryd.ntmps8
    go_wp2
    go_loopg [5, 6] k (fun kq v5 v6 w' => ∃ (x5_1 : List (S43)) (x6_1 : Int), v6 = .int .i64 x6_1 ∧ Aside0 (jigsawref05_Lex.l0 kq a0 x5_1 x6_1 = some (r1, r2, r3)) ∧ Aside0 (kq ≤ k) ∧ Aside0 (Kd.R k43 43 w' w.heap.size (fun _ => True) v5 x5_1) ∧ Aside0 (Below w.heap.size w w'))
    case atStart => exact ⟨(([] : List (S43))), (0), (by first | rfl | (simp; done) | (simp [*]; done)), H', ⟨Nat.le_refl _⟩, ⟨by first | exact Kd.R_nil _ _ _ _ _ | exact Kd.N_nil _ _ _ _ _ | exact Kd.V_nil _ _ _ _ _ | exact Kd.Q_nil _ _ _ _ _ | exact Kd.S_nil _ _ _ _ _⟩, ⟨by repeat (first | (with_reducible first | exact HB.out | apply below_alloc | apply pw_below_drewN | apply below_drew1) | exact HB.out)⟩⟩
    case round =>
      clear H'
      try clear c2
      try clear c2b0
      try clear c2b1
      try clear p2
      obtain ⟨x5_1, x6_1, rfl, HA, HK1, HO_5, HB⟩ := hrel
      cases gk with
      | zero => exact absurd HA.out (by simp [jigsawref05_Lex.l0])
      | succ k1 =>
        have H := HA.out
        clear HA
        simp only [jigsawref05_Lex.l0] at H
        by_cases c3 : x6_1 < (a0.size : Int)
        · rw [if_pos c3] at H
          have c3b0 : decide (x6_1 < (a0.size : Int)) = true := decide_eq_true c3
          clear c3
          by_cases c4 : 0 ≤ x6_1
          · rw [if_pos c4] at H
            have c4b0 : decide (0 ≤ x6_1) = true := decide_eq_true c4
            clear c4
            have HC6 := Aside0.mk H
            clear H
            have p5 : 0 ≤ (x6_1 : Int) := of_decide_eq_true (by first | (with_reducible assumption) | assumption)
            have q5 : x6_1 < (a0.size : Int) := of_decide_eq_true (by first | (with_reducible assumption) | assumption)
            have hx5 := bt_at a0 x6_1
            replace p5 := eq_true p5
            replace q5 := eq_true q5
            go_upto_region 7 with (fail)
            go_cut [34] (fun v34 wc => ∃ (kq : Nat) (x34_5 : Bool), v34 = .bool x34_5 ∧ Aside0 (jigsawref05_Lex.j1 kq a0 x5_1 x6_1 (bt a0 x6_1) x34_5 = some (r1, r2, r3)) ∧ Aside0 (kq ≤ k1) ∧ Aside0 (Kd.R k43 43 wc w.heap.size (fun _ => True) u5 x5_1) ∧ Aside0 (Below w.heap.size w wc))
            case first => as_aux_lemma =>
              have H := HC6.out
              clear HC6
              by_cases c7 : (bt a0 x6_1) = 32
              · rw [if_pos c7] at H
                have c7b0 : ((bt a0 x6_1) == 32) = true := beq_iff_eq.mpr c7
                have c7b1 : ((bt a0 x6_1) != 32) = false := bne_eq_false_iff_eq.mpr c7
                clear c7
                (first | rw [c7b0] | (simp only [i64_w, i32_w]; rw [c7b0]) | skip)
                have H' := Aside0.mk H
                clear H
                go_wp2
                go_meet
                case rel => exact ⟨_, (true), (by first | rfl | (simp; done) | (simp [*]; done)), H', ⟨by have := HK1.out; first | omega | exact Nat.le_refl _⟩, ⟨by (with_reducible repeat (first | apply Kd.R_alloc | apply Kd.R_drewN | apply Kd.R_drew)); exact HO_5.out⟩, ⟨by repeat (first | (with_reducible first | exact HB.out | apply below_alloc | apply pw_below_drewN | apply below_drew1) | exact HB.out)⟩⟩
              · rw [if_neg c7] at H
                have c7b0 : ((bt a0 x6_1) == 32) = false := beq_eq_false_iff_ne.mpr c7
                have c7b1 : ((bt a0 x6_1) != 32) = true := bne_iff_ne.mpr c7
                (first | rw [c7b0] | (simp only [i64_w, i32_w]; rw [c7b0]) | skip)
                by_cases c8 : (bt a0 x6_1) = 9
                · rw [if_pos c8] at H
                  have c8b0 : ((bt a0 x6_1) == 9) = true := beq_iff_eq.mpr c8
                  have c8b1 : ((bt a0 x6_1) != 9) = false := bne_eq_false_iff_eq.mpr c8
                  clear c8
                  have H' := Aside0.mk H
                  clear H
                  go_wp2
                  go_meet
                  case rel => exact ⟨_, (true), (by first | rfl | (simp; done) | (simp [*]; done)), H', ⟨by have := HK1.out; first | omega | exact Nat.le_refl _⟩, ⟨by (with_reducible repeat (first | apply Kd.R_alloc | apply Kd.R_drewN | apply Kd.R_drew)); exact HO_5.out⟩, ⟨by repeat (first | (with_reducible first | exact HB.out | apply below_alloc | apply pw_below_drewN | apply below_drew1) | exact HB.out)⟩⟩
                · rw [if_neg c8] at H
                  have c8b0 : ((bt a0 x6_1) == 9) = false := beq_eq_false_iff_ne.mpr c8
                  have c8b1 : ((bt a0 x6_1) != 9) = true := bne_iff_ne.mpr c8
                  by_cases c9 : (bt a0 x6_1) = 10
                  · rw [if_pos c9] at H
                    have c9b0 : ((bt a0 x6_1) == 10) = true := beq_iff_eq.mpr c9
                    have c9b1 : ((bt a0 x6_1) != 10) = false := bne_eq_false_iff_eq.mpr c9
                    clear c9
                    have H' := Aside0.mk H
                    clear H
                    go_wp2
                    go_meet
                    case rel => exact ⟨_, (true), (by first | rfl | (simp; done) | (simp [*]; done)), H', ⟨by have := HK1.out; first | omega | exact Nat.le_refl _⟩, ⟨by (with_reducible repeat (first | apply Kd.R_alloc | apply Kd.R_drewN | apply Kd.R_drew)); exact HO_5.out⟩, ⟨by repeat (first | (with_reducible first | exact HB.out | apply below_alloc | apply pw_below_drewN | apply below_drew1) | exact HB.out)⟩⟩
                  · rw [if_neg c9] at H
                    have c9b0 : ((bt a0 x6_1) == 10) = false := beq_eq_false_iff_ne.mpr c9
                    have c9b1 : ((bt a0 x6_1) != 10) = true := bne_iff_ne.mpr c9
                    have H' := Aside0.mk H
                    clear H
                    go_wp2
                    go_meet
                    case rel => exact ⟨_, (((bt a0 x6_1) == 13)), (by first | rfl | (simp; done) | (simp [*]; done)), H', ⟨by have := HK1.out; first | omega | exact Nat.le_refl _⟩, ⟨by (with_reducible repeat (first | apply Kd.R_alloc | apply Kd.R_drewN | apply Kd.R_drew)); exact HO_5.out⟩, ⟨by repeat (first | (with_reducible first | exact HB.out | apply below_alloc | apply pw_below_drewN | apply below_drew1) | exact HB.out)⟩⟩
            case rest => as_aux_lemma =>
              clear HC6
              try clear c2
              try clear c2b0
              try clear c2b1
              try clear p2
              try clear c3
              try clear c3b0
              try clear c4
              try clear c4b0
              try clear p5
              try clear q5
              try clear hx5
              try clear c7
              try clear c7b0
              try clear c7b1
              try clear c8
              try clear c8b0
              try clear c8b1
              try clear c9
              try clear c9b0
              try clear c9b1
              try clear p2
              try clear p5
              try clear q5
              obtain ⟨kq, x34_5, rfl, HA, HJ5, HO_5, HB⟩ := hcut
              cases kq with
              | zero => exact absurd HA.out (by simp [jigsawref05_Lex.j1])
              | succ kj5 =>
                have H := HA.out
                clear HA
                simp only [jigsawref05_Lex.j1] at H
                by_cases c10 : x34_5 = true
                · subst c10
                  have H1 : (jigsawref05_Lex.l0 kj5 a0 x5_1 (wrap64 (x6_1 + 1))) = some (r1, r2, r3) := by rw [if_pos rfl] at H; exact H
                  clear H
                  have H := H1
                  clear H1
                  have H' := Aside0.mk H
                  clear H
                  go_wp2
                  go_roundg kj5
                  case measure => have := HK1.out; have := HJ5.out; omega
                  case rel => exact ⟨(x5_1), (wrap64 (x6_1 + 1)), (by first | rfl | (simp; done) | (simp [*]; done)), H', ⟨by have := HK1.out; have := HJ5.out; omega⟩, ⟨by (with_reducible repeat (first | apply Kd.R_alloc | apply Kd.R_drewN | apply Kd.R_drew)); exact HO_5.out⟩, ⟨by repeat (first | (with_reducible first | exact HB.out | apply below_alloc | apply pw_below_drewN | apply below_drew1) | exact HB.out)⟩⟩
                · replace c10 := Bool.eq_false_iff.mpr c10
                  subst c10
                  have H1 : (if (bt a0 x6_1) = 37 then (jigsawref05_Lex.l1 kj5 a0 x5_1 x6_1) else ((jigsawref05_word.f kj5 a0 x6_1).bind fun t136 => (if t136 > 0 then (if 0 ≤ x6_1 then (if x6_1 ≤ (wrap64 (x6_1 + t136)) then (if (wrap64 (x6_1 + t136)) ≤ (a0.size : Int) then (if x5_1.length < 3518437208883 then (jigsawref05_Lex.l0 kj5 a0 (x5_1 ++ [(⟨1, a0.extract (x6_1 : Int).toNat ((wrap64 (x6_1 + t136)) : Int).toNat, 0, x6_1⟩ : S43)]) (wrap64 (x6_1 + t136))) else (none)) else (none)) else (none)) else (none)) else ((jigsawref05_number.f kj5 a0 x6_1).bind fun bt140 => (if bt140.2.2 = 0 then (if bt140.1 > 0 then (if 0 ≤ x6_1 then (if x6_1 ≤ (wrap64 (x6_1 + bt140.1)) then (if (wrap64 (x6_1 + bt140.1)) ≤ (a0.size : Int) then (if x5_1.length < 3518437208883 then (jigsawref05_Lex.l0 kj5 a0 (x5_1 ++ [(⟨2, a0.extract (x6_1 : Int).toNat ((wrap64 (x6_1 + bt140.1)) : Int).toNat, bt140.2.1, x6_1⟩ : S43)]) (wrap64 (x6_1 + bt140.1))) else (none)) else (none)) else (none)) else (none)) else (if (bt a0 x6_1) = 40 then (jigsawref05_Lex.j3 kj5 a0 x5_1 x6_1 (bt a0 x6_1) 0 true) else (if (bt a0 x6_1) = 41 then (jigsawref05_Lex.j3 kj5 a0 x5_1 x6_1 (bt a0 x6_1) 0 true) else (if (bt a0 x6_1) = 91 then (jigsawref05_Lex.j3 kj5 a0 x5_1 x6_1 (bt a0 x6_1) 0 true) else (if (bt a0 x6_1) = 93 then (jigsawref05_Lex.j3 kj5 a0 x5_1 x6_1 (bt a0 x6_1) 0 true) else (if (bt a0 x6_1) = 123 then (jigsawref05_Lex.j3 kj5 a0 x5_1 x6_1 (bt a0 x6_1) 0 true) else (if (bt a0 x6_1) = 125 then (jigsawref05_Lex.j3 kj5 a0 x5_1 x6_1 (bt a0 x6_1) 0 true) else (if (bt a0 x6_1) = 44 then (jigsawref05_Lex.j3 kj5 a0 x5_1 x6_1 (bt a0 x6_1) 0 true) else (if (bt a0 x6_1) = 59 then (jigsawref05_Lex.j3 kj5 a0 x5_1 x6_1 (bt a0 x6_1) 0 true) else (jigsawref05_Lex.j3 kj5 a0 x5_1 x6_1 (bt a0 x6_1) 0 ((bt a0 x6_1) == 58))))))))))) else (some (([] : List (S43)), x6_1, bt140.2.2))))))) = some (r1, r2, r3) := by rw [if_neg (show ¬ (false = true) by decide)] at H; exact H
                  clear H
                  have H := H1
                  clear H1
                  by_cases c11 : (bt a0 x6_1) = 37
                  · rw [if_pos c11] at H
                    have c11b0 : ((bt a0 x6_1) == 37) = true := beq_iff_eq.mpr c11
                    have c11b1 : ((bt a0 x6_1) != 37) = false := bne_eq_false_iff_eq.mpr c11
                    clear c11
                    have H' := Aside0.mk H
                    clear H
                    go_wp2
                    go_loopg [6] kj5 (fun kq v6 w' => ∃ (x6_3 : Int), v6 = .int .i64 x6_3 ∧ Aside0 (jigsawref05_Lex.l1 kq a0 x5_1 x6_3 = some (r1, r2, r3)) ∧ Aside0 (kq ≤ kj5) ∧ Aside0 (Kd.R k43 43 w' w.heap.size (fun _ => True) u5 x5_1) ∧ Aside0 (Below w.heap.size w w'))
                    case atStart => exact ⟨(x6_1), (by first | rfl | (simp; done) | (simp [*]; done)), H', ⟨Nat.le_refl _⟩, ⟨by (with_reducible repeat (first | apply Kd.R_alloc | apply Kd.R_drewN | apply Kd.R_drew)); exact HO_5.out⟩, ⟨by repeat (first | (with_reducible first | exact HB.out | apply below_alloc | apply pw_below_drewN | apply below_drew1) | exact HB.out)⟩⟩
                    case round =>
                      clear H'
                      try clear c1
                      try clear c2
                      try clear c2b0
                      try clear c2b1
                      try clear p2
                      try clear c3
                      try clear c3b0
                      try clear c4
                      try clear c4b0
                      try clear p5
                      try clear q5
                      try clear hx5
                      try clear p6
                      try clear c7
                      try clear c7b0
                      try clear c7b1
                      try clear c8
                      try clear c8b0
                      try clear c8b1
                      try clear c9
                      try clear c9b0
                      try clear c9b1
                      try clear c10
                      try clear c11
                      try clear c11b0
                      try clear c11b1
                      try clear p2
                      try clear p5
                      try clear q5
                      obtain ⟨x6_3, rfl, HA, HK3, HO_5, HB⟩ := hrel
                      cases gk with
                      | zero => exact absurd HA.out (by simp [jigsawref05_Lex.l1])
                      | succ k3 =>
                        have H := HA.out
                        clear HA
                        simp only [jigsawref05_Lex.l1] at H
                        by_cases c12 : x6_3 < (a0.size : Int)
                        · rw [if_pos c12] at H
                          have c12b0 : decide (x6_3 < (a0.size : Int)) = true := decide_eq_true c12
                          clear c12
                          by_cases c13 : 0 ≤ x6_3
                          · rw [if_pos c13] at H
                            have c13b0 : decide (0 ≤ x6_3) = true := decide_eq_true c13
                            clear c13
                            by_cases c15 : (bt a0 x6_3) = 10
                            · rw [if_pos c15] at H
                              have c15b0 : ((bt a0 x6_3) == 10) = true := beq_iff_eq.mpr c15
                              have c15b1 : ((bt a0 x6_3) != 10) = false := bne_eq_false_iff_eq.mpr c15
                              clear c15
                              have H' := Aside0.mk H
                              clear H
                              have p14 : 0 ≤ (x6_3 : Int) := of_decide_eq_true (by first | (with_reducible assumption) | assumption)
                              have q14 : x6_3 < (a0.size : Int) := of_decide_eq_true (by first | (with_reducible assumption) | assumption)
                              have hx14 := bt_at a0 x6_3
                              replace p14 := eq_true p14
                              replace q14 := eq_true q14
                              go_wp2
                              go_roundg k3
                              case measure => have := HK1.out; have := HJ5.out; have := HK3.out; omega
                              case rel => exact ⟨(x5_1), (x6_3), (by first | rfl | (simp; done) | (simp [*]; done)), H', ⟨by have := HK1.out; have := HJ5.out; have := HK3.out; omega⟩, ⟨by (with_reducible repeat (first | apply Kd.R_alloc | apply Kd.R_drewN | apply Kd.R_drew)); exact HO_5.out⟩, ⟨by repeat (first | (with_reducible first | exact HB.out | apply below_alloc | apply pw_below_drewN | apply below_drew1) | exact HB.out)⟩⟩
                            · rw [if_neg c15] at H
                              have c15b0 : ((bt a0 x6_3) == 10) = false := beq_eq_false_iff_ne.mpr c15
                              have c15b1 : ((bt a0 x6_3) != 10) = true := bne_iff_ne.mpr c15
                              have H' := Aside0.mk H
                              clear H
                              have p14 : 0 ≤ (x6_3 : Int) := of_decide_eq_true (by first | (with_reducible assumption) | assumption)
                              have q14 : x6_3 < (a0.size : Int) := of_decide_eq_true (by first | (with_reducible assumption) | assumption)
                              have hx14 := bt_at a0 x6_3
                              replace p14 := eq_true p14
                              replace q14 := eq_true q14
                              go_wp2
                              go_roundg k3
                              case measure => have := HK1.out; have := HJ5.out; have := HK3.out; omega
                              case rel => exact ⟨(wrap64 (x6_3 + 1)), (by first | rfl | (simp; done) | (simp [*]; done)), H', ⟨by have := HK1.out; have := HJ5.out; have := HK3.out; omega⟩, ⟨by (with_reducible repeat (first | apply Kd.R_alloc | apply Kd.R_drewN | apply Kd.R_drew)); exact HO_5.out⟩, ⟨by repeat (first | (with_reducible first | exact HB.out | apply below_alloc | apply pw_below_drewN | apply below_drew1) | exact HB.out)⟩⟩
                          · rw [if_neg c13] at H
                            exact absurd H (by simp)
                        · rw [if_neg c12] at H
                          have c12b0 : decide (x6_3 < (a0.size : Int)) = false := decide_eq_false c12
                          clear c12
                          have H' := Aside0.mk H
                          clear H
                          go_wp2
                          go_roundg k3
                          case measure => have := HK1.out; have := HJ5.out; have := HK3.out; omega
                          case rel => exact ⟨(x5_1), (x6_3), (by first | rfl | (simp; done) | (simp [*]; done)), H', ⟨by have := HK1.out; have := HJ5.out; have := HK3.out; omega⟩, ⟨by (with_reducible repeat (first | apply Kd.R_alloc | apply Kd.R_drewN | apply Kd.R_drew)); exact HO_5.out⟩, ⟨by repeat (first | (with_reducible first | exact HB.out | apply below_alloc | apply pw_below_drewN | apply below_drew1) | exact HB.out)⟩⟩
                  · rw [if_neg c11] at H
                    have c11b0 : ((bt a0 x6_1) == 37) = false := beq_eq_false_iff_ne.mpr c11
                    have c11b1 : ((bt a0 x6_1) != 37) = true := bne_iff_ne.mpr c11
                    replace H := Option.bind_eq_some_iff.mp H
                    obtain ⟨t136, A160, H⟩ := H
                    replace H : (if t136 > 0 then (if 0 ≤ x6_1 then (if x6_1 ≤ (wrap64 (x6_1 + t136)) then (if (wrap64 (x6_1 + t136)) ≤ (a0.size : Int) then (if x5_1.length < 3518437208883 then (jigsawref05_Lex.l0 kj5 a0 (x5_1 ++ [(⟨1, a0.extract (x6_1 : Int).toNat ((wrap64 (x6_1 + t136)) : Int).toNat, 0, x6_1⟩ : S43)]) (wrap64 (x6_1 + t136))) else (none)) else (none)) else (none)) else (none)) else ((jigsawref05_number.f kj5 a0 x6_1).bind fun bt140 => (if bt140.2.2 = 0 then (if bt140.1 > 0 then (if 0 ≤ x6_1 then (if x6_1 ≤ (wrap64 (x6_1 + bt140.1)) then (if (wrap64 (x6_1 + bt140.1)) ≤ (a0.size : Int) then (if x5_1.length < 3518437208883 then (jigsawref05_Lex.l0 kj5 a0 (x5_1 ++ [(⟨2, a0.extract (x6_1 : Int).toNat ((wrap64 (x6_1 + bt140.1)) : Int).toNat, bt140.2.1, x6_1⟩ : S43)]) (wrap64 (x6_1 + bt140.1))) else (none)) else (none)) else (none)) else (none)) else (if (bt a0 x6_1) = 40 then (jigsawref05_Lex.j3 kj5 a0 x5_1 x6_1 (bt a0 x6_1) 0 true) else (if (bt a0 x6_1) = 41 then (jigsawref05_Lex.j3 kj5 a0 x5_1 x6_1 (bt a0 x6_1) 0 true) else (if (bt a0 x6_1) = 91 then (jigsawref05_Lex.j3 kj5 a0 x5_1 x6_1 (bt a0 x6_1) 0 true) else (if (bt a0 x6_1) = 93 then (jigsawref05_Lex.j3 kj5 a0 x5_1 x6_1 (bt a0 x6_1) 0 true) else (if (bt a0 x6_1) = 123 then (jigsawref05_Lex.j3 kj5 a0 x5_1 x6_1 (bt a0 x6_1) 0 true) else (if (bt a0 x6_1) = 125 then (jigsawref05_Lex.j3 kj5 a0 x5_1 x6_1 (bt a0 x6_1) 0 true) else (if (bt a0 x6_1) = 44 then (jigsawref05_Lex.j3 kj5 a0 x5_1 x6_1 (bt a0 x6_1) 0 true) else (if (bt a0 x6_1) = 59 then (jigsawref05_Lex.j3 kj5 a0 x5_1 x6_1 (bt a0 x6_1) 0 true) else (jigsawref05_Lex.j3 kj5 a0 x5_1 x6_1 (bt a0 x6_1) 0 ((bt a0 x6_1) == 58))))))))))) else (some (([] : List (S43)), x6_1, bt140.2.2))))) = some (r1, r2, r3) := H
                    have A16 := Aside0.mk A160
                    clear A160
                    by_cases c17 : t136 > 0
                    · rw [if_pos c17] at H
                      have c17b0 : decide (0 < t136) = true := decide_eq_true c17
                      clear c17
                      by_cases c18 : 0 ≤ x6_1
                      · rw [if_pos c18] at H
                        have c18b0 := eq_true c18
                        have c18b1 : decide (0 ≤ x6_1) = true := decide_eq_true c18
                        clear c18
                        by_cases c19 : x6_1 ≤ (wrap64 (x6_1 + t136))
                        · rw [if_pos c19] at H
                          have c19b0 := eq_true c19
                          have c19b1 : decide (x6_1 ≤ (wrap64 (x6_1 + t136))) = true := decide_eq_true c19
                          by_cases c20 : (wrap64 (x6_1 + t136)) ≤ (a0.size : Int)
                          · rw [if_pos c20] at H
                            have c20b0 := eq_true c20
                            have c20b1 : decide ((wrap64 (x6_1 + t136)) ≤ (a0.size : Int)) = true := decide_eq_true c20
                            by_cases c21 : x5_1.length < 3518437208883
                            · rw [if_pos c21] at H
                              have LMc21 := Aside0.mk c21
                              clear c21
                              obtain ⟨y137, hy137⟩ : ∃ y_ : List (S43), y_ = (x5_1 ++ [(⟨1, a0.extract (x6_1 : Int).toNat ((wrap64 (x6_1 + t136)) : Int).toNat, 0, x6_1⟩ : S43)]) := ⟨_, rfl⟩
                              replace H : (jigsawref05_Lex.l0 kj5 a0 y137 (wrap64 (x6_1 + t136))) = some (r1, r2, r3) := by first | (rw [hy137]; with_reducible exact H) | (have H2_ := (Option.bind_some _ _).symm.trans H; rw [hy137]; with_reducible exact H2_) | (have H2_ := (Option.bind_some _ _).symm.trans H; with_reducible exact H2_) | with_reducible exact H | (rw [hy137]; exact H) | exact H
                              have Ny137 := Aside0.mk hy137
                              clear hy137
                              have H' := Aside0.mk H
                              clear H
                              go_wp2_with (first | ((with_reducible refine gate_callee (f := 15) rfl ?_); refine goesL_ (some 53) rfl rfl Tryd.func15 (by kernel_rfl) rfl #[.string a0, .int .i64 x6_1] rfl (by (try simp only [List.map_toArray, List.map_cons, List.map_nil]); first | done | rfl | (simp only [List.length_drop, List.length_take]; rfl)) ?_; (with_reducible refine (jigsawref05_word.calls kj5 a0 x6_1 t136 _ A16.out).mono ?_); rintro e w' ⟨rfl, ⟨nd, rfl⟩⟩; refine ⟨_, rfl, ?_⟩) | ((with_reducible refine gate_builtin (b := .append) (xs := #[.tmp 56, .tmp 65]) rfl ?_); (try (refine gate_guard (by rfl) ?_; dsimp only)); at_builtin; refine Kd.R_append k43 (w0 := w) w.heap.size rfl (.tmp 56) (.tmp 65) 26 43 (.agg #[(.int .i64 0), (.string ⟨#[]⟩), (.int .i64 0), (.int .i64 0)]) 40 rfl Tryd.underlying26 info43 rfl (by decide) (by omega) u5 x5_1 (⟨1, a0.extract (x6_1 : Int).toNat ((wrap64 (x6_1 + t136)) : Int).toNat, 0, x6_1⟩ : S43) [.int .i64 1, .string (a0.extract (x6_1 : Int).toNat ((wrap64 (x6_1 + t136)) : Int).toNat), .int .i64 0, .int .i64 x6_1] (fun _ => True) (fun _ => False) rfl rfl ?aP (fun _ hk => hk.elim) ?aF ?aO ?aB ?aS ?aL ?_; (case aP => exact k43_mkM _ _ _ (⟨1, a0.extract (x6_1 : Int).toNat ((wrap64 (x6_1 + t136)) : Int).toNat, 0, x6_1⟩ : S43)); (case aB => exact (by repeat (first | (with_reducible first | exact HB.out | apply below_alloc | apply pw_below_drewN | apply below_drew1) | exact HB.out))); (case aF => exact (fun _ _ => trivial)); (case aO => exact (by (with_reducible repeat (first | apply Kd.R_alloc | apply Kd.R_drewN | apply Kd.R_drew)); exact HO_5.out)); (case aS => exact (below_size (by repeat (first | (with_reducible first | exact HB.out | apply below_alloc | apply pw_below_drewN | apply below_drew1) | exact HB.out)))); (case aL => have := LMc21.out; omega); intro v138 w22 ho hb hg hat; rw [← Ny137.out] at ho; have n0_ := Aside0.mk (hb); have n1_ := Aside0.mk (ho); clear HB; clear HO_5; have HB := n0_; have HO139 := n1_; clear n0_ n1_; clear ho hb hg hat))
                              go_roundg kj5
                              case measure => have := HK1.out; have := HJ5.out; omega
                              case rel => exact ⟨(y137), (wrap64 (x6_1 + t136)), (by first | rfl | (simp; done) | (simp [*]; done)), H', ⟨by have := HK1.out; have := HJ5.out; omega⟩, ⟨by (with_reducible repeat (first | apply Kd.R_alloc | apply Kd.R_drewN | apply Kd.R_drew)); exact HO139.out⟩, ⟨by repeat (first | (with_reducible first | exact HB.out | apply below_alloc | apply pw_below_drewN | apply below_drew1) | exact HB.out)⟩⟩
                            · rw [if_neg c21] at H
                              exact absurd H (by simp)
                          · rw [if_neg c20] at H
                            exact absurd H (by simp)
                        · rw [if_neg c19] at H
                          exact absurd H (by simp)
                      · rw [if_neg c18] at H
                        exact absurd H (by simp)
                    · rw [if_neg c17] at H
                      have c17b0 : decide (0 < t136) = false := decide_eq_false c17
                      clear c17
                      replace H := Option.bind_eq_some_iff.mp H
                      obtain ⟨⟨t140, t141, t142⟩, A230, H⟩ := H
                      replace H : (if t142 = 0 then (if t140 > 0 then (if 0 ≤ x6_1 then (if x6_1 ≤ (wrap64 (x6_1 + t140)) then (if (wrap64 (x6_1 + t140)) ≤ (a0.size : Int) then (if x5_1.length < 3518437208883 then (jigsawref05_Lex.l0 kj5 a0 (x5_1 ++ [(⟨2, a0.extract (x6_1 : Int).toNat ((wrap64 (x6_1 + t140)) : Int).toNat, t141, x6_1⟩ : S43)]) (wrap64 (x6_1 + t140))) else (none)) else (none)) else (none)) else (none)) else (if (bt a0 x6_1) = 40 then (jigsawref05_Lex.j3 kj5 a0 x5_1 x6_1 (bt a0 x6_1) 0 true) else (if (bt a0 x6_1) = 41 then (jigsawref05_Lex.j3 kj5 a0 x5_1 x6_1 (bt a0 x6_1) 0 true) else (if (bt a0 x6_1) = 91 then (jigsawref05_Lex.j3 kj5 a0 x5_1 x6_1 (bt a0 x6_1) 0 true) else (if (bt a0 x6_1) = 93 then (jigsawref05_Lex.j3 kj5 a0 x5_1 x6_1 (bt a0 x6_1) 0 true) else (if (bt a0 x6_1) = 123 then (jigsawref05_Lex.j3 kj5 a0 x5_1 x6_1 (bt a0 x6_1) 0 true) else (if (bt a0 x6_1) = 125 then (jigsawref05_Lex.j3 kj5 a0 x5_1 x6_1 (bt a0 x6_1) 0 true) else (if (bt a0 x6_1) = 44 then (jigsawref05_Lex.j3 kj5 a0 x5_1 x6_1 (bt a0 x6_1) 0 true) else (if (bt a0 x6_1) = 59 then (jigsawref05_Lex.j3 kj5 a0 x5_1 x6_1 (bt a0 x6_1) 0 true) else (jigsawref05_Lex.j3 kj5 a0 x5_1 x6_1 (bt a0 x6_1) 0 ((bt a0 x6_1) == 58))))))))))) else (some (([] : List (S43)), x6_1, t142))) = some (r1, r2, r3) := H
                      have A23 := Aside0.mk A230
                      clear A230
                      by_cases c24 : t142 = 0
                      · rw [if_pos c24] at H
                        have c24b0 : (t142 == 0) = true := beq_iff_eq.mpr c24
                        have c24b1 : (t142 != 0) = false := bne_eq_false_iff_eq.mpr c24
                        clear c24
                        by_cases c25 : t140 > 0
                        · rw [if_pos c25] at H
                          have c25b0 : decide (0 < t140) = true := decide_eq_true c25
                          clear c25
                          by_cases c26 : 0 ≤ x6_1
                          · rw [if_pos c26] at H
                            have c26b0 := eq_true c26
                            have c26b1 : decide (0 ≤ x6_1) = true := decide_eq_true c26
                            clear c26
                            by_cases c27 : x6_1 ≤ (wrap64 (x6_1 + t140))
                            · rw [if_pos c27] at H
                              have c27b0 := eq_true c27
                              have c27b1 : decide (x6_1 ≤ (wrap64 (x6_1 + t140))) = true := decide_eq_true c27
                              by_cases c28 : (wrap64 (x6_1 + t140)) ≤ (a0.size : Int)
                              · rw [if_pos c28] at H
                                have c28b0 := eq_true c28
                                have c28b1 : decide ((wrap64 (x6_1 + t140)) ≤ (a0.size : Int)) = true := decide_eq_true c28
                                by_cases c29 : x5_1.length < 3518437208883
                                · rw [if_pos c29] at H
                                  have LMc29 := Aside0.mk c29
                                  clear c29
                                  obtain ⟨y143, hy143⟩ : ∃ y_ : List (S43), y_ = (x5_1 ++ [(⟨2, a0.extract (x6_1 : Int).toNat ((wrap64 (x6_1 + t140)) : Int).toNat, t141, x6_1⟩ : S43)]) := ⟨_, rfl⟩
                                  replace H : (jigsawref05_Lex.l0 kj5 a0 y143 (wrap64 (x6_1 + t140))) = some (r1, r2, r3) := by first | (rw [hy143]; with_reducible exact H) | (have H2_ := (Option.bind_some _ _).symm.trans H; rw [hy143]; with_reducible exact H2_) | (have H2_ := (Option.bind_some _ _).symm.trans H; with_reducible exact H2_) | with_reducible exact H | (rw [hy143]; exact H) | exact H
                                  have Ny143 := Aside0.mk hy143
                                  clear hy143
                                  have H' := Aside0.mk H
                                  clear H
                                  go_wp2_with (first | ((with_reducible refine gate_callee (f := 15) rfl ?_); refine goesL_ (some 53) rfl rfl Tryd.func15 (by kernel_rfl) rfl #[.string a0, .int .i64 x6_1] rfl (by (try simp only [List.map_toArray, List.map_cons, List.map_nil]); first | done | rfl | (simp only [List.length_drop, List.length_take]; rfl)) ?_; (with_reducible refine (jigsawref05_word.calls kj5 a0 x6_1 t136 _ A16.out).mono ?_); rintro e w' ⟨rfl, ⟨nd, rfl⟩⟩; refine ⟨_, rfl, ?_⟩) | ((with_reducible refine gate_callee (f := 16) rfl ?_); refine goesL_ (some 73) rfl rfl Tryd.func16 (by kernel_rfl) rfl #[.string a0, .int .i64 x6_1] rfl (by (try simp only [List.map_toArray, List.map_cons, List.map_nil]); first | done | rfl | (simp only [List.length_drop, List.length_take]; rfl)) ?_; (with_reducible refine (jigsawref05_number.calls kj5 a0 x6_1 t140 t141 t142 _ A23.out).mono ?_); rintro e w' ⟨rfl, ⟨nd, rfl⟩⟩; refine ⟨_, rfl, ?_⟩) | ((with_reducible refine gate_builtin (b := .append) (xs := #[.tmp 83, .tmp 93]) rfl ?_); (try (refine gate_guard (by rfl) ?_; dsimp only)); at_builtin; refine Kd.R_append k43 (w0 := w) w.heap.size rfl (.tmp 83) (.tmp 93) 26 43 (.agg #[(.int .i64 0), (.string ⟨#[]⟩), (.int .i64 0), (.int .i64 0)]) 40 rfl Tryd.underlying26 info43 rfl (by decide) (by omega) u5 x5_1 (⟨2, a0.extract (x6_1 : Int).toNat ((wrap64 (x6_1 + t140)) : Int).toNat, t141, x6_1⟩ : S43) [.int .i64 2, .string (a0.extract (x6_1 : Int).toNat ((wrap64 (x6_1 + t140)) : Int).toNat), .int .i64 t141, .int .i64 x6_1] (fun _ => True) (fun _ => False) rfl rfl ?aP (fun _ hk => hk.elim) ?aF ?aO ?aB ?aS ?aL ?_; (case aP => exact k43_mkM _ _ _ (⟨2, a0.extract (x6_1 : Int).toNat ((wrap64 (x6_1 + t140)) : Int).toNat, t141, x6_1⟩ : S43)); (case aB => exact (by repeat (first | (with_reducible first | exact HB.out | apply below_alloc | apply pw_below_drewN | apply below_drew1) | exact HB.out))); (case aF => exact (fun _ _ => trivial)); (case aO => exact (by (with_reducible repeat (first | apply Kd.R_alloc | apply Kd.R_drewN | apply Kd.R_drew)); exact HO_5.out)); (case aS => exact (below_size (by repeat (first | (with_reducible first | exact HB.out | apply below_alloc | apply pw_below_drewN | apply below_drew1) | exact HB.out)))); (case aL => have := LMc29.out; omega); intro v144 w30 ho hb hg hat; rw [← Ny143.out] at ho; have n0_ := Aside0.mk (hb); have n1_ := Aside0.mk (ho); clear HB; clear HO_5; have HB := n0_; have HO145 := n1_; clear n0_ n1_; clear ho hb hg hat))
                                  go_roundg kj5
                                  case measure => have := HK1.out; have := HJ5.out; omega
                                  case rel => exact ⟨(y143), (wrap64 (x6_1 + t140)), (by first | rfl | (simp; done) | (simp [*]; done)), H', ⟨by have := HK1.out; have := HJ5.out; omega⟩, ⟨by (with_reducible repeat (first | apply Kd.R_alloc | apply Kd.R_drewN | apply Kd.R_drew)); exact HO145.out⟩, ⟨by repeat (first | (with_reducible first | exact HB.out | apply below_alloc | apply pw_below_drewN | apply below_drew1) | exact HB.out)⟩⟩
                                · rw [if_neg c29] at H
                                  exact absurd H (by simp)
                              · rw [if_neg c28] at H
                                exact absurd H (by simp)
                            · rw [if_neg c27] at H
                              exact absurd H (by simp)
                          · rw [if_neg c26] at H
                            exact absurd H (by simp)
                        · rw [if_neg c25] at H
                          have c25b0 : decide (0 < t140) = false := decide_eq_false c25
                          clear c25
                          have HC31 := Aside0.mk H
                          clear H
                          go_upto_region 23 with (first | ((with_reducible refine gate_callee (f := 15) rfl ?_); refine goesL_ (some 53) rfl rfl Tryd.func15 (by kernel_rfl) rfl #[.string a0, .int .i64 x6_1] rfl (by (try simp only [List.map_toArray, List.map_cons, List.map_nil]); first | done | rfl | (simp only [List.length_drop, List.length_take]; rfl)) ?_; (with_reducible refine (jigsawref05_word.calls kj5 a0 x6_1 t136 _ A16.out).mono ?_); rintro e w' ⟨rfl, ⟨nd, rfl⟩⟩; refine ⟨_, rfl, ?_⟩) | ((with_reducible refine gate_callee (f := 16) rfl ?_); refine goesL_ (some 73) rfl rfl Tryd.func16 (by kernel_rfl) rfl #[.string a0, .int .i64 x6_1] rfl (by (try simp only [List.map_toArray, List.map_cons, List.map_nil]); first | done | rfl | (simp only [List.length_drop, List.length_take]; rfl)) ?_; (with_reducible refine (jigsawref05_number.calls kj5 a0 x6_1 t140 t141 t142 _ A23.out).mono ?_); rintro e w' ⟨rfl, ⟨nd, rfl⟩⟩; refine ⟨_, rfl, ?_⟩))
                          (try simp only [Act.put, List.setIfInBounds_toArray, List.set_cons_zero, List.set_cons_succ])
                          go_cut [131] (fun v131 wc => ∃ (kq : Nat) (x131_30 : Bool), v131 = .bool x131_30 ∧ Aside0 (jigsawref05_Lex.j3 kq a0 x5_1 x6_1 (bt a0 x6_1) 0 x131_30 = some (r1, r2, r3)) ∧ Aside0 (kq ≤ kj5) ∧ Aside0 (Kd.R k43 43 wc w.heap.size (fun _ => True) u5 x5_1) ∧ Aside0 (Below w.heap.size w wc))
                          case first => as_aux_lemma =>
                            have H := HC31.out
                            clear HC31
                            by_cases c32 : (bt a0 x6_1) = 40
                            · rw [if_pos c32] at H
                              have c32b0 : ((bt a0 x6_1) == 40) = true := beq_iff_eq.mpr c32
                              have c32b1 : ((bt a0 x6_1) != 40) = false := bne_eq_false_iff_eq.mpr c32
                              clear c32
                              (first | rw [c32b0] | (simp only [i64_w, i32_w]; rw [c32b0]) | skip)
                              have H' := Aside0.mk H
                              clear H
                              go_wp2
                              go_meet
                              case rel => exact ⟨_, (true), (by first | rfl | (simp; done) | (simp [*]; done)), H', ⟨by have := HK1.out; have := HJ5.out; first | omega | exact Nat.le_refl _⟩, ⟨by (with_reducible repeat (first | apply Kd.R_alloc | apply Kd.R_drewN | apply Kd.R_drew)); exact HO_5.out⟩, ⟨by repeat (first | (with_reducible first | exact HB.out | apply below_alloc | apply pw_below_drewN | apply below_drew1) | exact HB.out)⟩⟩
                            · rw [if_neg c32] at H
                              have c32b0 : ((bt a0 x6_1) == 40) = false := beq_eq_false_iff_ne.mpr c32
                              have c32b1 : ((bt a0 x6_1) != 40) = true := bne_iff_ne.mpr c32
                              (first | rw [c32b0] | (simp only [i64_w, i32_w]; rw [c32b0]) | skip)
                              by_cases c33 : (bt a0 x6_1) = 41
                              · rw [if_pos c33] at H
                                have c33b0 : ((bt a0 x6_1) == 41) = true := beq_iff_eq.mpr c33
                                have c33b1 : ((bt a0 x6_1) != 41) = false := bne_eq_false_iff_eq.mpr c33
                                clear c33
                                have H' := Aside0.mk H
                                clear H
                                go_wp2
                                go_meet
                                case rel => exact ⟨_, (true), (by first | rfl | (simp; done) | (simp [*]; done)), H', ⟨by have := HK1.out; have := HJ5.out; first | omega | exact Nat.le_refl _⟩, ⟨by (with_reducible repeat (first | apply Kd.R_alloc | apply Kd.R_drewN | apply Kd.R_drew)); exact HO_5.out⟩, ⟨by repeat (first | (with_reducible first | exact HB.out | apply below_alloc | apply pw_below_drewN | apply below_drew1) | exact HB.out)⟩⟩
                              · rw [if_neg c33] at H
                                have c33b0 : ((bt a0 x6_1) == 41) = false := beq_eq_false_iff_ne.mpr c33
                                have c33b1 : ((bt a0 x6_1) != 41) = true := bne_iff_ne.mpr c33
                                by_cases c34 : (bt a0 x6_1) = 91
                                · rw [if_pos c34] at H
                                  have c34b0 : ((bt a0 x6_1) == 91) = true := beq_iff_eq.mpr c34
                                  have c34b1 : ((bt a0 x6_1) != 91) = false := bne_eq_false_iff_eq.mpr c34
                                  clear c34
                                  have H' := Aside0.mk H
                                  clear H
                                  go_wp2
                                  go_meet
                                  case rel => exact ⟨_, (true), (by first | rfl | (simp; done) | (simp [*]; done)), H', ⟨by have := HK1.out; have := HJ5.out; first | omega | exact Nat.le_refl _⟩, ⟨by (with_reducible repeat (first | apply Kd.R_alloc | apply Kd.R_drewN | apply Kd.R_drew)); exact HO_5.out⟩, ⟨by repeat (first | (with_reducible first | exact HB.out | apply below_alloc | apply pw_below_drewN | apply below_drew1) | exact HB.out)⟩⟩
                                · rw [if_neg c34] at H
                                  have c34b0 : ((bt a0 x6_1) == 91) = false := beq_eq_false_iff_ne.mpr c34
                                  have c34b1 : ((bt a0 x6_1) != 91) = true := bne_iff_ne.mpr c34
                                  by_cases c35 : (bt a0 x6_1) = 93
                                  · rw [if_pos c35] at H
                                    have c35b0 : ((bt a0 x6_1) == 93) = true := beq_iff_eq.mpr c35
                                    have c35b1 : ((bt a0 x6_1) != 93) = false := bne_eq_false_iff_eq.mpr c35
                                    clear c35
                                    have H' := Aside0.mk H
                                    clear H
                                    go_wp2
                                    go_meet
                                    case rel => exact ⟨_, (true), (by first | rfl | (simp; done) | (simp [*]; done)), H', ⟨by have := HK1.out; have := HJ5.out; first | omega | exact Nat.le_refl _⟩, ⟨by (with_reducible repeat (first | apply Kd.R_alloc | apply Kd.R_drewN | apply Kd.R_drew)); exact HO_5.out⟩, ⟨by repeat (first | (with_reducible first | exact HB.out | apply below_alloc | apply pw_below_drewN | apply below_drew1) | exact HB.out)⟩⟩
                                  · rw [if_neg c35] at H
                                    have c35b0 : ((bt a0 x6_1) == 93) = false := beq_eq_false_iff_ne.mpr c35
                                    have c35b1 : ((bt a0 x6_1) != 93) = true := bne_iff_ne.mpr c35
                                    by_cases c36 : (bt a0 x6_1) = 123
                                    · rw [if_pos c36] at H
                                      have c36b0 : ((bt a0 x6_1) == 123) = true := beq_iff_eq.mpr c36
                                      have c36b1 : ((bt a0 x6_1) != 123) = false := bne_eq_false_iff_eq.mpr c36
                                      clear c36
                                      have H' := Aside0.mk H
                                      clear H
                                      go_wp2
                                      go_meet
                                      case rel => exact ⟨_, (true), (by first | rfl | (simp; done) | (simp [*]; done)), H', ⟨by have := HK1.out; have := HJ5.out; first | omega | exact Nat.le_refl _⟩, ⟨by (with_reducible repeat (first | apply Kd.R_alloc | apply Kd.R_drewN | apply Kd.R_drew)); exact HO_5.out⟩, ⟨by repeat (first | (with_reducible first | exact HB.out | apply below_alloc | apply pw_below_drewN | apply below_drew1) | exact HB.out)⟩⟩
                                    · rw [if_neg c36] at H
                                      have c36b0 : ((bt a0 x6_1) == 123) = false := beq_eq_false_iff_ne.mpr c36
                                      have c36b1 : ((bt a0 x6_1) != 123) = true := bne_iff_ne.mpr c36
                                      by_cases c37 : (bt a0 x6_1) = 125
                                      · rw [if_pos c37] at H
                                        have c37b0 : ((bt a0 x6_1) == 125) = true := beq_iff_eq.mpr c37
                                        have c37b1 : ((bt a0 x6_1) != 125) = false := bne_eq_false_iff_eq.mpr c37
                                        clear c37
                                        have H' := Aside0.mk H
                                        clear H
                                        go_wp2
                                        go_meet
                                        case rel => exact ⟨_, (true), (by first | rfl | (simp; done) | (simp [*]; done)), H', ⟨by have := HK1.out; have := HJ5.out; first | omega | exact Nat.le_refl _⟩, ⟨by (with_reducible repeat (first | apply Kd.R_alloc | apply Kd.R_drewN | apply Kd.R_drew)); exact HO_5.out⟩, ⟨by repeat (first | (with_reducible first | exact HB.out | apply below_alloc | apply pw_below_drewN | apply below_drew1) | exact HB.out)⟩⟩
                                      · rw [if_neg c37] at H
                                        have c37b0 : ((bt a0 x6_1) == 125) = false := beq_eq_false_iff_ne.mpr c37
                                        have c37b1 : ((bt a0 x6_1) != 125) = true := bne_iff_ne.mpr c37
                                        by_cases c38 : (bt a0 x6_1) = 44
                                        · rw [if_pos c38] at H
                                          have c38b0 : ((bt a0 x6_1) == 44) = true := beq_iff_eq.mpr c38
                                          have c38b1 : ((bt a0 x6_1) != 44) = false := bne_eq_false_iff_eq.mpr c38
                                          clear c38
                                          have H' := Aside0.mk H
                                          clear H
                                          go_wp2
                                          go_meet
                                          case rel => exact ⟨_, (true), (by first | rfl | (simp; done) | (simp [*]; done)), H', ⟨by have := HK1.out; have := HJ5.out; first | omega | exact Nat.le_refl _⟩, ⟨by (with_reducible repeat (first | apply Kd.R_alloc | apply Kd.R_drewN | apply Kd.R_drew)); exact HO_5.out⟩, ⟨by repeat (first | (with_reducible first | exact HB.out | apply below_alloc | apply pw_below_drewN | apply below_drew1) | exact HB.out)⟩⟩
                                        · rw [if_neg c38] at H
                                          have c38b0 : ((bt a0 x6_1) == 44) = false := beq_eq_false_iff_ne.mpr c38
                                          have c38b1 : ((bt a0 x6_1) != 44) = true := bne_iff_ne.mpr c38
                                          by_cases c39 : (bt a0 x6_1) = 59
                                          · rw [if_pos c39] at H
                                            have c39b0 : ((bt a0 x6_1) == 59) = true := beq_iff_eq.mpr c39
                                            have c39b1 : ((bt a0 x6_1) != 59) = false := bne_eq_false_iff_eq.mpr c39
                                            clear c39
                                            have H' := Aside0.mk H
                                            clear H
                                            go_wp2
                                            go_meet
                                            case rel => exact ⟨_, (true), (by first | rfl | (simp; done) | (simp [*]; done)), H', ⟨by have := HK1.out; have := HJ5.out; first | omega | exact Nat.le_refl _⟩, ⟨by (with_reducible repeat (first | apply Kd.R_alloc | apply Kd.R_drewN | apply Kd.R_drew)); exact HO_5.out⟩, ⟨by repeat (first | (with_reducible first | exact HB.out | apply below_alloc | apply pw_below_drewN | apply below_drew1) | exact HB.out)⟩⟩
                                          · rw [if_neg c39] at H
                                            have c39b0 : ((bt a0 x6_1) == 59) = false := beq_eq_false_iff_ne.mpr c39
                                            have c39b1 : ((bt a0 x6_1) != 59) = true := bne_iff_ne.mpr c39
                                            have H' := Aside0.mk H
                                            clear H
                                            go_wp2
                                            go_meet
                                            case rel => exact ⟨_, (((bt a0 x6_1) == 58)), (by first | rfl | (simp; done) | (simp [*]; done)), H', ⟨by have := HK1.out; have := HJ5.out; first | omega | exact Nat.le_refl _⟩, ⟨by (with_reducible repeat (first | apply Kd.R_alloc | apply Kd.R_drewN | apply Kd.R_drew)); exact HO_5.out⟩, ⟨by repeat (first | (with_reducible first | exact HB.out | apply below_alloc | apply pw_below_drewN | apply below_drew1) | exact HB.out)⟩⟩
                          case rest => as_aux_lemma =>
                            clear HC31
                            try clear c1
                            try clear p1
                            try clear q1
                            try clear hx1
                            try clear c2
                            try clear c2b0
                            try clear c2b1
                            try clear p2
                            try clear c3
                            try clear c3b0
                            try clear c4
                            try clear c4b0
                            try clear p5
                            try clear q5
                            try clear hx5
                            try clear p6
                            try clear c7
                            try clear c7b0
                            try clear c7b1
                            try clear c8
                            try clear c8b0
                            try clear c8b1
                            try clear c9
                            try clear c9b0
                            try clear c9b1
                            try clear c10
                            try clear c11
                            try clear c11b0
                            try clear c11b1
                            try clear c12
                            try clear c12b0
                            try clear c13
                            try clear c13b0
                            try clear p14
                            try clear q14
                            try clear hx14
                            try clear c15
                            try clear c15b0
                            try clear c15b1
                            try clear c16
                            try clear c17
                            try clear c17b0
                            try clear c18
                            try clear c18b0
                            try clear c18b1
                            try clear c19
                            try clear c19b0
                            try clear c19b1
                            try clear c20
                            try clear c20b0
                            try clear c20b1
                            try clear c21
                            try clear c24
                            try clear c24b0
                            try clear c24b1
                            try clear c25
                            try clear c25b0
                            try clear c26
                            try clear c26b0
                            try clear c26b1
                            try clear c27
                            try clear c27b0
                            try clear c27b1
                            try clear c28
                            try clear c28b0
                            try clear c28b1
                            try clear c29
                            try clear c32
                            try clear c32b0
                            try clear c32b1
                            try clear c33
                            try clear c33b0
                            try clear c33b1
                            try clear c34
                            try clear c34b0
                            try clear c34b1
                            try clear c35
                            try clear c35b0
                            try clear c35b1
                            try clear c36
                            try clear c36b0
                            try clear c36b1
                            try clear c37
                            try clear c37b0
                            try clear c37b1
                            try clear c38
                            try clear c38b0
                            try clear c38b1
                            try clear c39
                            try clear c39b0
                            try clear c39b1
                            try clear p14
                            try clear p2
                            try clear p5
                            try clear p6
                            try clear q14
                            try clear q5
                            obtain ⟨kq, x131_30, rfl, HA, HJ30, HO_5, HB⟩ := hcut
                            cases kq with
                            | zero => exact absurd HA.out (by simp [jigsawref05_Lex.j3])
                            | succ kj30 =>
                              have H := HA.out
                              clear HA
                              simp only [jigsawref05_Lex.j3] at H
                              have HC40 := Aside0.mk H
                              clear H
                              go_upto_if 131 with (fail)
                              go_cut [8] (fun v8 wc => ∃ (kq : Nat) (x8_39 : Int), v8 = .int .i64 x8_39 ∧ Aside0 (jigsawref05_Lex.j4 kq a0 x5_1 x6_1 (bt a0 x6_1) x8_39 = some (r1, r2, r3)) ∧ Aside0 (kq ≤ kj30) ∧ Aside0 (Kd.R k43 43 wc w.heap.size (fun _ => True) u5 x5_1) ∧ Aside0 (Below w.heap.size w wc))
                              case first => as_aux_lemma =>
                                have H := HC40.out
                                clear HC40
                                by_cases c41 : x131_30 = true
                                · subst c41
                                  have H1 : (jigsawref05_Lex.j4 kj30 a0 x5_1 x6_1 (bt a0 x6_1) 1) = some (r1, r2, r3) := by rw [if_pos rfl] at H; exact H
                                  clear H
                                  have H := H1
                                  clear H1
                                  have H' := Aside0.mk H
                                  clear H
                                  go_wp2
                                  go_meet
                                  case rel => exact ⟨_, (1), (by first | rfl | (simp; done) | (simp [*]; done)), H', ⟨by have := HK1.out; have := HJ5.out; have := HJ30.out; first | omega | exact Nat.le_refl _⟩, ⟨by (with_reducible repeat (first | apply Kd.R_alloc | apply Kd.R_drewN | apply Kd.R_drew)); exact HO_5.out⟩, ⟨by repeat (first | (with_reducible first | exact HB.out | apply below_alloc | apply pw_below_drewN | apply below_drew1) | exact HB.out)⟩⟩
                                · replace c41 := Bool.eq_false_iff.mpr c41
                                  subst c41
                                  have H1 : (jigsawref05_Lex.j4 kj30 a0 x5_1 x6_1 (bt a0 x6_1) 0) = some (r1, r2, r3) := by rw [if_neg (show ¬ (false = true) by decide)] at H; exact H
                                  clear H
                                  have H := H1
                                  clear H1
                                  have H' := Aside0.mk H
                                  clear H
                                  go_wp2
                                  go_meet
                                  case rel => exact ⟨_, (0), (by first | rfl | (simp; done) | (simp [*]; done)), H', ⟨by have := HK1.out; have := HJ5.out; have := HJ30.out; first | omega | exact Nat.le_refl _⟩, ⟨by (with_reducible repeat (first | apply Kd.R_alloc | apply Kd.R_drewN | apply Kd.R_drew)); exact HO_5.out⟩, ⟨by repeat (first | (with_reducible first | exact HB.out | apply below_alloc | apply pw_below_drewN | apply below_drew1) | exact HB.out)⟩⟩
                              case rest => as_aux_lemma =>
                                clear HC40
                                try clear c1
                                try clear p1
                                try clear q1
                                try clear hx1
                                try clear c2
                                try clear c2b0
                                try clear c2b1
                                try clear p2
                                try clear c3
                                try clear c3b0
                                try clear c4
                                try clear c4b0
                                try clear p5
                                try clear q5
                                try clear hx5
                                try clear p6
                                try clear c7
                                try clear c7b0
                                try clear c7b1
                                try clear c8
                                try clear c8b0
                                try clear c8b1
                                try clear c9
                                try clear c9b0
                                try clear c9b1
                                try clear c10
                                try clear c11
                                try clear c11b0
                                try clear c11b1
                                try clear c12
                                try clear c12b0
                                try clear c13
                                try clear c13b0
                                try clear p14
                                try clear q14
                                try clear hx14
                                try clear c15
                                try clear c15b0
                                try clear c15b1
                                try clear c16
                                try clear c17
                                try clear c17b0
                                try clear c18
                                try clear c18b0
                                try clear c18b1
                                try clear c19
                                try clear c19b0
                                try clear c19b1
                                try clear c20
                                try clear c20b0
                                try clear c20b1
                                try clear c21
                                try clear c24
                                try clear c24b0
                                try clear c24b1
                                try clear c25
                                try clear c25b0
                                try clear c26
                                try clear c26b0
                                try clear c26b1
                                try clear c27
                                try clear c27b0
                                try clear c27b1
                                try clear c28
                                try clear c28b0
                                try clear c28b1
                                try clear c29
                                try clear c32
                                try clear c32b0
                                try clear c32b1
                                try clear c33
                                try clear c33b0
                                try clear c33b1
                                try clear c34
                                try clear c34b0
                                try clear c34b1
                                try clear c35
                                try clear c35b0
                                try clear c35b1
                                try clear c36
                                try clear c36b0
                                try clear c36b1
                                try clear c37
                                try clear c37b0
                                try clear c37b1
                                try clear c38
                                try clear c38b0
                                try clear c38b1
                                try clear c39
                                try clear c39b0
                                try clear c39b1
                                try clear c41
                                try clear p1
                                try clear p14
                                try clear p2
                                try clear p5
                                try clear p6
                                try clear q1
                                try clear q14
                                try clear q5
                                obtain ⟨kq, x8_39, rfl, HA, HJ39, HO_5, HB⟩ := hcut
                                cases kq with
                                | zero => exact absurd HA.out (by simp [jigsawref05_Lex.j4])
                                | succ kj39 =>
                                  have H := HA.out
                                  clear HA
                                  simp only [jigsawref05_Lex.j4] at H
                                  have HC42 := Aside0.mk H
                                  clear H
                                  go_upto_region 25 with (fail)
                                  go_cut [147] (fun v147 wc => ∃ (kq : Nat) (x147_41 : Bool), v147 = .bool x147_41 ∧ Aside0 (jigsawref05_Lex.j5 kq a0 x5_1 x6_1 x8_39 x147_41 = some (r1, r2, r3)) ∧ Aside0 (kq ≤ kj39) ∧ Aside0 (Kd.R k43 43 wc w.heap.size (fun _ => True) u5 x5_1) ∧ Aside0 (Below w.heap.size w wc))
                                  case first => as_aux_lemma =>
                                    have H := HC42.out
                                    clear HC42
                                    by_cases c43 : (bt a0 x6_1) = 46
                                    · rw [if_pos c43] at H
                                      have c43b0 : ((bt a0 x6_1) == 46) = true := beq_iff_eq.mpr c43
                                      have c43b1 : ((bt a0 x6_1) != 46) = false := bne_eq_false_iff_eq.mpr c43
                                      clear c43
                                      (first | rw [c43b0] | (simp only [i64_w, i32_w]; rw [c43b0]) | skip)
                                      by_cases c44 : (wrap64 (x6_1 + 1)) < (a0.size : Int)
                                      · rw [if_pos c44] at H
                                        have c44b0 : decide ((wrap64 (x6_1 + 1)) < (a0.size : Int)) = true := decide_eq_true c44
                                        clear c44
                                        obtain ⟨ji45, hji45⟩ : ∃ j_ : Int, (wrap64 (x6_1 + 1)) = j_ := ⟨_, rfl⟩
                                        replace H : (if 0 ≤ (ji45) then (jigsawref05_Lex.j5 kj39 a0 x5_1 x6_1 x8_39 ((bt a0 (ji45)) == 46)) else (none)) = some (r1, r2, r3) := by first | (rw [hji45] at H; exact H) | (simp only [hji45] at H ⊢; exact H)
                                        (try rw [hji45] at c44b0)
                                        have hji45w : (IntKind.i64.wrap (x6_1 + 1)) = ji45 := (i64_w _).trans hji45
                                        by_cases c46 : 0 ≤ (ji45)
                                        · rw [if_pos c46] at H
                                          have c46b0 : decide (0 ≤ (ji45)) = true := decide_eq_true c46
                                          clear c46
                                          have H' := Aside0.mk H
                                          clear H
                                          have p47 : 0 ≤ ((ji45) : Int) := of_decide_eq_true (by first | (with_reducible assumption) | assumption)
                                          have q47 : (ji45) < (a0.size : Int) := of_decide_eq_true (by first | (with_reducible assumption) | assumption)
                                          have hx47 := bt_at a0 (ji45)
                                          replace p47 := eq_true p47
                                          replace q47 := eq_true q47
                                          go_wp2
                                          go_meet
                                          case rel => exact ⟨_, (((bt a0 (ji45)) == 46)), (by first | rfl | (simp; done) | (simp only [← hji45] <;> (first | rfl | simp)) | (simp [*]; done)), H', ⟨by have := HK1.out; have := HJ5.out; have := HJ30.out; have := HJ39.out; first | omega | exact Nat.le_refl _⟩, ⟨by (with_reducible repeat (first | apply Kd.R_alloc | apply Kd.R_drewN | apply Kd.R_drew)); exact HO_5.out⟩, ⟨by repeat (first | (with_reducible first | exact HB.out | apply below_alloc | apply pw_below_drewN | apply below_drew1) | exact HB.out)⟩⟩
                                        · rw [if_neg c46] at H
                                          exact absurd H (by simp)
                                      · rw [if_neg c44] at H
                                        have c44b0 : decide ((wrap64 (x6_1 + 1)) < (a0.size : Int)) = false := decide_eq_false c44
                                        clear c44
                                        have H' := Aside0.mk H
                                        clear H
                                        go_wp2
                                        go_meet
                                        case rel => exact ⟨_, (false), (by first | rfl | (simp; done) | (simp [*]; done)), H', ⟨by have := HK1.out; have := HJ5.out; have := HJ30.out; have := HJ39.out; first | omega | exact Nat.le_refl _⟩, ⟨by (with_reducible repeat (first | apply Kd.R_alloc | apply Kd.R_drewN | apply Kd.R_drew)); exact HO_5.out⟩, ⟨by repeat (first | (with_reducible first | exact HB.out | apply below_alloc | apply pw_below_drewN | apply below_drew1) | exact HB.out)⟩⟩
                                    · rw [if_neg c43] at H
                                      have c43b0 : ((bt a0 x6_1) == 46) = false := beq_eq_false_iff_ne.mpr c43
                                      have c43b1 : ((bt a0 x6_1) != 46) = true := bne_iff_ne.mpr c43
                                      (first | rw [c43b0] | (simp only [i64_w, i32_w]; rw [c43b0]) | skip)
                                      have H' := Aside0.mk H
                                      clear H
                                      go_wp2
                                      go_meet
                                      case rel => exact ⟨_, (false), (by first | rfl | (simp; done) | (simp [*]; done)), H', ⟨by have := HK1.out; have := HJ5.out; have := HJ30.out; have := HJ39.out; first | omega | exact Nat.le_refl _⟩, ⟨by (with_reducible repeat (first | apply Kd.R_alloc | apply Kd.R_drewN | apply Kd.R_drew)); exact HO_5.out⟩, ⟨by repeat (first | (with_reducible first | exact HB.out | apply below_alloc | apply pw_below_drewN | apply below_drew1) | exact HB.out)⟩⟩
                                  case rest => as_aux_lemma =>
                                    clear HC42
                                    try clear c1
                                    try clear p1
                                    try clear q1
                                    try clear hx1
                                    try clear c2
                                    try clear c2b0
                                    try clear c2b1
                                    try clear p2
                                    try clear c3
                                    try clear c3b0
                                    try clear c4
                                    try clear c4b0
                                    try clear p4
                                    try clear q4
                                    try clear hx4
                                    try clear p5
                                    try clear q5
                                    try clear hx5
                                    try clear p6
                                    try clear c7
                                    try clear c7b0
                                    try clear c7b1
                                    try clear c8
                                    try clear c8b0
                                    try clear c8b1
                                    try clear c9
                                    try clear c9b0
                                    try clear c9b1
                                    try clear c10
                                    try clear c11
                                    try clear c11b0
                                    try clear c11b1
                                    try clear c12
                                    try clear c12b0
                                    try clear c13
                                    try clear c13b0
                                    try clear p14
                                    try clear q14
                                    try clear hx14
                                    try clear c15
                                    try clear c15b0
                                    try clear c15b1
                                    try clear c16
                                    try clear c17
                                    try clear c17b0
                                    try clear c18
                                    try clear c18b0
                                    try clear c18b1
                                    try clear c19
                                    try clear c19b0
                                    try clear c19b1
                                    try clear c20
                                    try clear c20b0
                                    try clear c20b1
                                    try clear c21
                                    try clear c24
                                    try clear c24b0
                                    try clear c24b1
                                    try clear c25
                                    try clear c25b0
                                    try clear c26
                                    try clear c26b0
                                    try clear c26b1
                                    try clear c27
                                    try clear c27b0
                                    try clear c27b1
                                    try clear c28
                                    try clear c28b0
                                    try clear c28b1
                                    try clear c29
                                    try clear c32
                                    try clear c32b0
                                    try clear c32b1
                                    try clear c33
                                    try clear c33b0
                                    try clear c33b1
                                    try clear c34
                                    try clear c34b0
                                    try clear c34b1
                                    try clear c35
                                    try clear c35b0
                                    try clear c35b1
                                    try clear c36
                                    try clear c36b0
                                    try clear c36b1
                                    try clear c37
                                    try clear c37b0
                                    try clear c37b1
                                    try clear c38
                                    try clear c38b0
                                    try clear c38b1
                                    try clear c39
                                    try clear c39b0
                                    try clear c39b1
                                    try clear c41
                                    try clear c43
                                    try clear c43b0
                                    try clear c43b1
                                    try clear c44
                                    try clear c44b0
                                    try clear c46
                                    try clear c46b0
                                    try clear p47
                                    try clear q47
                                    try clear hx47
                                    try clear p1
                                    try clear p14
                                    try clear p2
                                    try clear p47
                                    try clear p5
                                    try clear p6
                                    try clear q1
                                    try clear q14
                                    try clear q47
                                    try clear q5
                                    obtain ⟨kq, x147_41, rfl, HA, HJ41, HO_5, HB⟩ := hcut
                                    cases kq with
                                    | zero => exact absurd HA.out (by simp [jigsawref05_Lex.j5])
                                    | succ kj41 =>
                                      have H := HA.out
                                      clear HA
                                      simp only [jigsawref05_Lex.j5] at H
                                      by_cases c48 : x147_41 = true
                                      · subst c48
                                        have H1 : (if 0 ≤ x6_1 then (if x6_1 ≤ (wrap64 (x6_1 + 2)) then (if (wrap64 (x6_1 + 2)) ≤ (a0.size : Int) then (if x5_1.length < 3518437208883 then (jigsawref05_Lex.l0 kj41 a0 (x5_1 ++ [(⟨3, a0.extract (x6_1 : Int).toNat ((wrap64 (x6_1 + 2)) : Int).toNat, 0, x6_1⟩ : S43)]) (wrap64 (x6_1 + 2))) else (none)) else (none)) else (none)) else (none)) = some (r1, r2, r3) := by rw [if_pos rfl] at H; exact H
                                        clear H
                                        have H := H1
                                        clear H1
                                        by_cases c49 : 0 ≤ x6_1
                                        · rw [if_pos c49] at H
                                          have c49b0 := eq_true c49
                                          have c49b1 : decide (0 ≤ x6_1) = true := decide_eq_true c49
                                          clear c49
                                          by_cases c50 : x6_1 ≤ (wrap64 (x6_1 + 2))
                                          · rw [if_pos c50] at H
                                            have c50b0 := eq_true c50
                                            have c50b1 : decide (x6_1 ≤ (wrap64 (x6_1 + 2))) = true := decide_eq_true c50
                                            by_cases c51 : (wrap64 (x6_1 + 2)) ≤ (a0.size : Int)
                                            · rw [if_pos c51] at H
                                              have c51b0 := eq_true c51
                                              have c51b1 : decide ((wrap64 (x6_1 + 2)) ≤ (a0.size : Int)) = true := decide_eq_true c51
                                              by_cases c52 : x5_1.length < 3518437208883
                                              · rw [if_pos c52] at H
                                                have LMc52 := Aside0.mk c52
                                                clear c52
                                                obtain ⟨y146, hy146⟩ : ∃ y_ : List (S43), y_ = (x5_1 ++ [(⟨3, a0.extract (x6_1 : Int).toNat ((wrap64 (x6_1 + 2)) : Int).toNat, 0, x6_1⟩ : S43)]) := ⟨_, rfl⟩
                                                replace H : (jigsawref05_Lex.l0 kj41 a0 y146 (wrap64 (x6_1 + 2))) = some (r1, r2, r3) := by first | (rw [hy146]; with_reducible exact H) | (have H2_ := (Option.bind_some _ _).symm.trans H; rw [hy146]; with_reducible exact H2_) | (have H2_ := (Option.bind_some _ _).symm.trans H; with_reducible exact H2_) | with_reducible exact H | (rw [hy146]; exact H) | exact H
                                                have Ny146 := Aside0.mk hy146
                                                clear hy146
                                                have H' := Aside0.mk H
                                                clear H
                                                go_wp2_with (first | ((with_reducible refine gate_builtin (b := .append) (xs := #[.tmp 151, .tmp 160]) rfl ?_); (try (refine gate_guard (by rfl) ?_; dsimp only)); at_builtin; refine Kd.R_append k43 (w0 := w) w.heap.size rfl (.tmp 151) (.tmp 160) 26 43 (.agg #[(.int .i64 0), (.string ⟨#[]⟩), (.int .i64 0), (.int .i64 0)]) 40 rfl Tryd.underlying26 info43 rfl (by decide) (by omega) u5 x5_1 (⟨3, a0.extract (x6_1 : Int).toNat ((wrap64 (x6_1 + 2)) : Int).toNat, 0, x6_1⟩ : S43) [.int .i64 3, .string (a0.extract (x6_1 : Int).toNat ((wrap64 (x6_1 + 2)) : Int).toNat), .int .i64 0, .int .i64 x6_1] (fun _ => True) (fun _ => False) rfl rfl ?aP (fun _ hk => hk.elim) ?aF ?aO ?aB ?aS ?aL ?_; (case aP => exact k43_mkM _ _ _ (⟨3, a0.extract (x6_1 : Int).toNat ((wrap64 (x6_1 + 2)) : Int).toNat, 0, x6_1⟩ : S43)); (case aB => exact (by repeat (first | (with_reducible first | exact HB.out | apply below_alloc | apply pw_below_drewN | apply below_drew1) | exact HB.out))); (case aF => exact (fun _ _ => trivial)); (case aO => exact (by (with_reducible repeat (first | apply Kd.R_alloc | apply Kd.R_drewN | apply Kd.R_drew)); exact HO_5.out)); (case aS => exact (below_size (by repeat (first | (with_reducible first | exact HB.out | apply below_alloc | apply pw_below_drewN | apply below_drew1) | exact HB.out)))); (case aL => have := LMc52.out; omega); intro v147 w53 ho hb hg hat; rw [← Ny146.out] at ho; have n0_ := Aside0.mk (hb); have n1_ := Aside0.mk (ho); clear HB; clear HO_5; have HB := n0_; have HO148 := n1_; clear n0_ n1_; clear ho hb hg hat))
                                                go_roundg kj41
                                                case measure => have := HK1.out; have := HJ5.out; have := HJ30.out; have := HJ39.out; have := HJ41.out; omega
                                                case rel => exact ⟨(y146), (wrap64 (x6_1 + 2)), (by first | rfl | (simp; done) | (simp [*]; done)), H', ⟨by have := HK1.out; have := HJ5.out; have := HJ30.out; have := HJ39.out; have := HJ41.out; omega⟩, ⟨by (with_reducible repeat (first | apply Kd.R_alloc | apply Kd.R_drewN | apply Kd.R_drew)); exact HO148.out⟩, ⟨by repeat (first | (with_reducible first | exact HB.out | apply below_alloc | apply pw_below_drewN | apply below_drew1) | exact HB.out)⟩⟩
                                              · rw [if_neg c52] at H
                                                exact absurd H (by simp)
                                            · rw [if_neg c51] at H
                                              exact absurd H (by simp)
                                          · rw [if_neg c50] at H
                                            exact absurd H (by simp)
                                        · rw [if_neg c49] at H
                                          exact absurd H (by simp)
                                      · replace c48 := Bool.eq_false_iff.mpr c48
                                        subst c48
                                        have H1 : (if x8_39 = 0 then (some (([] : List (S43)), x6_1, 6)) else (if 0 ≤ x6_1 then (if x6_1 ≤ (wrap64 (x6_1 + x8_39)) then (if (wrap64 (x6_1 + x8_39)) ≤ (a0.size : Int) then (if x5_1.length < 3518437208883 then (jigsawref05_Lex.l0 kj41 a0 (x5_1 ++ [(⟨3, a0.extract (x6_1 : Int).toNat ((wrap64 (x6_1 + x8_39)) : Int).toNat, 0, x6_1⟩ : S43)]) (wrap64 (x6_1 + x8_39))) else (none)) else (none)) else (none)) else (none))) = some (r1, r2, r3) := by rw [if_neg (show ¬ (false = true) by decide)] at H; exact H
                                        clear H
                                        have H := H1
                                        clear H1
                                        by_cases c54 : x8_39 = 0
                                        · rw [if_pos c54] at H
                                          have c54b0 : (x8_39 == 0) = true := beq_iff_eq.mpr c54
                                          have c54b1 : (x8_39 != 0) = false := bne_eq_false_iff_eq.mpr c54
                                          clear c54
                                          simp only [Option.some.injEq, Prod.mk.injEq] at H
                                          obtain ⟨rfl, rfl, rfl⟩ := H
                                          go_wp2
                                          go_ret3
                                          exact ⟨_, by first | rfl | (simp [errW_none, errW_some] <;> rfl) | (simp [*, errW_none, errW_some] <;> rfl), by first | exact Kd.R_nil _ _ _ _ _ | exact Kd.N_nil _ _ _ _ _ | exact Kd.V_nil _ _ _ _ _ | exact Kd.Q_nil _ _ _ _ _ | exact Kd.S_nil _ _ _ _ _, by repeat (first | (with_reducible first | exact HB.out | apply below_alloc | apply pw_below_drewN | apply below_drew1) | exact HB.out)⟩
                                        · rw [if_neg c54] at H
                                          have c54b0 : (x8_39 == 0) = false := beq_eq_false_iff_ne.mpr c54
                                          have c54b1 : (x8_39 != 0) = true := bne_iff_ne.mpr c54
                                          by_cases c55 : 0 ≤ x6_1
                                          · rw [if_pos c55] at H
                                            have c55b0 := eq_true c55
                                            have c55b1 : decide (0 ≤ x6_1) = true := decide_eq_true c55
                                            clear c55
                                            by_cases c56 : x6_1 ≤ (wrap64 (x6_1 + x8_39))
                                            · rw [if_pos c56] at H
                                              have c56b0 := eq_true c56
                                              have c56b1 : decide (x6_1 ≤ (wrap64 (x6_1 + x8_39))) = true := decide_eq_true c56
                                              by_cases c57 : (wrap64 (x6_1 + x8_39)) ≤ (a0.size : Int)
                                              · rw [if_pos c57] at H
                                                have c57b0 := eq_true c57
                                                have c57b1 : decide ((wrap64 (x6_1 + x8_39)) ≤ (a0.size : Int)) = true := decide_eq_true c57
                                                by_cases c58 : x5_1.length < 3518437208883
                                                · rw [if_pos c58] at H
                                                  have LMc58 := Aside0.mk c58
                                                  clear c58
                                                  obtain ⟨y149, hy149⟩ : ∃ y_ : List (S43), y_ = (x5_1 ++ [(⟨3, a0.extract (x6_1 : Int).toNat ((wrap64 (x6_1 + x8_39)) : Int).toNat, 0, x6_1⟩ : S43)]) := ⟨_, rfl⟩
                                                  replace H : (jigsawref05_Lex.l0 kj41 a0 y149 (wrap64 (x6_1 + x8_39))) = some (r1, r2, r3) := by first | (rw [hy149]; with_reducible exact H) | (have H2_ := (Option.bind_some _ _).symm.trans H; rw [hy149]; with_reducible exact H2_) | (have H2_ := (Option.bind_some _ _).symm.trans H; with_reducible exact H2_) | with_reducible exact H | (rw [hy149]; exact H) | exact H
                                                  have Ny149 := Aside0.mk hy149
                                                  clear hy149
                                                  have H' := Aside0.mk H
                                                  clear H
                                                  go_wp2_with (first | ((with_reducible refine gate_builtin (b := .append) (xs := #[.tmp 151, .tmp 160]) rfl ?_); (try (refine gate_guard (by rfl) ?_; dsimp only)); at_builtin; refine Kd.R_append k43 (w0 := w) w.heap.size rfl (.tmp 151) (.tmp 160) 26 43 (.agg #[(.int .i64 0), (.string ⟨#[]⟩), (.int .i64 0), (.int .i64 0)]) 40 rfl Tryd.underlying26 info43 rfl (by decide) (by omega) u5 x5_1 (⟨3, a0.extract (x6_1 : Int).toNat ((wrap64 (x6_1 + x8_39)) : Int).toNat, 0, x6_1⟩ : S43) [.int .i64 3, .string (a0.extract (x6_1 : Int).toNat ((wrap64 (x6_1 + x8_39)) : Int).toNat), .int .i64 0, .int .i64 x6_1] (fun _ => True) (fun _ => False) rfl rfl ?aP (fun _ hk => hk.elim) ?aF ?aO ?aB ?aS ?aL ?_; (case aP => exact k43_mkM _ _ _ (⟨3, a0.extract (x6_1 : Int).toNat ((wrap64 (x6_1 + x8_39)) : Int).toNat, 0, x6_1⟩ : S43)); (case aB => exact (by repeat (first | (with_reducible first | exact HB.out | apply below_alloc | apply pw_below_drewN | apply below_drew1) | exact HB.out))); (case aF => exact (fun _ _ => trivial)); (case aO => exact (by (with_reducible repeat (first | apply Kd.R_alloc | apply Kd.R_drewN | apply Kd.R_drew)); exact HO_5.out)); (case aS => exact (below_size (by repeat (first | (with_reducible first | exact HB.out | apply below_alloc | apply pw_below_drewN | apply below_drew1) | exact HB.out)))); (case aL => have := LMc58.out; omega); intro v150 w59 ho hb hg hat; rw [← Ny149.out] at ho; have n0_ := Aside0.mk (hb); have n1_ := Aside0.mk (ho); clear HB; clear HO_5; have HB := n0_; have HO151 := n1_; clear n0_ n1_; clear ho hb hg hat))
                                                  go_roundg kj41
                                                  case measure => have := HK1.out; have := HJ5.out; have := HJ30.out; have := HJ39.out; have := HJ41.out; omega
                                                  case rel => exact ⟨(y149), (wrap64 (x6_1 + x8_39)), (by first | rfl | (simp; done) | (simp [*]; done)), H', ⟨by have := HK1.out; have := HJ5.out; have := HJ30.out; have := HJ39.out; have := HJ41.out; omega⟩, ⟨by (with_reducible repeat (first | apply Kd.R_alloc | apply Kd.R_drewN | apply Kd.R_drew)); exact HO151.out⟩, ⟨by repeat (first | (with_reducible first | exact HB.out | apply below_alloc | apply pw_below_drewN | apply below_drew1) | exact HB.out)⟩⟩
                                                · rw [if_neg c58] at H
                                                  exact absurd H (by simp)
                                              · rw [if_neg c57] at H
                                                exact absurd H (by simp)
                                            · rw [if_neg c56] at H
                                              exact absurd H (by simp)
                                          · rw [if_neg c55] at H
                                            exact absurd H (by simp)
                      · rw [if_neg c24] at H
                        have c24b0 : (t142 == 0) = false := beq_eq_false_iff_ne.mpr c24
                        have c24b1 : (t142 != 0) = true := bne_iff_ne.mpr c24
                        simp only [Option.some.injEq, Prod.mk.injEq] at H
                        obtain ⟨rfl, rfl, rfl⟩ := H
                        go_wp2_with (first | ((with_reducible refine gate_callee (f := 15) rfl ?_); refine goesL_ (some 53) rfl rfl Tryd.func15 (by kernel_rfl) rfl #[.string a0, .int .i64 x6_1] rfl (by (try simp only [List.map_toArray, List.map_cons, List.map_nil]); first | done | rfl | (simp only [List.length_drop, List.length_take]; rfl)) ?_; (with_reducible refine (jigsawref05_word.calls kj5 a0 x6_1 t136 _ A16.out).mono ?_); rintro e w' ⟨rfl, ⟨nd, rfl⟩⟩; refine ⟨_, rfl, ?_⟩) | ((with_reducible refine gate_callee (f := 16) rfl ?_); refine goesL_ (some 73) rfl rfl Tryd.func16 (by kernel_rfl) rfl #[.string a0, .int .i64 x6_1] rfl (by (try simp only [List.map_toArray, List.map_cons, List.map_nil]); first | done | rfl | (simp only [List.length_drop, List.length_take]; rfl)) ?_; (with_reducible refine (jigsawref05_number.calls kj5 a0 x6_1 t140 t141 t142 _ A23.out).mono ?_); rintro e w' ⟨rfl, ⟨nd, rfl⟩⟩; refine ⟨_, rfl, ?_⟩))
                        go_ret3
                        exact ⟨_, by first | rfl | (simp [errW_none, errW_some] <;> rfl) | (simp [*, errW_none, errW_some] <;> rfl), by first | exact Kd.R_nil _ _ _ _ _ | exact Kd.N_nil _ _ _ _ _ | exact Kd.V_nil _ _ _ _ _ | exact Kd.Q_nil _ _ _ _ _ | exact Kd.S_nil _ _ _ _ _, by repeat (first | (with_reducible first | exact HB.out | apply below_alloc | apply pw_below_drewN | apply below_drew1) | exact HB.out)⟩
          · rw [if_neg c4] at H
            exact absurd H (by simp)
        · rw [if_neg c3] at H
          have c3b0 : decide (x6_1 < (a0.size : Int)) = false := decide_eq_false c3
          clear c3
          simp only [Option.some.injEq, Prod.mk.injEq] at H
          obtain ⟨rfl, rfl, rfl⟩ := H
          go_wp2
          go_ret3
          exact ⟨_, by first | rfl | (simp [errW_none, errW_some] <;> rfl) | (simp [*, errW_none, errW_some] <;> rfl), by (with_reducible repeat (first | apply Kd.R_alloc | apply Kd.R_drewN | apply Kd.R_drew)); exact HO_5.out, by repeat (first | (with_reducible first | exact HB.out | apply below_alloc | apply pw_below_drewN | apply below_drew1) | exact HB.out)⟩

end Go.Proofs.YtkcjlagaaekhjaaDoor.X
