/- Written by a program of this session (wip/xprint.py) out of the translation: Go functions as Lean functions, and that the Go code comes to their answers; no condition but each theorem's own hypotheses. -/
import Derived.Test.YtkcjlagaaekhjaaDoorXdx0
import Derived.Test.YtkcjlagaaekhjaaDoorXdx1
namespace Go.Proofs.YtkcjlagaaekhjaaDoor.X
open Go.RowKit Go.Proofs.YtkcjlagaaekhjaaDoorW.PrintWords Go.Proofs.YtkcjlagaaekhjaaDoorW.PrintLast Go.Proofs.YtkcjlagaaekhjaaDoorW.PrintMore
attribute [local go_sem] max2_int min2_int max_two min_two max_three min_three max_four min_four   -- for this text's walks alone
set_option linter.unusedVariables false
set_option linter.unusedSimpArgs false
open Go.Proofs.YtkcjlagaaekhjaaDoor in attribute [local go_sem] Ext.cell_over

/-! ### jigsawlaw05_LexPlaces: function 6 -/
def jigsawlaw05_LexPlaces.l0 : Nat → ByteArray → Int → Int → List (S34) → Int → Int → Option (Bool)
  | 0, _, _, _, _, _, _ => none
  | k + 1, x0, x4, x6, x33, x34, x35 => if x35 < x34 then (if 0 ≤ x35 then (if x35 < (x33.length : Int) then (if ((rd_T34 x33 x35).f3) < x6 then (some false) else (if ((rd_T34 x33 x35).f1).toList = ([] : List UInt8) then (some false) else (if (wrap64 (((rd_T34 x33 x35).f3) + (((rd_T34 x33 x35).f1).size : Int))) > (x0.size : Int) then (some false) else (if 0 ≤ ((rd_T34 x33 x35).f3) then (if ((rd_T34 x33 x35).f3) ≤ (wrap64 (((rd_T34 x33 x35).f3) + (((rd_T34 x33 x35).f1).size : Int))) then (if (wrap64 (((rd_T34 x33 x35).f3) + (((rd_T34 x33 x35).f1).size : Int))) ≤ (x0.size : Int) then (if (x0.extract (((rd_T34 x33 x35).f3) : Int).toNat ((wrap64 (((rd_T34 x33 x35).f3) + (((rd_T34 x33 x35).f1).size : Int))) : Int).toNat).toList = ((rd_T34 x33 x35).f1).toList then (if 0 ≤ x6 then (if x6 ≤ ((rd_T34 x33 x35).f3) then (if ((rd_T34 x33 x35).f3) ≤ (x0.size : Int) then ((jigsawlaw05_empty.f k (x0.extract (x6 : Int).toNat (((rd_T34 x33 x35).f3) : Int).toNat)).bind fun t169 => (if t169 = true then (jigsawlaw05_LexPlaces.l0 k x0 x4 (wrap64 (((rd_T34 x33 x35).f3) + (((rd_T34 x33 x35).f1).size : Int))) x33 x34 (wrap64 (x35 + 1))) else (some false))) else (none)) else (none)) else (none)) else (some false)) else (none)) else (none)) else (none))))) else (none)) else (none)) else ((jigsawlaw05_wakes.f k).bind fun t170 => (if t170 = true then (if 0 ≤ x6 then (if x6 ≤ (x0.size : Int) then ((jigsawlaw05_empty.f k (x0.extract (x6 : Int).toNat x0.size)).bind fun t171 => (if t171 = true then (some (x4 == 0)) else (some false))) else (none)) else (none)) else (some false)))
def jigsawlaw05_LexPlaces.f (k : Nat) (a0 : ByteArray) : Option (Bool) := if 0 ≤ (mn (a0.size : Int) 500) then (if (mn (a0.size : Int) 500) ≤ (a0.size : Int) then ((lex_Lex.f k (a0.extract 0 ((mn (a0.size : Int) 500) : Int).toNat)).bind fun bt161 => (if bt161.2.2 = 0 then (jigsawlaw05_LexPlaces.l0 k (a0.extract 0 ((mn (a0.size : Int) 500) : Int).toNat) bt161.2.1 0 bt161.1 (bt161.1.length : Int) 0) else ((jigsawlaw05_wakes.f k).bind fun t166 => (if t166 = true then (if bt161.2.1 ≥ 0 then (some (decide (bt161.2.1 < ((a0.extract 0 ((mn (a0.size : Int) 500) : Int).toNat).size : Int)))) else (some false)) else (some false))))) else (none)) else (none)
theorem jigsawlaw05_LexPlaces.mono_l : ∀ k, (∀ y0 y1 y2 y3 y4 y5, LeO (jigsawlaw05_LexPlaces.l0 k y0 y1 y2 y3 y4 y5) (jigsawlaw05_LexPlaces.l0 (k + 1) y0 y1 y2 y3 y4 y5))
  | 0 => fun _ _ _ _ _ _ r h => by simp [jigsawlaw05_LexPlaces.l0] at h
  | k + 1 => by
    have ih0 := jigsawlaw05_LexPlaces.mono_l k
    · intro y0 y1 y2 y3 y4 y5
      unfold jigsawlaw05_LexPlaces.l0
      repeat' first
      | (with_reducible exact ih0 _ _ _ _ _ _)
      | (with_reducible exact jigsawlaw05_empty.mono _ _)
      | (with_reducible exact jigsawlaw05_wakes.mono _)
      | (with_reducible exact lex_Lex.mono _ _)
      | (with_reducible exact LeO.refl _)
      | (with_reducible exact LeO.none _)
      | (with_reducible refine LeO.ite ?_ ?_)
      | (with_reducible refine LeO.bind ?_ (fun _ => ?_))
      | exact ih0 _ _ _ _ _ _
      | exact jigsawlaw05_empty.mono _ _
      | exact jigsawlaw05_wakes.mono _
      | exact lex_Lex.mono _ _
      | exact LeO.none _
      | refine LeO.ite ?_ ?_
      | refine LeO.bind ?_ (fun _ => ?_)
theorem jigsawlaw05_LexPlaces.mono : ∀ a0 k, LeO (jigsawlaw05_LexPlaces.f k a0) (jigsawlaw05_LexPlaces.f (k + 1) a0) := by
  intro a0 k
  have ih0 := jigsawlaw05_LexPlaces.mono_l k
  unfold jigsawlaw05_LexPlaces.f
  repeat' first
      | (with_reducible exact ih0 _ _ _ _ _ _)
      | (with_reducible exact jigsawlaw05_empty.mono _ _)
      | (with_reducible exact jigsawlaw05_wakes.mono _)
      | (with_reducible exact lex_Lex.mono _ _)
      | (with_reducible exact LeO.refl _)
      | (with_reducible exact LeO.none _)
      | (with_reducible refine LeO.ite ?_ ?_)
      | (with_reducible refine LeO.bind ?_ (fun _ => ?_))
      | exact ih0 _ _ _ _ _ _
      | exact jigsawlaw05_empty.mono _ _
      | exact jigsawlaw05_wakes.mono _
      | exact lex_Lex.mono _ _
      | exact LeO.none _
      | refine LeO.ite ?_ ?_
      | refine LeO.bind ?_ (fun _ => ?_)
def jigsawlaw05_LexPlaces.T9 : Bool × List (List Nat × List Nat) := (true, [([], []), ([0], [0]), ([], []), ([1, 2], [1, 2]), ([3], [3]), ([4], [4]), ([5, 4], [4, 5]), ([6, 4], [4, 6]), ([4, 7], [4, 7]), ([8, 4], [8]), ([9], [9]), ([10, 9], [9, 10]), ([9], [9]), ([12, 9], [9, 12]), ([13, 9], [9, 13]), ([11, 14, 9], [9, 11, 14]), ([9], [9]), ([16, 9], [9, 16]), ([15, 17, 9], [9, 15, 17]), ([9, 18], [9, 18]), ([19, 9], [19]), ([20], [20]), ([20], [20]), ([22, 20], [20, 22]), ([20], [20]), ([24, 20], [20, 24]), ([20], [20]), ([26, 20], [20, 26]), ([27, 20], [20, 27]), ([25, 28, 20], [20, 25, 28]), ([21, 23, 29, 20], [20, 21, 23, 29]), ([20], [20]), ([31, 20], [20, 31]), ([30, 32, 20], [20, 30, 32]), ([20, 33], [20, 33]), ([34, 20], [34]), ([35], [35]), ([35], [35]), ([35], [35]), ([38, 35], [35, 38]), ([36, 37, 39, 35], [35, 36, 37, 39]), ([40, 35, 35], [35, 40]), ([41, 35], [35, 41]), ([35, 42], [35, 42])])
def jigsawlaw05_LexPlaces.B9 : List Nat := [0, 1, 0, 7, 15, 31, 63, 127, 255, 511, 1023, 2047, 1023, 5119, 13311, 32767, 1023, 66559, 262143, 524287, 1048575, 2097151, 2097151, 6291455, 2097151, 18874367, 2097151, 69206015, 203423743, 522190847, 1073741823, 2097151, 2149580799, 8589934591, 17179869183, 34359738367, 68719476735, 68719476735, 68719476735, 343597383679, 1099511627775, 2199023255551, 4398046511103, 8796093022207]
theorem jigsawlaw05_LexPlaces.tab9 : rtab .any (opsOf Tryd.f6 9) = jigsawlaw05_LexPlaces.T9 := by kernel_rfl
theorem jigsawlaw05_LexPlaces.bits9 : waitsOk jigsawlaw05_LexPlaces.T9.2 jigsawlaw05_LexPlaces.B9 = true := by kernel_rfl
set_option maxHeartbeats 8000000 in
set_option maxRecDepth 100000 in
theorem jigsawlaw05_LexPlaces.calls (k : Nat) (a0 : ByteArray) (r : Bool) (w : World) (hG : Glob w) (hT : Aside0 (r = true)) (h : jigsawlaw05_LexPlaces.f k a0 = some r) :
    Calls Tryd.prog 6 #[.string a0] w fun e w' => e = .returned (.bool r) ∧ Below w.heap.size w w' := by
  have hu34 := Tryd.underlying34
  have HB := Aside0.mk (Below.refl w.heap.size w)
  have H : (if 0 ≤ (mn (a0.size : Int) 500) then (if (mn (a0.size : Int) 500) ≤ (a0.size : Int) then ((lex_Lex.f k (a0.extract 0 ((mn (a0.size : Int) 500) : Int).toNat)).bind fun bt161 => (if bt161.2.2 = 0 then (jigsawlaw05_LexPlaces.l0 k (a0.extract 0 ((mn (a0.size : Int) 500) : Int).toNat) bt161.2.1 0 bt161.1 (bt161.1.length : Int) 0) else ((jigsawlaw05_wakes.f k).bind fun t166 => (if t166 = true then (if bt161.2.1 ≥ 0 then (some (decide (bt161.2.1 < ((a0.extract 0 ((mn (a0.size : Int) 500) : Int).toNat).size : Int)))) else (some false)) else (some false))))) else (none)) else (none)) = some r := h
  clear h
  obtain ⟨ji2, hji2⟩ : ∃ j_ : Int, (mn (a0.size : Int) 500) = j_ := ⟨_, rfl⟩
  replace H : (if 0 ≤ (ji2) then (if (ji2) ≤ (a0.size : Int) then ((lex_Lex.f k (a0.extract 0 ((ji2) : Int).toNat)).bind fun bt161 => (if bt161.2.2 = 0 then (jigsawlaw05_LexPlaces.l0 k (a0.extract 0 ((ji2) : Int).toNat) bt161.2.1 0 bt161.1 (bt161.1.length : Int) 0) else ((jigsawlaw05_wakes.f k).bind fun t166 => (if t166 = true then (if bt161.2.1 ≥ 0 then (some (decide (bt161.2.1 < ((a0.extract 0 ((ji2) : Int).toNat).size : Int)))) else (some false)) else (some false))))) else (none)) else (none)) = some r := by first | (rw [hji2] at H; exact H) | (simp only [hji2] at H ⊢; exact H)
  (try (have hji2h : ji2 ≤ 500 := by (rw [← hji2]; unfold mn; (repeat' split) <;> omega)))
  (try (have hji2g : ji2 ≤ 64 := by omega))
  (try (have hji2l : 0 ≤ ji2 := by (rw [← hji2]; unfold mn; (repeat' split) <;> omega)))
  (try (have hji2m : 0 ≤ ji2 := by omega))
  (try (have hji2x : max ji2 0 = ji2 := Int.max_eq_left (by omega)))
  (try (have hji2y : (ji2 ≤ (a0.size : Int)) = True := eq_true (by (rw [← hji2]; unfold mn; (repeat' split) <;> omega))))
  have hji2_ : (if 500 < (a0.size : Int) then 500 else (a0.size : Int)) = ji2 := hji2
  by_cases c3 : 0 ≤ (ji2)
  · rw [if_pos c3] at H
    have c3b0 := eq_true c3
    have c3b1 : decide (0 ≤ (ji2)) = true := decide_eq_true c3
    clear c3
    by_cases c4 : (ji2) ≤ (a0.size : Int)
    · rw [if_pos c4] at H
      have c4b0 := eq_true c4
      have c4b1 : decide ((ji2) ≤ (a0.size : Int)) = true := decide_eq_true c4
      clear c4
      replace H := Option.bind_eq_some_iff.mp H
      obtain ⟨⟨t161, t162, t163⟩, A50, H⟩ := H
      replace H : (if t163 = 0 then (jigsawlaw05_LexPlaces.l0 k (a0.extract 0 ((ji2) : Int).toNat) t162 0 t161 (t161.length : Int) 0) else ((jigsawlaw05_wakes.f k).bind fun t166 => (if t166 = true then (if t162 ≥ 0 then (some (decide (t162 < ((a0.extract 0 ((ji2) : Int).toNat).size : Int)))) else (some false)) else (some false)))) = some r := H
      have A5 := Aside0.mk A50
      clear A50
      by_cases c6 : t163 = 0
      · rw [if_pos c6] at H
        have c6b0 : (t163 == 0) = true := beq_iff_eq.mpr c6
        have c6b1 : (t163 != 0) = false := bne_eq_false_iff_eq.mpr c6
        clear c6
        have H' := Aside0.mk H
        clear H
        go_enter Tryd.func6, Tryd.ntmps6
        go_wp2_with (first | ((with_reducible refine gate_callee (f := 7) rfl ?_); refine goesL_ (some 16) rfl rfl Tryd.func7 (by kernel_rfl) rfl #[.string (a0.extract 0 ((ji2) : Int).toNat)] rfl (by (try simp only [List.map_toArray, List.map_cons, List.map_nil]); first | done | (simp only [hji2]; rfl) | rfl | (simp only [List.length_drop, List.length_take]; rfl)) ?_; (with_reducible refine (lex_Lex.calls k (a0.extract 0 ((ji2) : Int).toNat) t161 t162 t163 _ A5.out).mono ?_); rintro e w7 ⟨v164, rfl, ho0, hb⟩; refine ⟨_, rfl, ?_⟩; have n0_ := Aside0.mk (Kd.R_lower ho0 (below_size (by repeat (first | (with_reducible first | exact HB.out | apply below_alloc | apply pw_below_drewN | apply below_drew1) | exact HB.out)))); have n1_ := Aside0.mk (below_step (by repeat (first | (with_reducible first | exact HB.out | apply below_alloc | apply pw_below_drewN | apply below_drew1) | exact HB.out)) hb); clear HB; have HO165 := n0_; have HB := n1_; clear n0_ n1_; (try clear hb); (try clear hb2); (try clear hk); (try clear hi); (try clear ho0); obtain ⟨Ao8, co8, eo8⟩ := Kd.R_slice HO165.out; subst eo8))
        go_loopg [6, 35] k (fun kq v6 v35 w' => ∃ (x6_1 : Int) (x35_1 : Int), v6 = .int .i64 x6_1 ∧ v35 = .int .i64 x35_1 ∧ Aside0 (jigsawlaw05_LexPlaces.l0 kq (a0.extract 0 ((ji2) : Int).toNat) t162 x6_1 t161 (t161.length : Int) x35_1 = some r) ∧ Aside0 (kq ≤ k) ∧ Aside0 (Kd.R k34 34 w' w.heap.size (fun _ => True) (.slice Ao8 t161.length co8) t161) ∧ Aside0 (Below w.heap.size w w'))
        case atStart => exact ⟨(0), (0), (by first | rfl | (simp; done) | (simp [*]; done)), (by first | rfl | (simp; done) | (simp [*]; done)), H', ⟨Nat.le_refl _⟩, ⟨by (with_reducible repeat (first | apply Kd.R_alloc | apply Kd.R_drewN | apply Kd.R_drew)); exact HO165.out⟩, ⟨by repeat (first | (with_reducible first | exact HB.out | apply below_alloc | apply pw_below_drewN | apply below_drew1) | exact HB.out)⟩⟩
        case round =>
          clear H'
          try clear p2
          try clear c3
          try clear c3b0
          try clear c3b1
          try clear c4
          try clear c4b0
          try clear c4b1
          try clear c6
          try clear c6b0
          try clear c6b1
          try clear c7
          obtain ⟨x6_1, x35_1, rfl, rfl, HA, HK1, HO_33, HB⟩ := hrel
          cases gk with
          | zero => exact absurd HA.out (by simp [jigsawlaw05_LexPlaces.l0])
          | succ k1 =>
            have H := HA.out
            clear HA
            simp only [jigsawlaw05_LexPlaces.l0] at H
            by_cases c9 : x35_1 < (t161.length : Int)
            · rw [if_pos c9] at H
              have c9b0 : decide (x35_1 < (t161.length : Int)) = true := decide_eq_true c9
              clear c9
              by_cases c10 : 0 ≤ x35_1
              · rw [if_pos c10] at H
                have c10b0 : decide (0 ≤ x35_1) = true := decide_eq_true c10
                clear c10
                by_cases c11 : x35_1 < (t161.length : Int)
                · rw [if_pos c11] at H
                  have c11b0 : decide (x35_1 < (t161.length : Int)) = true := decide_eq_true c11
                  clear c11
                  by_cases c12 : ((rd_T34 t161 x35_1).f3) < x6_1
                  · rw [if_pos c12] at H
                    have c12b0 : decide (((rd_T34 t161 x35_1).f3) < x6_1) = true := decide_eq_true c12
                    clear c12
                    exact absurd (Option.some.inj H) (by rw [hT.out]; decide)
                  · rw [if_neg c12] at H
                    have c12b0 : decide (((rd_T34 t161 x35_1).f3) < x6_1) = false := decide_eq_false c12
                    clear c12
                    by_cases c13 : ((rd_T34 t161 x35_1).f1).toList = ([] : List UInt8)
                    · rw [if_pos c13] at H
                      have c13b0 : (((rd_T34 t161 x35_1).f1).toList == ([] : List UInt8)) = true := beq_iff_eq.mpr c13
                      have c13b1 : (((rd_T34 t161 x35_1).f1).toList != ([] : List UInt8)) = false := bne_eq_false_iff_eq.mpr c13
                      clear c13
                      exact absurd (Option.some.inj H) (by rw [hT.out]; decide)
                    · rw [if_neg c13] at H
                      have c13b0 : (((rd_T34 t161 x35_1).f1).toList == ([] : List UInt8)) = false := beq_eq_false_iff_ne.mpr c13
                      have c13b1 : (((rd_T34 t161 x35_1).f1).toList != ([] : List UInt8)) = true := bne_iff_ne.mpr c13
                      by_cases c14 : (wrap64 (((rd_T34 t161 x35_1).f3) + (((rd_T34 t161 x35_1).f1).size : Int))) > ((a0.extract 0 ((ji2) : Int).toNat).size : Int)
                      · rw [if_pos c14] at H
                        try have c14z : (wrap64 (((rd_T34 t161 x35_1).f3) + (((rd_T34 t161 x35_1).f1).size : Int))) > (ji2) := by have h_ : (wrap64 (((rd_T34 t161 x35_1).f3) + (((rd_T34 t161 x35_1).f1).size : Int))) > ((a0.extract 0 ((ji2) : Int).toNat).size : Int) := c14; have h1_ : 0 ≤ (ji2) := (by first | omega | exact of_decide_eq_true (by assumption)); have h2_ : (ji2) ≤ (a0.size : Int) := (by first | omega | exact of_decide_eq_true (by assumption) | (have q_ := hji2_; split at q_ <;> omega)); have e_ : ((a0.extract 0 ((ji2) : Int).toNat).size : Int) = (ji2) := (by rw [ByteArray.size_extract]; omega); rw [e_] at h_; exact h_
                        try have c14d0 : decide ((ji2) < (wrap64 (((rd_T34 t161 x35_1).f3) + (((rd_T34 t161 x35_1).f1).size : Int)))) = true := decide_eq_true c14z
                        try clear c14z
                        have c14b0 : decide (((a0.extract 0 ((ji2) : Int).toNat).size : Int) < (wrap64 (((rd_T34 t161 x35_1).f3) + (((rd_T34 t161 x35_1).f1).size : Int)))) = true := decide_eq_true c14
                        clear c14
                        exact absurd (Option.some.inj H) (by rw [hT.out]; decide)
                      · rw [if_neg c14] at H
                        try have c14z : ¬ ((wrap64 (((rd_T34 t161 x35_1).f3) + (((rd_T34 t161 x35_1).f1).size : Int))) > (ji2)) := by have h_ : ¬ ((wrap64 (((rd_T34 t161 x35_1).f3) + (((rd_T34 t161 x35_1).f1).size : Int))) > ((a0.extract 0 ((ji2) : Int).toNat).size : Int)) := c14; have h1_ : 0 ≤ (ji2) := (by first | omega | exact of_decide_eq_true (by assumption)); have h2_ : (ji2) ≤ (a0.size : Int) := (by first | omega | exact of_decide_eq_true (by assumption) | (have q_ := hji2_; split at q_ <;> omega)); have e_ : ((a0.extract 0 ((ji2) : Int).toNat).size : Int) = (ji2) := (by rw [ByteArray.size_extract]; omega); rw [e_] at h_; exact h_
                        try have c14d0 : decide ((ji2) < (wrap64 (((rd_T34 t161 x35_1).f3) + (((rd_T34 t161 x35_1).f1).size : Int)))) = false := decide_eq_false c14z
                        try clear c14z
                        have c14b0 : decide (((a0.extract 0 ((ji2) : Int).toNat).size : Int) < (wrap64 (((rd_T34 t161 x35_1).f3) + (((rd_T34 t161 x35_1).f1).size : Int)))) = false := decide_eq_false c14
                        clear c14
                        by_cases c15 : 0 ≤ ((rd_T34 t161 x35_1).f3)
                        · rw [if_pos c15] at H
                          have c15b0 := eq_true c15
                          have c15b1 : decide (0 ≤ ((rd_T34 t161 x35_1).f3)) = true := decide_eq_true c15
                          clear c15
                          by_cases c16 : ((rd_T34 t161 x35_1).f3) ≤ (wrap64 (((rd_T34 t161 x35_1).f3) + (((rd_T34 t161 x35_1).f1).size : Int)))
                          · rw [if_pos c16] at H
                            have c16b0 := eq_true c16
                            have c16b1 : decide (((rd_T34 t161 x35_1).f3) ≤ (wrap64 (((rd_T34 t161 x35_1).f3) + (((rd_T34 t161 x35_1).f1).size : Int)))) = true := decide_eq_true c16
                            by_cases c17 : (wrap64 (((rd_T34 t161 x35_1).f3) + (((rd_T34 t161 x35_1).f1).size : Int))) ≤ ((a0.extract 0 ((ji2) : Int).toNat).size : Int)
                            · rw [if_pos c17] at H
                              try have c17z : (wrap64 (((rd_T34 t161 x35_1).f3) + (((rd_T34 t161 x35_1).f1).size : Int))) ≤ (ji2) := by have h_ : (wrap64 (((rd_T34 t161 x35_1).f3) + (((rd_T34 t161 x35_1).f1).size : Int))) ≤ ((a0.extract 0 ((ji2) : Int).toNat).size : Int) := c17; have h1_ : 0 ≤ (ji2) := (by first | omega | exact of_decide_eq_true (by assumption)); have h2_ : (ji2) ≤ (a0.size : Int) := (by first | omega | exact of_decide_eq_true (by assumption) | (have q_ := hji2_; split at q_ <;> omega)); have e_ : ((a0.extract 0 ((ji2) : Int).toNat).size : Int) = (ji2) := (by rw [ByteArray.size_extract]; omega); rw [e_] at h_; exact h_
                              try have c17d0 := eq_true c17z
                              try have c17d1 : decide ((wrap64 (((rd_T34 t161 x35_1).f3) + (((rd_T34 t161 x35_1).f1).size : Int))) ≤ (ji2)) = true := decide_eq_true c17z
                              try clear c17z
                              have c17b0 := eq_true c17
                              have c17b1 : decide ((wrap64 (((rd_T34 t161 x35_1).f3) + (((rd_T34 t161 x35_1).f1).size : Int))) ≤ ((a0.extract 0 ((ji2) : Int).toNat).size : Int)) = true := decide_eq_true c17
                              by_cases c18 : ((a0.extract 0 ((ji2) : Int).toNat).extract (((rd_T34 t161 x35_1).f3) : Int).toNat ((wrap64 (((rd_T34 t161 x35_1).f3) + (((rd_T34 t161 x35_1).f1).size : Int))) : Int).toNat).toList = ((rd_T34 t161 x35_1).f1).toList
                              · rw [if_pos c18] at H
                                have c18b0 : (((a0.extract 0 ((ji2) : Int).toNat).extract (((rd_T34 t161 x35_1).f3) : Int).toNat ((wrap64 (((rd_T34 t161 x35_1).f3) + (((rd_T34 t161 x35_1).f1).size : Int))) : Int).toNat).toList == ((rd_T34 t161 x35_1).f1).toList) = true := beq_iff_eq.mpr c18
                                have c18b1 : (((a0.extract 0 ((ji2) : Int).toNat).extract (((rd_T34 t161 x35_1).f3) : Int).toNat ((wrap64 (((rd_T34 t161 x35_1).f3) + (((rd_T34 t161 x35_1).f1).size : Int))) : Int).toNat).toList != ((rd_T34 t161 x35_1).f1).toList) = false := bne_eq_false_iff_eq.mpr c18
                                clear c18
                                by_cases c19 : 0 ≤ x6_1
                                · rw [if_pos c19] at H
                                  have c19b0 := eq_true c19
                                  have c19b1 : decide (0 ≤ x6_1) = true := decide_eq_true c19
                                  clear c19
                                  by_cases c20 : x6_1 ≤ ((rd_T34 t161 x35_1).f3)
                                  · rw [if_pos c20] at H
                                    have c20b0 := eq_true c20
                                    have c20b1 : decide (x6_1 ≤ ((rd_T34 t161 x35_1).f3)) = true := decide_eq_true c20
                                    clear c20
                                    by_cases c21 : ((rd_T34 t161 x35_1).f3) ≤ ((a0.extract 0 ((ji2) : Int).toNat).size : Int)
                                    · rw [if_pos c21] at H
                                      try have c21z : ((rd_T34 t161 x35_1).f3) ≤ (ji2) := by have h_ : ((rd_T34 t161 x35_1).f3) ≤ ((a0.extract 0 ((ji2) : Int).toNat).size : Int) := c21; have h1_ : 0 ≤ (ji2) := (by first | omega | exact of_decide_eq_true (by assumption)); have h2_ : (ji2) ≤ (a0.size : Int) := (by first | omega | exact of_decide_eq_true (by assumption) | (have q_ := hji2_; split at q_ <;> omega)); have e_ : ((a0.extract 0 ((ji2) : Int).toNat).size : Int) = (ji2) := (by rw [ByteArray.size_extract]; omega); rw [e_] at h_; exact h_
                                      try have c21d0 := eq_true c21z
                                      try have c21d1 : decide (((rd_T34 t161 x35_1).f3) ≤ (ji2)) = true := decide_eq_true c21z
                                      try clear c21z
                                      have c21b0 := eq_true c21
                                      have c21b1 : decide (((rd_T34 t161 x35_1).f3) ≤ ((a0.extract 0 ((ji2) : Int).toNat).size : Int)) = true := decide_eq_true c21
                                      clear c21
                                      replace H := Option.bind_eq_some_iff.mp H
                                      obtain ⟨t169, A220, H⟩ := H
                                      replace H : (if t169 = true then (jigsawlaw05_LexPlaces.l0 k1 (a0.extract 0 ((ji2) : Int).toNat) t162 (wrap64 (((rd_T34 t161 x35_1).f3) + (((rd_T34 t161 x35_1).f1).size : Int))) t161 (t161.length : Int) (wrap64 (x35_1 + 1))) else (some false)) = some r := H
                                      have A22 := Aside0.mk A220
                                      clear A220
                                      by_cases c23 : t169 = true
                                      · subst c23
                                        have H1 : (jigsawlaw05_LexPlaces.l0 k1 (a0.extract 0 ((ji2) : Int).toNat) t162 (wrap64 (((rd_T34 t161 x35_1).f3) + (((rd_T34 t161 x35_1).f1).size : Int))) t161 (t161.length : Int) (wrap64 (x35_1 + 1))) = some r := by rw [if_pos rfl] at H; exact H
                                        clear H
                                        have H := H1
                                        clear H1
                                        have H' := Aside0.mk H
                                        clear H
                                        have p167 : 0 ≤ (x35_1 : Int) := of_decide_eq_true (by first | (with_reducible assumption) | assumption)
                                        have q167 : x35_1 < (t161.length : Int) := of_decide_eq_true (by first | (with_reducible assumption) | assumption)
                                        obtain ⟨ad167, e167, hx167_0, hx167_1, hx167_2, hx167_3⟩ := at_T34 (Kd.R_reads' HO_33.out).2.2 x35_1 p167 q167
                                        cases e167
                                        replace p167 := eq_true p167
                                        replace q167 := eq_true q167
                                        try go_wp2_with (first | ((with_reducible refine gate_dst (N := 8) rfl ?_); (try (refine gate_guard (by rfl) ?_; dsimp only)); refine box_event ?hg (N := 8) ?hd (cs := #[.int .i64 0, .string (⟨#[]⟩ : ByteArray), .int .i64 0, .int .i64 0]) (t := 34) ?hr ?_; (case hd => rfl); (case hg => rfl); (case hr => first | (go_simp; done) | (go_simp; rfl)); intro gb168 hg w24 hbox hb; have n0_ := Aside0.mk (Kd.R_below (Kd.R_elderB (by (with_reducible repeat (first | apply Kd.R_alloc | apply Kd.R_drewN | apply Kd.R_drew)); exact HO_33.out) gb168 (Nat.le_of_eq hg.symm)) hb); have n1_ := Aside0.mk (below_step (by repeat (first | (with_reducible first | exact HB.out | apply below_alloc | apply pw_below_drewN | apply below_drew1) | exact HB.out)) hb); have n2_ := Aside0.mk (hbox); have n3_ := Aside0.mk ((by rw [hg]; exact (below_size (by repeat (first | (with_reducible first | exact HB.out | apply below_alloc | apply pw_below_drewN | apply below_drew1) | exact HB.out))) : w.heap.size ≤ gb168)); have n4_ := Aside0.mk ((by rw [hg]; exact (below_size (by repeat (first | (with_reducible first | exact HB.out | apply below_alloc | apply pw_below_drewN | apply below_drew1) | exact HB.out))) : w.heap.size ≤ gb168)); clear HO_33; clear HB; have HO_33 := n0_; have HB := n1_; have BK168 := n2_; have GW168 := n3_; have GE168 := n4_; clear n0_ n1_ n2_ n3_ n4_; clear hb hbox hg; have hcz25_0 : w24.cell? ⟨gb168, 0, none⟩ = some (.int .i64 0) := (blk_cell BK168.out 0).trans rfl; have hcz25_1 : w24.cell? ⟨gb168, 1, none⟩ = some (.string (⟨#[]⟩ : ByteArray)) := (blk_cell BK168.out 1).trans rfl; have hcz25_2 : w24.cell? ⟨gb168, 2, none⟩ = some (.int .i64 0) := (blk_cell BK168.out 2).trans rfl; have hcz25_3 : w24.cell? ⟨gb168, 3, none⟩ = some (.int .i64 0) := (blk_cell BK168.out 3).trans rfl; have hfz25_0 := blk_frozen BK168.out 0; have hfz25_1 := blk_frozen BK168.out 1; have hfz25_2 := blk_frozen BK168.out 2; have hfz25_3 := blk_frozen BK168.out 3))
                                        have n0_ : Aside0 (Kd.R k34 34 ((((w24.setCell ⟨gb168, 0, none⟩ (.int .i64 ((rd_T34 t161 x35_1).f0))).setCell ⟨gb168, 1, none⟩ (.string ((rd_T34 t161 x35_1).f1))).setCell ⟨gb168, 2, none⟩ (.int .i64 ((rd_T34 t161 x35_1).f2))).setCell ⟨gb168, 3, none⟩ (.int .i64 ((rd_T34 t161 x35_1).f3))) w.heap.size (fun k_ => k_ ≠ gb168) (.slice (some ad167) t161.length co8) t161) := ⟨by (with_reducible repeat (first | apply Kd.R_alloc | apply Kd.R_drewN | apply Kd.R_drew)); exact Kd.R_mono (Kd.R_far (p := ⟨gb168, 3, none⟩) (Kd.R_far (p := ⟨gb168, 2, none⟩) (Kd.R_far (p := ⟨gb168, 1, none⟩) (Kd.R_far (p := ⟨gb168, 0, none⟩) (Kd.R_mono HO_33.out (fun k_ hk => (⟨hk, hk.2⟩ : _ ∧ k_ ≠ gb168))) (fun _ hk => hk.2) (.int .i64 ((rd_T34 t161 x35_1).f0))) (fun _ hk => hk.2) (.string ((rd_T34 t161 x35_1).f1))) (fun _ hk => hk.2) (.int .i64 ((rd_T34 t161 x35_1).f2))) (fun _ hk => hk.2) (.int .i64 ((rd_T34 t161 x35_1).f3))) (fun _ hk => hk.1.2)⟩
                                        have n1_ : Aside0 (((((w24.setCell ⟨gb168, 0, none⟩ (.int .i64 ((rd_T34 t161 x35_1).f0))).setCell ⟨gb168, 1, none⟩ (.string ((rd_T34 t161 x35_1).f1))).setCell ⟨gb168, 2, none⟩ (.int .i64 ((rd_T34 t161 x35_1).f2))).setCell ⟨gb168, 3, none⟩ (.int .i64 ((rd_T34 t161 x35_1).f3))).heap[gb168]? = some (.cells #[.int .i64 ((rd_T34 t161 x35_1).f0), .string ((rd_T34 t161 x35_1).f1), .int .i64 ((rd_T34 t161 x35_1).f2), .int .i64 ((rd_T34 t161 x35_1).f3)] 34 (0, 0))) := ⟨by (with_reducible repeat (first | refine blk_drewN ?_ _ | refine blk_drew ?_ | refine blk_alloc ?_ _)); refine blk_put (cs := #[.int .i64 ((rd_T34 t161 x35_1).f0), .string ((rd_T34 t161 x35_1).f1), .int .i64 ((rd_T34 t161 x35_1).f2), .int .i64 0]) ?_ 3 _ rfl; (with_reducible repeat (first | refine blk_drewN ?_ _ | refine blk_drew ?_ | refine blk_alloc ?_ _)); refine blk_put (cs := #[.int .i64 ((rd_T34 t161 x35_1).f0), .string ((rd_T34 t161 x35_1).f1), .int .i64 0, .int .i64 0]) ?_ 2 _ rfl; (with_reducible repeat (first | refine blk_drewN ?_ _ | refine blk_drew ?_ | refine blk_alloc ?_ _)); refine blk_put (cs := #[.int .i64 ((rd_T34 t161 x35_1).f0), .string (⟨#[]⟩ : ByteArray), .int .i64 0, .int .i64 0]) ?_ 1 _ rfl; (with_reducible repeat (first | refine blk_drewN ?_ _ | refine blk_drew ?_ | refine blk_alloc ?_ _)); refine blk_put (cs := #[.int .i64 0, .string (⟨#[]⟩ : ByteArray), .int .i64 0, .int .i64 0]) ?_ 0 _ rfl; (with_reducible repeat (first | refine blk_drewN ?_ _ | refine blk_drew ?_ | refine blk_alloc ?_ _)); exact BK168.out⟩
                                        have n2_ : Aside0 (Below w.heap.size w ((((w24.setCell ⟨gb168, 0, none⟩ (.int .i64 ((rd_T34 t161 x35_1).f0))).setCell ⟨gb168, 1, none⟩ (.string ((rd_T34 t161 x35_1).f1))).setCell ⟨gb168, 2, none⟩ (.int .i64 ((rd_T34 t161 x35_1).f2))).setCell ⟨gb168, 3, none⟩ (.int .i64 ((rd_T34 t161 x35_1).f3)))) := ⟨by repeat (first | (with_reducible first | exact HB.out | apply below_alloc | apply pw_below_drewN | apply below_drew1 | refine below_set ?_ GE168.out) | exact HB.out)⟩
                                        (try clear HO_33)
                                        (try clear BK168)
                                        (try clear HB)
                                        generalize ((((w24.setCell ⟨gb168, 0, none⟩ (.int .i64 ((rd_T34 t161 x35_1).f0))).setCell ⟨gb168, 1, none⟩ (.string ((rd_T34 t161 x35_1).f1))).setCell ⟨gb168, 2, none⟩ (.int .i64 ((rd_T34 t161 x35_1).f2))).setCell ⟨gb168, 3, none⟩ (.int .i64 ((rd_T34 t161 x35_1).f3))) = w26 at n0_ n1_ n2_ ⊢
                                        have HO_33 := n0_
                                        have BK168 := n1_
                                        have HB := n2_
                                        clear n0_ n1_ n2_
                                        have n0_ := Aside0.mk (Kd.R_drew HO_33.out)
                                        have n1_ := Aside0.mk (blk_drew BK168.out)
                                        have n2_ := Aside0.mk (below_drew1 HB.out)
                                        clear HO_33
                                        clear BK168
                                        clear HB
                                        have HO_33 := n0_
                                        have BK168 := n1_
                                        have HB := n2_
                                        clear n0_ n1_ n2_
                                        refine start_ (n := 44) (S := fun w' => w'.cell? ⟨gb168, 0, none⟩ = some (.int .i64 ((rd_T34 t161 x35_1).f0)) ∧ w'.cell? ⟨gb168, 1, none⟩ = some (.string ((rd_T34 t161 x35_1).f1)) ∧ w'.cell? ⟨gb168, 2, none⟩ = some (.int .i64 ((rd_T34 t161 x35_1).f2)) ∧ w'.cell? ⟨gb168, 3, none⟩ = some (.int .i64 ((rd_T34 t161 x35_1).f3))) (ds := []) #[false, false, false, false, false, false, false, false, false, false, false, false, false, false, false, false, false, false, false, false, false, false, false, false, false, false, false, false, false, false, false, false, false, false, false, false, false, false, false, false, false, false, false, false] (by kernel_rfl) rfl rfl ⟨(blk_cell BK168.out 0).trans rfl, (blk_cell BK168.out 1).trans rfl, (blk_cell BK168.out 2).trans rfl, (blk_cell BK168.out 3).trans rfl⟩ (fun hHeld => ?_); refine with_tabW jigsawlaw05_LexPlaces.tab9 jigsawlaw05_LexPlaces.bits9 (fun HT_ HW_ => ?_)
                                        generalize w26.drew = w27 at HO_33 BK168 HB hHeld ⊢
                                        refine pure_ (i := 0) (N := some 39) (v := ?_) (a' := ?_) #[true, false, false, false, false, false, false, false, false, false, false, false, false, false, false, false, false, false, false, false, false, false, false, false, false, false, false, false, false, false, false, false, false, false, false, false, false, false, false, false, false, false, false, false] rfl rfl (any_of HT_.out (by kernel_rfl)) (fun _ _ _ h => h) (Or.inl ⟨by rfl, ?_⟩) ?_ ?_
                                        rotate_left
                                        · intro w'
                                          go_simp
                                          with_reducible rfl
                                        rotate_left
                                        · simp only [Act.put, List.setIfInBounds_toArray, List.set_cons_zero, List.set_cons_succ, i64_w, i32_w]
                                          rfl
                                        refine pure_ (i := 2) (N := some 41) (v := ?_) (a' := ?_) #[true, false, true, false, false, false, false, false, false, false, false, false, false, false, false, false, false, false, false, false, false, false, false, false, false, false, false, false, false, false, false, false, false, false, false, false, false, false, false, false, false, false, false, false] rfl rfl (any_of HT_.out (by kernel_rfl)) (fun _ _ _ h => h) (Or.inl ⟨by rfl, ?_⟩) ?_ ?_
                                        rotate_left
                                        · intro w'
                                          go_simp
                                          with_reducible rfl
                                        rotate_left
                                        · simp only [Act.put, List.setIfInBounds_toArray, List.set_cons_zero, List.set_cons_succ, i64_w, i32_w]
                                          rfl
                                        refine take_ (i := 1) (N := some 40) (v := ?_) (a' := ?_) #[true, true, true, false, false, false, false, false, false, false, false, false, false, false, false, false, false, false, false, false, false, false, false, false, false, false, false, false, false, false, false, false, false, false, false, false, false, false, false, false, false, false, false, false] rfl rfl (take_ofW HT_.out HW_.out (by kernel_rfl)) (fun _ _ _ h => h) (Or.inl ⟨by rfl, ?_⟩) hHeld ?_ ?_
                                        rotate_left
                                        · rintro w' ⟨s0, s1, s2, s3⟩
                                          go_simp
                                          with_reducible rfl
                                        rotate_left
                                        · simp only [Act.put, List.setIfInBounds_toArray, List.set_cons_zero, List.set_cons_succ, i64_w, i32_w]
                                          rfl
                                        refine pure_ (i := 3) (N := some 42) (v := ?_) (a' := ?_) #[true, true, true, true, false, false, false, false, false, false, false, false, false, false, false, false, false, false, false, false, false, false, false, false, false, false, false, false, false, false, false, false, false, false, false, false, false, false, false, false, false, false, false, false] rfl rfl (any_of HT_.out (by kernel_rfl)) (fun _ _ _ h => h) (Or.inl ⟨by rfl, ?_⟩) ?_ ?_
                                        rotate_left
                                        · intro w'
                                          go_simp
                                          with_reducible rfl
                                        rotate_left
                                        · simp only [Act.put, List.setIfInBounds_toArray, List.set_cons_zero, List.set_cons_succ, i64_w, i32_w]
                                          rfl
                                        refine pure_ (i := 4) (N := some 43) (v := ?_) (a' := ?_) #[true, true, true, true, true, false, false, false, false, false, false, false, false, false, false, false, false, false, false, false, false, false, false, false, false, false, false, false, false, false, false, false, false, false, false, false, false, false, false, false, false, false, false, false] rfl rfl (any_of HT_.out (by kernel_rfl)) (fun _ _ _ h => h) (Or.inl ⟨by rfl, ?_⟩) ?_ ?_
                                        rotate_left
                                        · intro w'
                                          go_simp
                                          with_reducible rfl
                                        rotate_left
                                        · simp only [Act.put, List.setIfInBounds_toArray, List.set_cons_zero, List.set_cons_succ, i64_w, i32_w]
                                          rfl
                                        refine pure_ (i := 5) (N := some 44) (v := ?_) (a' := ?_) #[true, true, true, true, true, true, false, false, false, false, false, false, false, false, false, false, false, false, false, false, false, false, false, false, false, false, false, false, false, false, false, false, false, false, false, false, false, false, false, false, false, false, false, false] rfl rfl (any_of HT_.out (by kernel_rfl)) (fun _ _ _ h => h) (Or.inl ⟨by rfl, ?_⟩) ?_ ?_
                                        rotate_left
                                        · intro w'
                                          go_simp
                                          with_reducible rfl
                                        rotate_left
                                        · simp only [Act.put, List.setIfInBounds_toArray, List.set_cons_zero, List.set_cons_succ, i64_w, i32_w]
                                          rfl
                                        refine take_ (i := 6) (N := some 45) (v := ?_) (a' := ?_) #[true, true, true, true, true, true, true, false, false, false, false, false, false, false, false, false, false, false, false, false, false, false, false, false, false, false, false, false, false, false, false, false, false, false, false, false, false, false, false, false, false, false, false, false] rfl rfl (take_ofW HT_.out HW_.out (by kernel_rfl)) (fun _ _ _ h => h) (Or.inl ⟨by rfl, ?_⟩) hHeld ?_ ?_
                                        rotate_left
                                        · rintro w' ⟨s0, s1, s2, s3⟩
                                          go_simp
                                          with_reducible rfl
                                        rotate_left
                                        · simp only [Act.put, List.setIfInBounds_toArray, List.set_cons_zero, List.set_cons_succ, i64_w, i32_w]
                                          rfl
                                        refine pure_ (i := 7) (N := some 46) (v := ?_) (a' := ?_) #[true, true, true, true, true, true, true, true, false, false, false, false, false, false, false, false, false, false, false, false, false, false, false, false, false, false, false, false, false, false, false, false, false, false, false, false, false, false, false, false, false, false, false, false] rfl rfl (any_of HT_.out (by kernel_rfl)) (fun _ _ _ h => h) (Or.inl ⟨by rfl, ?_⟩) ?_ ?_
                                        rotate_left
                                        · intro w'
                                          go_simp
                                          with_reducible rfl
                                        rotate_left
                                        · simp only [Act.put, List.setIfInBounds_toArray, List.set_cons_zero, List.set_cons_succ, i64_w, i32_w]
                                          rfl
                                        refine pure_ (i := 8) (N := some 47) (v := ?_) (a' := ?_) #[true, true, true, true, true, true, true, true, true, false, false, false, false, false, false, false, false, false, false, false, false, false, false, false, false, false, false, false, false, false, false, false, false, false, false, false, false, false, false, false, false, false, false, false] rfl rfl (any_of HT_.out (by kernel_rfl)) (fun _ _ _ h => h) (Or.inl ⟨by rfl, ?_⟩) ?_ ?_
                                        rotate_left
                                        · intro w'
                                          go_simp
                                          with_reducible rfl
                                        rotate_left
                                        · simp only [Act.put, List.setIfInBounds_toArray, List.set_cons_zero, List.set_cons_succ, i64_w, i32_w]
                                          rfl
                                        refine pure_ (i := 9) (N := some 48) (v := ?_) (a' := ?_) #[true, true, true, true, true, true, true, true, true, true, false, false, false, false, false, false, false, false, false, false, false, false, false, false, false, false, false, false, false, false, false, false, false, false, false, false, false, false, false, false, false, false, false, false] rfl rfl (any_of HT_.out (by kernel_rfl)) (fun _ _ _ h => h) (Or.inl ⟨by rfl, ?_⟩) ?_ ?_
                                        rotate_left
                                        · intro w'
                                          go_simp
                                          with_reducible rfl
                                        rotate_left
                                        · simp only [Act.put, List.setIfInBounds_toArray, List.set_cons_zero, List.set_cons_succ, i64_w, i32_w]
                                          rfl
                                        refine pure_ (i := 10) (N := some 49) (v := ?_) (a' := ?_) #[true, true, true, true, true, true, true, true, true, true, true, false, false, false, false, false, false, false, false, false, false, false, false, false, false, false, false, false, false, false, false, false, false, false, false, false, false, false, false, false, false, false, false, false] rfl rfl (any_of HT_.out (by kernel_rfl)) (fun _ _ _ h => h) (Or.inl ⟨by rfl, ?_⟩) ?_ ?_
                                        rotate_left
                                        · intro w'
                                          go_simp
                                          with_reducible rfl
                                        rotate_left
                                        · simp only [Act.put, List.setIfInBounds_toArray, List.set_cons_zero, List.set_cons_succ, i64_w, i32_w]
                                          rfl
                                        refine pure_ (i := 12) (N := some 51) (v := ?_) (a' := ?_) #[true, true, true, true, true, true, true, true, true, true, true, false, true, false, false, false, false, false, false, false, false, false, false, false, false, false, false, false, false, false, false, false, false, false, false, false, false, false, false, false, false, false, false, false] rfl rfl (any_of HT_.out (by kernel_rfl)) (fun _ _ _ h => h) (Or.inl ⟨by rfl, ?_⟩) ?_ ?_
                                        rotate_left
                                        · intro w'
                                          go_simp
                                          with_reducible rfl
                                        rotate_left
                                        · simp only [Act.put, List.setIfInBounds_toArray, List.set_cons_zero, List.set_cons_succ, i64_w, i32_w]
                                          rfl
                                        refine pure_ (i := 16) (N := some 55) (v := ?_) (a' := ?_) #[true, true, true, true, true, true, true, true, true, true, true, false, true, false, false, false, true, false, false, false, false, false, false, false, false, false, false, false, false, false, false, false, false, false, false, false, false, false, false, false, false, false, false, false] rfl rfl (any_of HT_.out (by kernel_rfl)) (fun _ _ _ h => h) (Or.inl ⟨by rfl, ?_⟩) ?_ ?_
                                        rotate_left
                                        · intro w'
                                          go_simp
                                          with_reducible rfl
                                        rotate_left
                                        · simp only [Act.put, List.setIfInBounds_toArray, List.set_cons_zero, List.set_cons_succ, i64_w, i32_w]
                                          rfl
                                        refine pure_ (i := 17) (N := some 56) (v := ?_) (a' := ?_) #[true, true, true, true, true, true, true, true, true, true, true, false, true, false, false, false, true, true, false, false, false, false, false, false, false, false, false, false, false, false, false, false, false, false, false, false, false, false, false, false, false, false, false, false] rfl rfl (any_of HT_.out (by kernel_rfl)) (fun _ _ _ h => h) (Or.inl ⟨by rfl, ?_⟩) ?_ ?_
                                        rotate_left
                                        · intro w'
                                          go_simp
                                          with_reducible rfl
                                        rotate_left
                                        · simp only [Act.put, List.setIfInBounds_toArray, List.set_cons_zero, List.set_cons_succ, i64_w, i32_w]
                                          rfl
                                        refine take_ (i := 11) (N := some 50) (v := ?_) (a' := ?_) #[true, true, true, true, true, true, true, true, true, true, true, true, true, false, false, false, true, true, false, false, false, false, false, false, false, false, false, false, false, false, false, false, false, false, false, false, false, false, false, false, false, false, false, false] rfl rfl (take_ofW HT_.out HW_.out (by kernel_rfl)) (fun _ _ _ h => h) (Or.inl ⟨by rfl, ?_⟩) hHeld ?_ ?_
                                        rotate_left
                                        · rintro w' ⟨s0, s1, s2, s3⟩
                                          go_simp
                                          with_reducible rfl
                                        rotate_left
                                        · simp only [Act.put, List.setIfInBounds_toArray, List.set_cons_zero, List.set_cons_succ, i64_w, i32_w]
                                          rfl
                                        refine take_ (i := 13) (N := some 52) (v := ?_) (a' := ?_) #[true, true, true, true, true, true, true, true, true, true, true, true, true, true, false, false, true, true, false, false, false, false, false, false, false, false, false, false, false, false, false, false, false, false, false, false, false, false, false, false, false, false, false, false] rfl rfl (take_ofW HT_.out HW_.out (by kernel_rfl)) (fun _ _ _ h => h) (Or.inl ⟨by rfl, ?_⟩) hHeld ?_ ?_
                                        rotate_left
                                        · rintro w' ⟨s0, s1, s2, s3⟩
                                          go_simp
                                          with_reducible rfl
                                        rotate_left
                                        · simp only [Act.put, List.setIfInBounds_toArray, List.set_cons_zero, List.set_cons_succ, i64_w, i32_w]
                                          rfl
                                        refine pure_ (i := 14) (N := some 53) (v := ?_) (a' := ?_) #[true, true, true, true, true, true, true, true, true, true, true, true, true, true, true, false, true, true, false, false, false, false, false, false, false, false, false, false, false, false, false, false, false, false, false, false, false, false, false, false, false, false, false, false] rfl rfl (any_of HT_.out (by kernel_rfl)) (fun _ _ _ h => h) (Or.inl ⟨by rfl, ?_⟩) ?_ ?_
                                        rotate_left
                                        · intro w'
                                          go_simp
                                          with_reducible rfl
                                        rotate_left
                                        · simp only [Act.put, List.setIfInBounds_toArray, List.set_cons_zero, List.set_cons_succ, i64_w, i32_w]
                                          rfl
                                        refine pure_ (i := 15) (N := some 54) (v := ?_) (a' := ?_) #[true, true, true, true, true, true, true, true, true, true, true, true, true, true, true, true, true, true, false, false, false, false, false, false, false, false, false, false, false, false, false, false, false, false, false, false, false, false, false, false, false, false, false, false] rfl rfl (any_of HT_.out (by kernel_rfl)) (fun _ _ _ h => h) (Or.inl ⟨by rfl, ?_⟩) ?_ ?_
                                        rotate_left
                                        · intro w'
                                          go_simp
                                          with_reducible rfl
                                        rotate_left
                                        · simp only [Act.put, List.setIfInBounds_toArray, List.set_cons_zero, List.set_cons_succ, i64_w, i32_w]
                                          rfl
                                        refine pure_ (i := 18) (N := some 57) (v := ?_) (a' := ?_) #[true, true, true, true, true, true, true, true, true, true, true, true, true, true, true, true, true, true, true, false, false, false, false, false, false, false, false, false, false, false, false, false, false, false, false, false, false, false, false, false, false, false, false, false] rfl rfl (any_of HT_.out (by kernel_rfl)) (fun _ _ _ h => h) (Or.inl ⟨by rfl, ?_⟩) ?_ ?_
                                        rotate_left
                                        · intro w'
                                          go_simp
                                          with_reducible rfl
                                        rotate_left
                                        · simp only [Act.put, List.setIfInBounds_toArray, List.set_cons_zero, List.set_cons_succ, i64_w, i32_w]
                                          rfl
                                        refine pure_ (i := 19) (N := some 58) (v := ?_) (a' := ?_) #[true, true, true, true, true, true, true, true, true, true, true, true, true, true, true, true, true, true, true, true, false, false, false, false, false, false, false, false, false, false, false, false, false, false, false, false, false, false, false, false, false, false, false, false] rfl rfl (any_of HT_.out (by kernel_rfl)) (fun _ _ _ h => h) (Or.inl ⟨by rfl, ?_⟩) ?_ ?_
                                        rotate_left
                                        · intro w'
                                          go_simp
                                          with_reducible rfl
                                        rotate_left
                                        · simp only [Act.put, List.setIfInBounds_toArray, List.set_cons_zero, List.set_cons_succ, i64_w, i32_w]
                                          rfl
                                        refine pure_ (i := 20) (N := some 59) (v := ?_) (a' := ?_) #[true, true, true, true, true, true, true, true, true, true, true, true, true, true, true, true, true, true, true, true, true, false, false, false, false, false, false, false, false, false, false, false, false, false, false, false, false, false, false, false, false, false, false, false] rfl rfl (any_of HT_.out (by kernel_rfl)) (fun _ _ _ h => h) (Or.inl ⟨by rfl, ?_⟩) ?_ ?_
                                        rotate_left
                                        · intro w'
                                          go_simp
                                          with_reducible rfl
                                        rotate_left
                                        · simp only [Act.put, List.setIfInBounds_toArray, List.set_cons_zero, List.set_cons_succ, i64_w, i32_w]
                                          rfl
                                        refine pure_ (i := 21) (N := some 60) (v := ?_) (a' := ?_) #[true, true, true, true, true, true, true, true, true, true, true, true, true, true, true, true, true, true, true, true, true, true, false, false, false, false, false, false, false, false, false, false, false, false, false, false, false, false, false, false, false, false, false, false] rfl rfl (any_of HT_.out (by kernel_rfl)) (fun _ _ _ h => h) (Or.inl ⟨by rfl, ?_⟩) ?_ ?_
                                        rotate_left
                                        · intro w'
                                          go_simp
                                          with_reducible rfl
                                        rotate_left
                                        · simp only [Act.put, List.setIfInBounds_toArray, List.set_cons_zero, List.set_cons_succ, i64_w, i32_w]
                                          rfl
                                        refine pure_ (i := 22) (N := some 61) (v := ?_) (a' := ?_) #[true, true, true, true, true, true, true, true, true, true, true, true, true, true, true, true, true, true, true, true, true, true, true, false, false, false, false, false, false, false, false, false, false, false, false, false, false, false, false, false, false, false, false, false] rfl rfl (any_of HT_.out (by kernel_rfl)) (fun _ _ _ h => h) (Or.inl ⟨by rfl, ?_⟩) ?_ ?_
                                        rotate_left
                                        · intro w'
                                          go_simp
                                          with_reducible rfl
                                        rotate_left
                                        · simp only [Act.put, List.setIfInBounds_toArray, List.set_cons_zero, List.set_cons_succ, i64_w, i32_w]
                                          rfl
                                        refine pure_ (i := 24) (N := some 63) (v := ?_) (a' := ?_) #[true, true, true, true, true, true, true, true, true, true, true, true, true, true, true, true, true, true, true, true, true, true, true, false, true, false, false, false, false, false, false, false, false, false, false, false, false, false, false, false, false, false, false, false] rfl rfl (any_of HT_.out (by kernel_rfl)) (fun _ _ _ h => h) (Or.inl ⟨by rfl, ?_⟩) ?_ ?_
                                        rotate_left
                                        · intro w'
                                          go_simp
                                          with_reducible rfl
                                        rotate_left
                                        · simp only [Act.put, List.setIfInBounds_toArray, List.set_cons_zero, List.set_cons_succ, i64_w, i32_w]
                                          rfl
                                        refine pure_ (i := 26) (N := some 65) (v := ?_) (a' := ?_) #[true, true, true, true, true, true, true, true, true, true, true, true, true, true, true, true, true, true, true, true, true, true, true, false, true, false, true, false, false, false, false, false, false, false, false, false, false, false, false, false, false, false, false, false] rfl rfl (any_of HT_.out (by kernel_rfl)) (fun _ _ _ h => h) (Or.inl ⟨by rfl, ?_⟩) ?_ ?_
                                        rotate_left
                                        · intro w'
                                          go_simp
                                          with_reducible rfl
                                        rotate_left
                                        · simp only [Act.put, List.setIfInBounds_toArray, List.set_cons_zero, List.set_cons_succ, i64_w, i32_w]
                                          rfl
                                        refine pure_ (i := 31) (N := some 70) (v := ?_) (a' := ?_) #[true, true, true, true, true, true, true, true, true, true, true, true, true, true, true, true, true, true, true, true, true, true, true, false, true, false, true, false, false, false, false, true, false, false, false, false, false, false, false, false, false, false, false, false] rfl rfl (any_of HT_.out (by kernel_rfl)) (fun _ _ _ h => h) (Or.inl ⟨by rfl, ?_⟩) ?_ ?_
                                        rotate_left
                                        · intro w'
                                          go_simp
                                          with_reducible rfl
                                        rotate_left
                                        · simp only [Act.put, List.setIfInBounds_toArray, List.set_cons_zero, List.set_cons_succ, i64_w, i32_w]
                                          rfl
                                        refine take_ (i := 23) (N := some 62) (v := ?_) (a' := ?_) #[true, true, true, true, true, true, true, true, true, true, true, true, true, true, true, true, true, true, true, true, true, true, true, true, true, false, true, false, false, false, false, true, false, false, false, false, false, false, false, false, false, false, false, false] rfl rfl (take_ofW HT_.out HW_.out (by kernel_rfl)) (fun _ _ _ h => h) (Or.inl ⟨by rfl, ?_⟩) hHeld ?_ ?_
                                        rotate_left
                                        · rintro w' ⟨s0, s1, s2, s3⟩
                                          go_simp
                                          with_reducible rfl
                                        rotate_left
                                        · simp only [Act.put, List.setIfInBounds_toArray, List.set_cons_zero, List.set_cons_succ, i64_w, i32_w]
                                          rfl
                                        refine take_ (i := 25) (N := some 64) (v := ?_) (a' := ?_) #[true, true, true, true, true, true, true, true, true, true, true, true, true, true, true, true, true, true, true, true, true, true, true, true, true, true, true, false, false, false, false, true, false, false, false, false, false, false, false, false, false, false, false, false] rfl rfl (take_ofW HT_.out HW_.out (by kernel_rfl)) (fun _ _ _ h => h) (Or.inl ⟨by rfl, ?_⟩) hHeld ?_ ?_
                                        rotate_left
                                        · rintro w' ⟨s0, s1, s2, s3⟩
                                          go_simp
                                          with_reducible rfl
                                        rotate_left
                                        · simp only [Act.put, List.setIfInBounds_toArray, List.set_cons_zero, List.set_cons_succ, i64_w, i32_w]
                                          rfl
                                        refine take_ (i := 27) (N := some 66) (v := ?_) (a' := ?_) #[true, true, true, true, true, true, true, true, true, true, true, true, true, true, true, true, true, true, true, true, true, true, true, true, true, true, true, true, false, false, false, true, false, false, false, false, false, false, false, false, false, false, false, false] rfl rfl (take_ofW HT_.out HW_.out (by kernel_rfl)) (fun _ _ _ h => h) (Or.inl ⟨by rfl, ?_⟩) hHeld ?_ ?_
                                        rotate_left
                                        · rintro w' ⟨s0, s1, s2, s3⟩
                                          go_simp
                                          with_reducible rfl
                                        rotate_left
                                        · simp only [Act.put, List.setIfInBounds_toArray, List.set_cons_zero, List.set_cons_succ, i64_w, i32_w]
                                          rfl
                                        refine pure_ (i := 28) (N := some 67) (v := ?_) (a' := ?_) #[true, true, true, true, true, true, true, true, true, true, true, true, true, true, true, true, true, true, true, true, true, true, true, true, true, true, true, true, true, false, false, true, false, false, false, false, false, false, false, false, false, false, false, false] rfl rfl (any_of HT_.out (by kernel_rfl)) (fun _ _ _ h => h) (Or.inl ⟨by rfl, ?_⟩) ?_ ?_
                                        rotate_left
                                        · intro w'
                                          go_simp
                                          with_reducible rfl
                                        rotate_left
                                        · simp only [Act.put, List.setIfInBounds_toArray, List.set_cons_zero, List.set_cons_succ, i64_w, i32_w]
                                          rfl
                                        refine pure_ (i := 29) (N := some 68) (v := ?_) (a' := ?_) #[true, true, true, true, true, true, true, true, true, true, true, true, true, true, true, true, true, true, true, true, true, true, true, true, true, true, true, true, true, true, false, true, false, false, false, false, false, false, false, false, false, false, false, false] rfl rfl (any_of HT_.out (by kernel_rfl)) (fun _ _ _ h => h) (Or.inl ⟨by rfl, ?_⟩) ?_ ?_
                                        rotate_left
                                        · intro w'
                                          go_simp
                                          with_reducible rfl
                                        rotate_left
                                        · simp only [Act.put, List.setIfInBounds_toArray, List.set_cons_zero, List.set_cons_succ, i64_w, i32_w]
                                          rfl
                                        refine pure_ (i := 30) (N := some 69) (v := ?_) (a' := ?_) #[true, true, true, true, true, true, true, true, true, true, true, true, true, true, true, true, true, true, true, true, true, true, true, true, true, true, true, true, true, true, true, true, false, false, false, false, false, false, false, false, false, false, false, false] rfl rfl (any_of HT_.out (by kernel_rfl)) (fun _ _ _ h => h) (Or.inl ⟨by rfl, ?_⟩) ?_ ?_
                                        rotate_left
                                        · intro w'
                                          go_simp
                                          with_reducible rfl
                                        rotate_left
                                        · simp only [Act.put, List.setIfInBounds_toArray, List.set_cons_zero, List.set_cons_succ, i64_w, i32_w]
                                          rfl
                                        refine take_ (i := 32) (N := some 71) (v := ?_) (a' := ?_) #[true, true, true, true, true, true, true, true, true, true, true, true, true, true, true, true, true, true, true, true, true, true, true, true, true, true, true, true, true, true, true, true, true, false, false, false, false, false, false, false, false, false, false, false] rfl rfl (take_ofW HT_.out HW_.out (by kernel_rfl)) (fun _ _ _ h => h) (Or.inl ⟨by rfl, ?_⟩) hHeld ?_ ?_
                                        rotate_left
                                        · rintro w' ⟨s0, s1, s2, s3⟩
                                          go_simp
                                          with_reducible rfl
                                        rotate_left
                                        · simp only [Act.put, List.setIfInBounds_toArray, List.set_cons_zero, List.set_cons_succ, i64_w, i32_w]
                                          rfl
                                        refine pure_ (i := 33) (N := some 72) (v := ?_) (a' := ?_) #[true, true, true, true, true, true, true, true, true, true, true, true, true, true, true, true, true, true, true, true, true, true, true, true, true, true, true, true, true, true, true, true, true, true, false, false, false, false, false, false, false, false, false, false] rfl rfl (any_of HT_.out (by kernel_rfl)) (fun _ _ _ h => h) (Or.inl ⟨by rfl, ?_⟩) ?_ ?_
                                        rotate_left
                                        · intro w'
                                          go_simp
                                          with_reducible rfl
                                        rotate_left
                                        · simp only [Act.put, List.setIfInBounds_toArray, List.set_cons_zero, List.set_cons_succ, i64_w, i32_w]
                                          rfl
                                        refine pure_ (i := 34) (N := some 73) (v := ?_) (a' := ?_) #[true, true, true, true, true, true, true, true, true, true, true, true, true, true, true, true, true, true, true, true, true, true, true, true, true, true, true, true, true, true, true, true, true, true, true, false, false, false, false, false, false, false, false, false] rfl rfl (any_of HT_.out (by kernel_rfl)) (fun _ _ _ h => h) (Or.inl ⟨by rfl, ?_⟩) ?_ ?_
                                        rotate_left
                                        · intro w'
                                          go_simp
                                          with_reducible rfl
                                        rotate_left
                                        · simp only [Act.put, List.setIfInBounds_toArray, List.set_cons_zero, List.set_cons_succ, i64_w, i32_w]
                                          rfl
                                        refine pure_ (i := 35) (N := some 74) (v := ?_) (a' := ?_) #[true, true, true, true, true, true, true, true, true, true, true, true, true, true, true, true, true, true, true, true, true, true, true, true, true, true, true, true, true, true, true, true, true, true, true, true, false, false, false, false, false, false, false, false] rfl rfl (any_of HT_.out (by kernel_rfl)) (fun _ _ _ h => h) (Or.inl ⟨by rfl, ?_⟩) ?_ ?_
                                        rotate_left
                                        · intro w'
                                          go_simp
                                          with_reducible rfl
                                        rotate_left
                                        · simp only [Act.put, List.setIfInBounds_toArray, List.set_cons_zero, List.set_cons_succ, i64_w, i32_w]
                                          rfl
                                        refine pure_ (i := 36) (N := some 75) (v := ?_) (a' := ?_) #[true, true, true, true, true, true, true, true, true, true, true, true, true, true, true, true, true, true, true, true, true, true, true, true, true, true, true, true, true, true, true, true, true, true, true, true, true, false, false, false, false, false, false, false] rfl rfl (any_of HT_.out (by kernel_rfl)) (fun _ _ _ h => h) (Or.inl ⟨by rfl, ?_⟩) ?_ ?_
                                        rotate_left
                                        · intro w'
                                          go_simp
                                          with_reducible rfl
                                        rotate_left
                                        · simp only [Act.put, List.setIfInBounds_toArray, List.set_cons_zero, List.set_cons_succ, i64_w, i32_w]
                                          rfl
                                        refine pure_ (i := 37) (N := some 76) (v := ?_) (a' := ?_) #[true, true, true, true, true, true, true, true, true, true, true, true, true, true, true, true, true, true, true, true, true, true, true, true, true, true, true, true, true, true, true, true, true, true, true, true, true, true, false, false, false, false, false, false] rfl rfl (any_of HT_.out (by kernel_rfl)) (fun _ _ _ h => h) (Or.inl ⟨by rfl, ?_⟩) ?_ ?_
                                        rotate_left
                                        · intro w'
                                          go_simp
                                          with_reducible rfl
                                        rotate_left
                                        · simp only [Act.put, List.setIfInBounds_toArray, List.set_cons_zero, List.set_cons_succ, i64_w, i32_w]
                                          rfl
                                        refine pure_ (i := 38) (N := some 77) (v := ?_) (a' := ?_) #[true, true, true, true, true, true, true, true, true, true, true, true, true, true, true, true, true, true, true, true, true, true, true, true, true, true, true, true, true, true, true, true, true, true, true, true, true, true, true, false, false, false, false, false] rfl rfl (any_of HT_.out (by kernel_rfl)) (fun _ _ _ h => h) (Or.inl ⟨by rfl, ?_⟩) ?_ ?_
                                        rotate_left
                                        · intro w'
                                          go_simp
                                          with_reducible rfl
                                        rotate_left
                                        · simp only [Act.put, List.setIfInBounds_toArray, List.set_cons_zero, List.set_cons_succ, i64_w, i32_w]
                                          rfl
                                        refine take_ (i := 39) (N := some 78) (v := ?_) (a' := ?_) #[true, true, true, true, true, true, true, true, true, true, true, true, true, true, true, true, true, true, true, true, true, true, true, true, true, true, true, true, true, true, true, true, true, true, true, true, true, true, true, true, false, false, false, false] rfl rfl (take_ofW HT_.out HW_.out (by kernel_rfl)) (fun _ _ _ h => h) (Or.inl ⟨by rfl, ?_⟩) hHeld ?_ ?_
                                        rotate_left
                                        · rintro w' ⟨s0, s1, s2, s3⟩
                                          go_simp
                                          with_reducible rfl
                                        rotate_left
                                        · simp only [Act.put, List.setIfInBounds_toArray, List.set_cons_zero, List.set_cons_succ, i64_w, i32_w]
                                          rfl
                                        refine pure_ (i := 40) (N := some 79) (v := ?_) (a' := ?_) #[true, true, true, true, true, true, true, true, true, true, true, true, true, true, true, true, true, true, true, true, true, true, true, true, true, true, true, true, true, true, true, true, true, true, true, true, true, true, true, true, true, false, false, false] rfl rfl (any_of HT_.out (by kernel_rfl)) (fun _ _ _ h => h) (Or.inl ⟨by rfl, ?_⟩) ?_ ?_
                                        rotate_left
                                        · intro w'
                                          go_simp
                                          with_reducible rfl
                                        rotate_left
                                        · simp only [Act.put, List.setIfInBounds_toArray, List.set_cons_zero, List.set_cons_succ, i64_w, i32_w]
                                          rfl
                                        refine one_ (i := 41) (N := some 80) #[true, true, true, true, true, true, true, true, true, true, true, true, true, true, true, true, true, true, true, true, true, true, true, true, true, true, true, true, true, true, true, true, true, true, true, true, true, true, true, true, true, true, false, false] rfl rfl (one_of HT_.out (by kernel_rfl)) (by decide) (fun K hK => ?_)
                                        refine goes_ Tryd.func12 (by kernel_rfl) rfl #[.string ((a0.extract 0 ((ji2) : Int).toNat).extract (x6_1 : Int).toNat (((rd_T34 t161 x35_1).f3) : Int).toNat)] (by rfl) rfl rfl (by (try simp only [List.map_toArray, List.map_cons, List.map_nil]); first | done | (simp only [hji2]; rfl) | rfl | (simp only [List.length_drop, List.length_take]; rfl)) ?_
                                        with_reducible refine (jigsawlaw05_empty.calls k1 ((a0.extract 0 ((ji2) : Int).toNat).extract (x6_1 : Int).toNat (((rd_T34 t161 x35_1).f3) : Int).toNat) true _ (hG.below HB.out) A22.out).mono ?_
                                        rintro e w28 ⟨rfl, hb⟩
                                        refine ⟨_, rfl, ?_⟩
                                        have n0_ := Aside0.mk (Kd.R_below (by (with_reducible repeat (first | apply Kd.R_alloc | apply Kd.R_drewN | apply Kd.R_drew)); exact HO_33.out) hb)
                                        have n1_ := Aside0.mk (blk_below (g := gb168) (o := .cells #[.int .i64 ((rd_T34 t161 x35_1).f0), .string ((rd_T34 t161 x35_1).f1), .int .i64 ((rd_T34 t161 x35_1).f2), .int .i64 ((rd_T34 t161 x35_1).f3)] 34 (0, 0)) (by (with_reducible repeat (first | refine blk_drewN ?_ _ | refine blk_drew ?_ | refine blk_alloc ?_ _)); exact BK168.out) hb)
                                        have n2_ := Aside0.mk (below_step (by repeat (first | (with_reducible first | exact HB.out | apply below_alloc | apply pw_below_drewN | apply below_drew1 | refine below_set ?_ GE168.out) | exact HB.out)) hb)
                                        clear HO_33
                                        clear BK168
                                        clear HB
                                        have HO_33 := n0_
                                        have BK168 := n1_
                                        have HB := n2_
                                        clear n0_ n1_ n2_
                                        (try clear hb)
                                        (try clear hb2)
                                        (try clear hk)
                                        (try clear hi)
                                        refine hK.out _ _ ⟨(blk_cell BK168.out 0).trans rfl, (blk_cell BK168.out 1).trans rfl, (blk_cell BK168.out 2).trans rfl, (blk_cell BK168.out 3).trans rfl⟩ (fun hHeld => ?_)
                                        clear hK K
                                        refine norm_ (a' := ?_) ?_ ?_
                                        rotate_left
                                        · show Act.put _ (some 80) _ = _
                                          simp only [Act.put, List.setIfInBounds_toArray, List.set_cons_zero, List.set_cons_succ, i64_w, i32_w]
                                          rfl
                                        refine pure_ (i := 42) (N := some 81) (v := ?_) (a' := ?_) #[true, true, true, true, true, true, true, true, true, true, true, true, true, true, true, true, true, true, true, true, true, true, true, true, true, true, true, true, true, true, true, true, true, true, true, true, true, true, true, true, true, true, true, false] rfl rfl (any_of HT_.out (by kernel_rfl)) (fun _ _ _ h => h) (Or.inl ⟨by rfl, ?_⟩) ?_ ?_
                                        rotate_left
                                        · intro w'
                                          go_simp
                                          with_reducible rfl
                                        rotate_left
                                        · simp only [Act.put, List.setIfInBounds_toArray, List.set_cons_zero, List.set_cons_succ, i64_w, i32_w]
                                          rfl
                                        refine pure_ (i := 43) (N := some 82) (v := ?_) (a' := ?_) #[true, true, true, true, true, true, true, true, true, true, true, true, true, true, true, true, true, true, true, true, true, true, true, true, true, true, true, true, true, true, true, true, true, true, true, true, true, true, true, true, true, true, true, true] rfl rfl (any_of HT_.out (by kernel_rfl)) (fun _ _ _ h => h) (Or.inl ⟨by rfl, ?_⟩) ?_ ?_
                                        rotate_left
                                        · intro w'
                                          go_simp
                                          with_reducible rfl
                                        rotate_left
                                        · simp only [Act.put, List.setIfInBounds_toArray, List.set_cons_zero, List.set_cons_succ, i64_w, i32_w]
                                          rfl
                                        refine done_ (done_of HT_.out (by kernel_rfl)) ?_
                                        have hcz29_0 : w28.cell? ⟨gb168, 0, none⟩ = some (.int .i64 ((rd_T34 t161 x35_1).f0)) := (blk_cell BK168.out 0).trans rfl
                                        have hcz29_1 : w28.cell? ⟨gb168, 1, none⟩ = some (.string ((rd_T34 t161 x35_1).f1)) := (blk_cell BK168.out 1).trans rfl
                                        have hcz29_2 : w28.cell? ⟨gb168, 2, none⟩ = some (.int .i64 ((rd_T34 t161 x35_1).f2)) := (blk_cell BK168.out 2).trans rfl
                                        have hcz29_3 : w28.cell? ⟨gb168, 3, none⟩ = some (.int .i64 ((rd_T34 t161 x35_1).f3)) := (blk_cell BK168.out 3).trans rfl
                                        have hfz29_0 := blk_frozen BK168.out 0
                                        have hfz29_1 := blk_frozen BK168.out 1
                                        have hfz29_2 := blk_frozen BK168.out 2
                                        have hfz29_3 := blk_frozen BK168.out 3
                                        try go_wp2
                                        go_roundg k1
                                        case measure => have := HK1.out; omega
                                        case rel => exact ⟨(wrap64 (((rd_T34 t161 x35_1).f3) + (((rd_T34 t161 x35_1).f1).size : Int))), (wrap64 (x35_1 + 1)), (by first | rfl | (simp; done) | (simp [*]; done)), (by first | rfl | (simp; done) | (simp [*]; done)), H', ⟨by have := HK1.out; omega⟩, ⟨by (with_reducible repeat (first | apply Kd.R_alloc | apply Kd.R_drewN | apply Kd.R_drew)); exact Kd.R_mono HO_33.out (fun _ hk => trivial)⟩, ⟨by repeat (first | (with_reducible first | exact HB.out | apply below_alloc | apply pw_below_drewN | apply below_drew1 | refine below_set ?_ GE168.out) | exact HB.out)⟩⟩
                                      · replace c23 := Bool.eq_false_iff.mpr c23
                                        subst c23
                                        have H1 : (some false) = some r := by rw [if_neg (show ¬ (false = true) by decide)] at H; exact H
                                        clear H
                                        have H := H1
                                        clear H1
                                        exact absurd (Option.some.inj H) (by rw [hT.out]; decide)
                                    · rw [if_neg c21] at H
                                      exact absurd H (by simp)
                                  · rw [if_neg c20] at H
                                    exact absurd H (by simp)
                                · rw [if_neg c19] at H
                                  exact absurd H (by simp)
                              · rw [if_neg c18] at H
                                have c18b0 : (((a0.extract 0 ((ji2) : Int).toNat).extract (((rd_T34 t161 x35_1).f3) : Int).toNat ((wrap64 (((rd_T34 t161 x35_1).f3) + (((rd_T34 t161 x35_1).f1).size : Int))) : Int).toNat).toList == ((rd_T34 t161 x35_1).f1).toList) = false := beq_eq_false_iff_ne.mpr c18
                                have c18b1 : (((a0.extract 0 ((ji2) : Int).toNat).extract (((rd_T34 t161 x35_1).f3) : Int).toNat ((wrap64 (((rd_T34 t161 x35_1).f3) + (((rd_T34 t161 x35_1).f1).size : Int))) : Int).toNat).toList != ((rd_T34 t161 x35_1).f1).toList) = true := bne_iff_ne.mpr c18
                                exact absurd (Option.some.inj H) (by rw [hT.out]; decide)
                            · rw [if_neg c17] at H
                              exact absurd H (by simp)
                          · rw [if_neg c16] at H
                            exact absurd H (by simp)
                        · rw [if_neg c15] at H
                          exact absurd H (by simp)
                · rw [if_neg c11] at H
                  exact absurd H (by simp)
              · rw [if_neg c10] at H
                exact absurd H (by simp)
            · rw [if_neg c9] at H
              have c9b0 : decide (x35_1 < (t161.length : Int)) = false := decide_eq_false c9
              clear c9
              replace H := Option.bind_eq_some_iff.mp H
              obtain ⟨t170, A300, H⟩ := H
              replace H : (if t170 = true then (if 0 ≤ x6_1 then (if x6_1 ≤ ((a0.extract 0 ((ji2) : Int).toNat).size : Int) then ((jigsawlaw05_empty.f k1 ((a0.extract 0 ((ji2) : Int).toNat).extract (x6_1 : Int).toNat (a0.extract 0 ((ji2) : Int).toNat).size)).bind fun t171 => (if t171 = true then (some (t162 == 0)) else (some false))) else (none)) else (none)) else (some false)) = some r := H
              have A30 := Aside0.mk A300
              clear A300
              by_cases c31 : t170 = true
              · subst c31
                have H1 : (if 0 ≤ x6_1 then (if x6_1 ≤ ((a0.extract 0 ((ji2) : Int).toNat).size : Int) then ((jigsawlaw05_empty.f k1 ((a0.extract 0 ((ji2) : Int).toNat).extract (x6_1 : Int).toNat (a0.extract 0 ((ji2) : Int).toNat).size)).bind fun t171 => (if t171 = true then (some (t162 == 0)) else (some false))) else (none)) else (none)) = some r := by rw [if_pos rfl] at H; exact H
                clear H
                have H := H1
                clear H1
                by_cases c32 : 0 ≤ x6_1
                · rw [if_pos c32] at H
                  have c32b0 := eq_true c32
                  have c32b1 : decide (0 ≤ x6_1) = true := decide_eq_true c32
                  clear c32
                  by_cases c33 : x6_1 ≤ ((a0.extract 0 ((ji2) : Int).toNat).size : Int)
                  · rw [if_pos c33] at H
                    try have c33z : x6_1 ≤ (ji2) := by have h_ : x6_1 ≤ ((a0.extract 0 ((ji2) : Int).toNat).size : Int) := c33; have h1_ : 0 ≤ (ji2) := (by first | omega | exact of_decide_eq_true (by assumption)); have h2_ : (ji2) ≤ (a0.size : Int) := (by first | omega | exact of_decide_eq_true (by assumption) | (have q_ := hji2_; split at q_ <;> omega)); have e_ : ((a0.extract 0 ((ji2) : Int).toNat).size : Int) = (ji2) := (by rw [ByteArray.size_extract]; omega); rw [e_] at h_; exact h_
                    try have c33d0 := eq_true c33z
                    try have c33d1 : decide (x6_1 ≤ (ji2)) = true := decide_eq_true c33z
                    try clear c33z
                    have c33b0 := eq_true c33
                    have c33b1 : decide (x6_1 ≤ ((a0.extract 0 ((ji2) : Int).toNat).size : Int)) = true := decide_eq_true c33
                    clear c33
                    replace H := Option.bind_eq_some_iff.mp H
                    obtain ⟨t171, A340, H⟩ := H
                    replace H : (if t171 = true then (some (t162 == 0)) else (some false)) = some r := H
                    have A34 := Aside0.mk A340
                    clear A340
                    by_cases c35 : t171 = true
                    · subst c35
                      have H1 : (some (t162 == 0)) = some r := by rw [if_pos rfl] at H; exact H
                      clear H
                      have H := H1
                      clear H1
                      obtain rfl := Option.some.inj H
                      go_wp2_with (first | ((with_reducible refine gate_callee (f := 9) rfl ?_); refine goesL_ (some 90) rfl rfl Tryd.func9 (by kernel_rfl) rfl #[] rfl (by (try simp only [List.map_toArray, List.map_cons, List.map_nil]); first | done | rfl | (simp only [List.length_drop, List.length_take]; rfl)) ?_; (with_reducible refine (jigsawlaw05_wakes.calls k1  true _ A30.out).mono ?_); rintro e w36 ⟨rfl, hb⟩; refine ⟨_, rfl, ?_⟩; have n0_ := Aside0.mk (Kd.R_below (by (with_reducible repeat (first | apply Kd.R_alloc | apply Kd.R_drewN | apply Kd.R_drew)); exact HO_33.out) hb); have n1_ := Aside0.mk (below_step (by repeat (first | (with_reducible first | exact HB.out | apply below_alloc | apply pw_below_drewN | apply below_drew1) | exact HB.out)) hb); clear HO_33; clear HB; have HO_33 := n0_; have HB := n1_; clear n0_ n1_; (try clear hb); (try clear hb2); (try clear hk); (try clear hi)) | (go_at_call 12; refine calls_of_args (args' := #[.string ((a0.extract 0 ((ji2) : Int).toNat).extract (x6_1 : Int).toNat (a0.extract 0 ((ji2) : Int).toNat).size)]) (by rw [show (a0.extract 0 ((ji2) : Int).toNat).size = ji2.toNat from by (have q_ := hji2_; rw [ByteArray.size_extract]; split at q_ <;> omega)]) ?_; (with_reducible refine (jigsawlaw05_empty.calls k1 ((a0.extract 0 ((ji2) : Int).toNat).extract (x6_1 : Int).toNat (a0.extract 0 ((ji2) : Int).toNat).size) true _ (hG.below HB.out) A34.out).mono ?_); rintro e w37 ⟨rfl, hb⟩; have n0_ := Aside0.mk (Kd.R_below (by (with_reducible repeat (first | apply Kd.R_alloc | apply Kd.R_drewN | apply Kd.R_drew)); exact HO_33.out) hb); have n1_ := Aside0.mk (below_step (by repeat (first | (with_reducible first | exact HB.out | apply below_alloc | apply pw_below_drewN | apply below_drew1) | exact HB.out)) hb); clear HO_33; clear HB; have HO_33 := n0_; have HB := n1_; clear n0_ n1_; (try clear hb); (try clear hb2); (try clear hk); (try clear hi)))
                      go_ret
                      exact ⟨by first | rfl | (simp [errW_none, errW_some] <;> rfl) | (simp only [← hji2]; first | rfl | (simp [errW_none, errW_some] <;> rfl)) | (simp [*, errW_none, errW_some] <;> rfl), by repeat (first | (with_reducible first | exact HB.out | apply below_alloc | apply pw_below_drewN | apply below_drew1) | exact HB.out)⟩
                    · replace c35 := Bool.eq_false_iff.mpr c35
                      subst c35
                      have H1 : (some false) = some r := by rw [if_neg (show ¬ (false = true) by decide)] at H; exact H
                      clear H
                      have H := H1
                      clear H1
                      exact absurd (Option.some.inj H) (by rw [hT.out]; decide)
                  · rw [if_neg c33] at H
                    exact absurd H (by simp)
                · rw [if_neg c32] at H
                  exact absurd H (by simp)
              · replace c31 := Bool.eq_false_iff.mpr c31
                subst c31
                have H1 : (some false) = some r := by rw [if_neg (show ¬ (false = true) by decide)] at H; exact H
                clear H
                have H := H1
                clear H1
                exact absurd (Option.some.inj H) (by rw [hT.out]; decide)
      · rw [if_neg c6] at H
        have c6b0 : (t163 == 0) = false := beq_eq_false_iff_ne.mpr c6
        have c6b1 : (t163 != 0) = true := bne_iff_ne.mpr c6
        replace H := Option.bind_eq_some_iff.mp H
        obtain ⟨t166, A380, H⟩ := H
        replace H : (if t166 = true then (if t162 ≥ 0 then (some (decide (t162 < ((a0.extract 0 ((ji2) : Int).toNat).size : Int)))) else (some false)) else (some false)) = some r := H
        have A38 := Aside0.mk A380
        clear A380
        by_cases c39 : t166 = true
        · subst c39
          have H1 : (if t162 ≥ 0 then (some (decide (t162 < ((a0.extract 0 ((ji2) : Int).toNat).size : Int)))) else (some false)) = some r := by rw [if_pos rfl] at H; exact H
          clear H
          have H := H1
          clear H1
          by_cases c40 : t162 ≥ 0
          · rw [if_pos c40] at H
            have c40b0 : decide (0 ≤ t162) = true := decide_eq_true c40
            clear c40
            obtain rfl := Option.some.inj H
            go_enter Tryd.func6, Tryd.ntmps6
            go_wp2_with (first | ((with_reducible refine gate_callee (f := 7) rfl ?_); refine goesL_ (some 16) rfl rfl Tryd.func7 (by kernel_rfl) rfl #[.string (a0.extract 0 ((ji2) : Int).toNat)] rfl (by (try simp only [List.map_toArray, List.map_cons, List.map_nil]); first | done | (simp only [hji2]; rfl) | rfl | (simp only [List.length_drop, List.length_take]; rfl)) ?_; (with_reducible refine (lex_Lex.calls k (a0.extract 0 ((ji2) : Int).toNat) t161 t162 t163 _ A5.out).mono ?_); rintro e w41 ⟨v164, rfl, ho0, hb⟩; refine ⟨_, rfl, ?_⟩; have n0_ := Aside0.mk (Kd.R_lower ho0 (below_size (by repeat (first | (with_reducible first | exact HB.out | apply below_alloc | apply pw_below_drewN | apply below_drew1) | exact HB.out)))); have n1_ := Aside0.mk (below_step (by repeat (first | (with_reducible first | exact HB.out | apply below_alloc | apply pw_below_drewN | apply below_drew1) | exact HB.out)) hb); clear HB; have HO165 := n0_; have HB := n1_; clear n0_ n1_; (try clear hb); (try clear hb2); (try clear hk); (try clear hi); (try clear ho0)) | ((with_reducible refine gate_callee (f := 9) rfl ?_); refine goesL_ (some 22) rfl rfl Tryd.func9 (by kernel_rfl) rfl #[] rfl (by (try simp only [List.map_toArray, List.map_cons, List.map_nil]); first | done | rfl | (simp only [List.length_drop, List.length_take]; rfl)) ?_; (with_reducible refine (jigsawlaw05_wakes.calls k  true _ A38.out).mono ?_); rintro e w42 ⟨rfl, hb⟩; refine ⟨_, rfl, ?_⟩; have n0_ := Aside0.mk (Kd.R_below (by (with_reducible repeat (first | apply Kd.R_alloc | apply Kd.R_drewN | apply Kd.R_drew)); exact HO165.out) hb); have n1_ := Aside0.mk (below_step (by repeat (first | (with_reducible first | exact HB.out | apply below_alloc | apply pw_below_drewN | apply below_drew1) | exact HB.out)) hb); clear HO165; clear HB; have HO165 := n0_; have HB := n1_; clear n0_ n1_; (try clear hb); (try clear hb2); (try clear hk); (try clear hi)))
            go_ret
            exact ⟨by first | rfl | (simp [errW_none, errW_some] <;> rfl) | (simp only [← hji2]; first | rfl | (simp [errW_none, errW_some] <;> rfl)) | (simp [*, errW_none, errW_some] <;> rfl), by repeat (first | (with_reducible first | exact HB.out | apply below_alloc | apply pw_below_drewN | apply below_drew1) | exact HB.out)⟩
          · rw [if_neg c40] at H
            have c40b0 : decide (0 ≤ t162) = false := decide_eq_false c40
            clear c40
            exact absurd (Option.some.inj H) (by rw [hT.out]; decide)
        · replace c39 := Bool.eq_false_iff.mpr c39
          subst c39
          have H1 : (some false) = some r := by rw [if_neg (show ¬ (false = true) by decide)] at H; exact H
          clear H
          have H := H1
          clear H1
          exact absurd (Option.some.inj H) (by rw [hT.out]; decide)
    · rw [if_neg c4] at H
      exact absurd H (by simp)
  · rw [if_neg c3] at H
    exact absurd H (by simp)

/-- THE ONE PURE STATEMENT of jigsawlaw05_LexPlaces: yours. -/
def jigsawlaw05_LexPlaces.Pure : Prop := ∀ (a0 : ByteArray), a0.size ≤ 140737488351232 → ∃ k, jigsawlaw05_LexPlaces.f k a0 = some true
theorem jigsawlaw05_LexPlaces.walk (P : jigsawlaw05_LexPlaces.Pure) (a0 : ByteArray) (w : World) (hG : Glob w) (w0 : a0.size ≤ 140737488351232) :
    Calls Tryd.prog 6 #[.string a0] w fun e w' => e = .returned (.bool true) ∧ Below w.heap.size w w' := by
  obtain ⟨k, h⟩ := P a0 w0
  refine (jigsawlaw05_LexPlaces.calls k a0 true w hG (Aside0.mk rfl) h).mono ?_
  rintro e w' ⟨rfl, hd⟩
  exact ⟨rfl, hd⟩

end Go.Proofs.YtkcjlagaaekhjaaDoor.X
