/- Written by a program of this session (wip/xprint.py) out of the translation: Go functions as Lean functions, and that the Go code comes to their answers; no condition but each theorem's own hypotheses. -/
import Derived.Test.YtkcjlagaaekhjaaDoorXcx0
namespace Go.Proofs.YtkcjlagaaekhjaaDoor.X
open Go.RowKit Go.Proofs.YtkcjlagaaekhjaaDoorW.PrintWords Go.Proofs.YtkcjlagaaekhjaaDoorW.PrintLast Go.Proofs.YtkcjlagaaekhjaaDoorW.PrintMore
attribute [local go_sem] max2_int min2_int max_two min_two max_three min_three max_four min_four   -- for this text's walks alone
set_option linter.unusedVariables false
set_option linter.unusedSimpArgs false
open Go.Proofs.YtkcjlagaaekhjaaDoor in attribute [local go_sem] Ext.cell_over

/-! ### strings_Repeat: function 11 -/

def strings_Repeat.f (a0 : ByteArray) (a1 : Int) : Option ByteArray := if 0 ≤ a1 ∧ a1 ≤ 9223372036854775807 ∧ a0.size * a1.toNat ≤ 140737488355328 then some ⟨(Lib.repeatL a0.data.toList a1.toNat).toArray⟩ else none
theorem strings_Repeat.calls (a0 : ByteArray) (a1 : Int) (r : ByteArray) (w : World) (h : strings_Repeat.f a0 a1 = some r) :
    Calls Tryd.prog 11 #[.string a0, .int .i64 a1] w fun e w' => e = .returned (.string r) ∧ Below w.heap.size w w' := by
  unfold strings_Repeat.f at h
  split at h
  · rename_i hh
    obtain rfl := Option.some.inj h
    obtain ⟨n, rfl⟩ : ∃ n : Nat, a1 = (n : Int) := ⟨a1.toNat, by omega⟩
    rw [Int.toNat_natCast] at hh ⊢
    exact Tryd.strings_Repeat a0 n w (by omega) hh.2.2
  · cases h


/-! ### jigsawlaw05_LexLong: function 5 -/
def jigsawlaw05_LexLong.f (k : Nat) (a0 : ByteArray) (a1 : Bool) : Option (Bool) := (strings_Repeat.f (⟨#[32]⟩ : ByteArray) (1048576 - (mn (a0.size : Int) 100))).bind fun t173 => (if 0 ≤ (mn (a0.size : Int) 100) then (if (mn (a0.size : Int) 100) ≤ (a0.size : Int) then (if t173.size + (a0.extract 0 ((mn (a0.size : Int) 100) : Int).toNat).size ≤ 9223372036854775807 then (if a1 = true then (if (t173 ++ (a0.extract 0 ((mn (a0.size : Int) 100) : Int).toNat)).size + 1 ≤ 9223372036854775807 then ((lex_Lex.f k ((t173 ++ (a0.extract 0 ((mn (a0.size : Int) 100) : Int).toNat)) ++ (⟨#[120]⟩ : ByteArray))).bind fun bt174 => ((jigsawlaw05_wakes.f k).bind fun t179 => (if t179 = true then (if bt174.2.2 = 13 then (some (bt174.2.1 == 1048576)) else (some false)) else (some false)))) else (none)) else ((lex_Lex.f k (t173 ++ (a0.extract 0 ((mn (a0.size : Int) 100) : Int).toNat))).bind fun bt180 => ((jigsawref05_Lex.f k (a0.extract 0 ((mn (a0.size : Int) 100) : Int).toNat)).bind fun bt185 => ((jigsawlaw05_wakes.f k).bind fun t190 => (if t190 = true then (if bt180.2.2 = bt185.2.2 then (some ((bt180.1.length : Int) == (bt185.1.length : Int))) else (some false)) else (some false)))))) else (none)) else (none)) else (none))
theorem jigsawlaw05_LexLong.mono : ∀ a0 a1 k, LeO (jigsawlaw05_LexLong.f k a0 a1) (jigsawlaw05_LexLong.f (k + 1) a0 a1) := by
  intro a0 a1 k
  unfold jigsawlaw05_LexLong.f
  repeat' first
      | (with_reducible exact jigsawlaw05_wakes.mono _)
      | (with_reducible exact jigsawref05_Lex.mono _ _)
      | (with_reducible exact lex_Lex.mono _ _)
      | (with_reducible exact LeO.refl _)
      | (with_reducible exact LeO.none _)
      | (with_reducible refine LeO.ite ?_ ?_)
      | (with_reducible refine LeO.bind ?_ (fun _ => ?_))
      | exact jigsawlaw05_wakes.mono _
      | exact jigsawref05_Lex.mono _ _
      | exact lex_Lex.mono _ _
      | exact LeO.none _
      | refine LeO.ite ?_ ?_
      | refine LeO.bind ?_ (fun _ => ?_)
def jigsawlaw05_LexLong.T2 : Bool × List (List Nat × List Nat) := (true, [([], []), ([0], [0]), ([], []), ([], []), ([3], [3]), ([4], [4]), ([2, 5], [2, 5]), ([1, 6], [1, 6]), ([7, 1, 0, 1, 2, 3, 4, 5, 6, 7], [7])])
def jigsawlaw05_LexLong.B2 : List Nat := [0, 1, 0, 0, 8, 24, 60, 127, 255]
theorem jigsawlaw05_LexLong.tab2 : rtab .any (opsOf Tryd.f5 2) = jigsawlaw05_LexLong.T2 := by kernel_rfl
theorem jigsawlaw05_LexLong.bits2 : waitsOk jigsawlaw05_LexLong.T2.2 jigsawlaw05_LexLong.B2 = true := by kernel_rfl
set_option maxHeartbeats 8000000 in
set_option maxRecDepth 100000 in
theorem jigsawlaw05_LexLong.calls (k : Nat) (a0 : ByteArray) (a1 : Bool) (r : Bool) (w : World) (hT : Aside0 (r = true)) (h : jigsawlaw05_LexLong.f k a0 a1 = some r) :
    Calls Tryd.prog 5 #[.string a0, .bool a1] w fun e w' => e = .returned (.bool r) ∧ Below w.heap.size w w' := by
  have HB := Aside0.mk (Below.refl w.heap.size w)
  have H : ((strings_Repeat.f (⟨#[32]⟩ : ByteArray) (1048576 - (mn (a0.size : Int) 100))).bind fun t173 => (if 0 ≤ (mn (a0.size : Int) 100) then (if (mn (a0.size : Int) 100) ≤ (a0.size : Int) then (if t173.size + (a0.extract 0 ((mn (a0.size : Int) 100) : Int).toNat).size ≤ 9223372036854775807 then (if a1 = true then (if (t173 ++ (a0.extract 0 ((mn (a0.size : Int) 100) : Int).toNat)).size + 1 ≤ 9223372036854775807 then ((lex_Lex.f k ((t173 ++ (a0.extract 0 ((mn (a0.size : Int) 100) : Int).toNat)) ++ (⟨#[120]⟩ : ByteArray))).bind fun bt174 => ((jigsawlaw05_wakes.f k).bind fun t179 => (if t179 = true then (if bt174.2.2 = 13 then (some (bt174.2.1 == 1048576)) else (some false)) else (some false)))) else (none)) else ((lex_Lex.f k (t173 ++ (a0.extract 0 ((mn (a0.size : Int) 100) : Int).toNat))).bind fun bt180 => ((jigsawref05_Lex.f k (a0.extract 0 ((mn (a0.size : Int) 100) : Int).toNat)).bind fun bt185 => ((jigsawlaw05_wakes.f k).bind fun t190 => (if t190 = true then (if bt180.2.2 = bt185.2.2 then (some ((bt180.1.length : Int) == (bt185.1.length : Int))) else (some false)) else (some false)))))) else (none)) else (none)) else (none))) = some r := h
  clear h
  obtain ⟨ji3, hji3⟩ : ∃ j_ : Int, (mn (a0.size : Int) 100) = j_ := ⟨_, rfl⟩
  replace H : ((strings_Repeat.f (⟨#[32]⟩ : ByteArray) (1048576 - (ji3))).bind fun t173 => (if 0 ≤ (ji3) then (if (ji3) ≤ (a0.size : Int) then (if t173.size + (a0.extract 0 ((ji3) : Int).toNat).size ≤ 9223372036854775807 then (if a1 = true then (if (t173 ++ (a0.extract 0 ((ji3) : Int).toNat)).size + 1 ≤ 9223372036854775807 then ((lex_Lex.f k ((t173 ++ (a0.extract 0 ((ji3) : Int).toNat)) ++ (⟨#[120]⟩ : ByteArray))).bind fun bt174 => ((jigsawlaw05_wakes.f k).bind fun t179 => (if t179 = true then (if bt174.2.2 = 13 then (some (bt174.2.1 == 1048576)) else (some false)) else (some false)))) else (none)) else ((lex_Lex.f k (t173 ++ (a0.extract 0 ((ji3) : Int).toNat))).bind fun bt180 => ((jigsawref05_Lex.f k (a0.extract 0 ((ji3) : Int).toNat)).bind fun bt185 => ((jigsawlaw05_wakes.f k).bind fun t190 => (if t190 = true then (if bt180.2.2 = bt185.2.2 then (some ((bt180.1.length : Int) == (bt185.1.length : Int))) else (some false)) else (some false)))))) else (none)) else (none)) else (none))) = some r := by first | (rw [hji3] at H; exact H) | (simp only [hji3] at H ⊢; exact H)
  (try (have hji3h : ji3 ≤ 100 := by (rw [← hji3]; unfold mn; (repeat' split) <;> omega)))
  (try (have hji3g : ji3 ≤ 64 := by omega))
  (try (have hji3l : 0 ≤ ji3 := by (rw [← hji3]; unfold mn; (repeat' split) <;> omega)))
  (try (have hji3m : 0 ≤ ji3 := by omega))
  have hji3_ : (if 100 < (a0.size : Int) then 100 else (a0.size : Int)) = ji3 := hji3
  replace H := Option.bind_eq_some_iff.mp H
  obtain ⟨t173, A40, H⟩ := H
  replace H : (if 0 ≤ (ji3) then (if (ji3) ≤ (a0.size : Int) then (if t173.size + (a0.extract 0 ((ji3) : Int).toNat).size ≤ 9223372036854775807 then (if a1 = true then (if (t173 ++ (a0.extract 0 ((ji3) : Int).toNat)).size + 1 ≤ 9223372036854775807 then ((lex_Lex.f k ((t173 ++ (a0.extract 0 ((ji3) : Int).toNat)) ++ (⟨#[120]⟩ : ByteArray))).bind fun bt174 => ((jigsawlaw05_wakes.f k).bind fun t179 => (if t179 = true then (if bt174.2.2 = 13 then (some (bt174.2.1 == 1048576)) else (some false)) else (some false)))) else (none)) else ((lex_Lex.f k (t173 ++ (a0.extract 0 ((ji3) : Int).toNat))).bind fun bt180 => ((jigsawref05_Lex.f k (a0.extract 0 ((ji3) : Int).toNat)).bind fun bt185 => ((jigsawlaw05_wakes.f k).bind fun t190 => (if t190 = true then (if bt180.2.2 = bt185.2.2 then (some ((bt180.1.length : Int) == (bt185.1.length : Int))) else (some false)) else (some false)))))) else (none)) else (none)) else (none)) = some r := H
  have A4 := Aside0.mk A40
  clear A40
  by_cases c5 : 0 ≤ (ji3)
  · rw [if_pos c5] at H
    have c5b0 := eq_true c5
    have c5b1 : decide (0 ≤ (ji3)) = true := decide_eq_true c5
    clear c5
    by_cases c6 : (ji3) ≤ (a0.size : Int)
    · rw [if_pos c6] at H
      have c6b0 := eq_true c6
      have c6b1 : decide ((ji3) ≤ (a0.size : Int)) = true := decide_eq_true c6
      clear c6
      by_cases c7 : t173.size + (a0.extract 0 ((ji3) : Int).toNat).size ≤ 9223372036854775807
      · rw [if_pos c7] at H
        have c7b0 := eq_true c7
        have c7b1 : decide (t173.size + (a0.extract 0 ((ji3) : Int).toNat).size ≤ 9223372036854775807) = true := decide_eq_true c7
        try have c7b2 : (9223372036854775807 < t173.size + (a0.extract 0 ((ji3) : Int).toNat).size) = False := eq_false (Nat.not_lt.2 c7)
        try have c7b3 : (9223372036854775807 < t173.size + (ji3).toNat) = False := eq_false (by have h_ := Nat.not_lt.2 c7; have h1_ : 0 ≤ (ji3) := of_decide_eq_true (by first | (with_reducible assumption) | assumption); have h2_ : (ji3) ≤ (a0.size : Int) := of_decide_eq_true (by first | (with_reducible assumption) | assumption); simp only [ByteArray.size_append, ByteArray.size_extract] at h_; omega)
        by_cases c8 : a1 = true
        · subst c8
          have H1 : (if (t173 ++ (a0.extract 0 ((ji3) : Int).toNat)).size + 1 ≤ 9223372036854775807 then ((lex_Lex.f k ((t173 ++ (a0.extract 0 ((ji3) : Int).toNat)) ++ (⟨#[120]⟩ : ByteArray))).bind fun bt174 => ((jigsawlaw05_wakes.f k).bind fun t179 => (if t179 = true then (if bt174.2.2 = 13 then (some (bt174.2.1 == 1048576)) else (some false)) else (some false)))) else (none)) = some r := by rw [if_pos rfl] at H; exact H
          clear H
          have H := H1
          clear H1
          by_cases c9 : (t173 ++ (a0.extract 0 ((ji3) : Int).toNat)).size + 1 ≤ 9223372036854775807
          · rw [if_pos c9] at H
            have c9b0 := eq_true c9
            have c9b1 : decide ((t173 ++ (a0.extract 0 ((ji3) : Int).toNat)).size + 1 ≤ 9223372036854775807) = true := decide_eq_true c9
            try have c9b2 : (9223372036854775807 < (t173 ++ (a0.extract 0 ((ji3) : Int).toNat)).size + 1) = False := eq_false (Nat.not_lt.2 c9)
            try have c9b3 : (9223372036854775807 < (t173.size + (ji3).toNat) + 1) = False := eq_false (by have h_ := Nat.not_lt.2 c9; have h1_ : 0 ≤ (ji3) := of_decide_eq_true (by first | (with_reducible assumption) | assumption); have h2_ : (ji3) ≤ (a0.size : Int) := of_decide_eq_true (by first | (with_reducible assumption) | assumption); simp only [ByteArray.size_append, ByteArray.size_extract] at h_; omega)
            replace H := Option.bind_eq_some_iff.mp H
            obtain ⟨⟨t174, t175, t176⟩, A100, H⟩ := H
            replace H : ((jigsawlaw05_wakes.f k).bind fun t179 => (if t179 = true then (if t176 = 13 then (some (t175 == 1048576)) else (some false)) else (some false))) = some r := H
            have A10 := Aside0.mk A100
            clear A100
            replace H := Option.bind_eq_some_iff.mp H
            obtain ⟨t179, A110, H⟩ := H
            replace H : (if t179 = true then (if t176 = 13 then (some (t175 == 1048576)) else (some false)) else (some false)) = some r := H
            have A11 := Aside0.mk A110
            clear A110
            by_cases c12 : t179 = true
            · subst c12
              have H1 : (if t176 = 13 then (some (t175 == 1048576)) else (some false)) = some r := by rw [if_pos rfl] at H; exact H
              clear H
              have H := H1
              clear H1
              by_cases c13 : t176 = 13
              · rw [if_pos c13] at H
                have c13b0 : (t176 == 13) = true := beq_iff_eq.mpr c13
                have c13b1 : (t176 != 13) = false := bne_eq_false_iff_eq.mpr c13
                clear c13
                obtain rfl := Option.some.inj H
                go_enter Tryd.func5, Tryd.ntmps5
                try go_wp2
                have n0_ := Aside0.mk (below_drew1 HB.out)
                clear HB
                have HB := n0_
                clear n0_
                refine start_ (n := 9) (S := fun w' => True) (ds := []) #[false, false, false, false, false, false, false, false, false] (by kernel_rfl) rfl rfl trivial (fun hHeld => ?_); refine with_tabW jigsawlaw05_LexLong.tab2 jigsawlaw05_LexLong.bits2 (fun HT_ HW_ => ?_)
                generalize w.drew = w14 at HB hHeld ⊢
                refine pure_ (i := 0) (N := some 20) (v := ?_) (a' := ?_) #[true, false, false, false, false, false, false, false, false] rfl rfl (any_of HT_.out (by kernel_rfl)) (fun _ _ _ h => h) (Or.inl ⟨by rfl, ?_⟩) ?_ ?_
                rotate_left
                · intro w'
                  go_simp
                  with_reducible rfl
                rotate_left
                · simp only [Act.put, List.setIfInBounds_toArray, List.set_cons_zero, List.set_cons_succ, i64_w, i32_w]
                  rfl
                refine pure_ (i := 2) (N := some 22) (v := ?_) (a' := ?_) #[true, false, true, false, false, false, false, false, false] rfl rfl (any_of HT_.out (by kernel_rfl)) (fun _ _ _ h => h) (Or.inl ⟨by rfl, ?_⟩) ?_ ?_
                rotate_left
                · intro w'
                  go_simp
                  with_reducible rfl
                rotate_left
                · simp only [Act.put, List.setIfInBounds_toArray, List.set_cons_zero, List.set_cons_succ, i64_w, i32_w]
                  rfl
                refine pure_ (i := 3) (N := some 23) (v := ?_) (a' := ?_) #[true, false, true, true, false, false, false, false, false] rfl rfl (any_of HT_.out (by kernel_rfl)) (fun _ _ _ h => h) (Or.inl ⟨by rfl, ?_⟩) ?_ ?_
                rotate_left
                · intro w'
                  go_simp
                  with_reducible rfl
                rotate_left
                · simp only [Act.put, List.setIfInBounds_toArray, List.set_cons_zero, List.set_cons_succ, i64_w, i32_w]
                  rfl
                refine pure_ (i := 4) (N := some 24) (v := ?_) (a' := ?_) #[true, false, true, true, true, false, false, false, false] rfl rfl (any_of HT_.out (by kernel_rfl)) (fun _ _ _ h => h) (Or.inl ⟨by rfl, ?_⟩) ?_ ?_
                rotate_left
                · intro w'
                  go_simp
                  with_reducible rfl
                rotate_left
                · simp only [Act.put, List.setIfInBounds_toArray, List.set_cons_zero, List.set_cons_succ, i64_w, i32_w]
                  rfl
                refine pure_ (i := 5) (N := some 25) (v := ?_) (a' := ?_) #[true, false, true, true, true, true, false, false, false] rfl rfl (any_of HT_.out (by kernel_rfl)) (fun _ _ _ h => h) (Or.inl ⟨by rfl, ?_⟩) ?_ ?_
                rotate_left
                · intro w'
                  go_simp
                  with_reducible rfl
                rotate_left
                · simp only [Act.put, List.setIfInBounds_toArray, List.set_cons_zero, List.set_cons_succ, i64_w, i32_w]
                  rfl
                refine pure_ (i := 6) (N := some 26) (v := ?_) (a' := ?_) #[true, false, true, true, true, true, true, false, false] rfl rfl (any_of HT_.out (by kernel_rfl)) (fun _ _ _ h => h) (Or.inl ⟨by rfl, ?_⟩) ?_ ?_
                rotate_left
                · intro w'
                  go_simp
                  with_reducible rfl
                rotate_left
                · simp only [Act.put, List.setIfInBounds_toArray, List.set_cons_zero, List.set_cons_succ, i64_w, i32_w]
                  rfl
                refine one_ (i := 1) (N := some 21) #[true, true, true, true, true, true, true, false, false] rfl rfl (one_of HT_.out (by kernel_rfl)) (by decide) (fun K hK => ?_)
                refine goes_ Tryd.func11 (by kernel_rfl) rfl #[.string (⟨#[32]⟩ : ByteArray), .int .i64 (1048576 - (ji3))] (by rfl) rfl rfl (by (try simp only [List.map_toArray, List.map_cons, List.map_nil]); first | done | (simp only [hji3]; rfl) | rfl | (simp only [List.length_drop, List.length_take]; rfl)) ?_
                with_reducible refine (strings_Repeat.calls (⟨#[32]⟩ : ByteArray) (1048576 - (ji3)) t173 _ A4.out).mono ?_
                rintro e w15 ⟨rfl, hb⟩
                refine ⟨_, rfl, ?_⟩
                have n0_ := Aside0.mk (below_step (by repeat (first | (with_reducible first | exact HB.out | apply below_alloc | apply pw_below_drewN | apply below_drew1) | exact HB.out)) hb)
                clear HB
                have HB := n0_
                clear n0_
                (try clear hb)
                (try clear hb2)
                (try clear hk)
                (try clear hi)
                refine hK.out _ _ trivial (fun hHeld => ?_)
                clear hK K
                refine norm_ (a' := ?_) ?_ ?_
                rotate_left
                · show Act.put _ (some 21) _ = _
                  simp only [Act.put, List.setIfInBounds_toArray, List.set_cons_zero, List.set_cons_succ, i64_w, i32_w]
                  rfl
                refine pure_ (i := 7) (N := some 27) (v := ?_) (a' := ?_) #[true, true, true, true, true, true, true, true, false] rfl rfl (any_of HT_.out (by kernel_rfl)) (fun _ _ _ h => h) (Or.inl ⟨by rfl, ?_⟩) ?_ ?_
                rotate_left
                · intro w'
                  go_simp
                  with_reducible rfl
                rotate_left
                · simp only [Act.put, List.setIfInBounds_toArray, List.set_cons_zero, List.set_cons_succ, i64_w, i32_w]
                  rfl
                refine pure_ (i := 8) (N := some 6) (v := ?_) (a' := ?_) #[true, true, true, true, true, true, true, true, true] rfl rfl (any_of HT_.out (by kernel_rfl)) (fun _ _ _ h => h) (Or.inl ⟨by rfl, ?_⟩) ?_ ?_
                rotate_left
                · intro w'
                  go_simp
                  with_reducible rfl
                rotate_left
                · simp only [Act.put, List.setIfInBounds_toArray, List.set_cons_zero, List.set_cons_succ, i64_w, i32_w]
                  rfl
                refine done_ (done_of HT_.out (by kernel_rfl)) ?_
                try go_wp2_with (first | ((with_reducible refine gate_callee (f := 7) rfl ?_); refine goesL_ (some 62) rfl rfl Tryd.func7 (by kernel_rfl) rfl #[.string ((t173 ++ (a0.extract 0 ((ji3) : Int).toNat)) ++ (⟨#[120]⟩ : ByteArray))] rfl (by (try simp only [List.map_toArray, List.map_cons, List.map_nil]); first | done | (simp only [hji3]; rfl) | rfl | (simp only [List.length_drop, List.length_take]; rfl)) ?_; (with_reducible refine (lex_Lex.calls k ((t173 ++ (a0.extract 0 ((ji3) : Int).toNat)) ++ (⟨#[120]⟩ : ByteArray)) t174 t175 t176 _ A10.out).mono ?_); rintro e w16 ⟨v177, rfl, ho0, hb⟩; refine ⟨_, rfl, ?_⟩; have n0_ := Aside0.mk (Kd.R_lower ho0 (below_size (by repeat (first | (with_reducible first | exact HB.out | apply below_alloc | apply pw_below_drewN | apply below_drew1) | exact HB.out)))); have n1_ := Aside0.mk (below_step (by repeat (first | (with_reducible first | exact HB.out | apply below_alloc | apply pw_below_drewN | apply below_drew1) | exact HB.out)) hb); clear HB; have HO178 := n0_; have HB := n1_; clear n0_ n1_; (try clear hb); (try clear hb2); (try clear hk); (try clear hi); (try clear ho0)) | ((with_reducible refine gate_callee (f := 9) rfl ?_); refine goesL_ (some 66) rfl rfl Tryd.func9 (by kernel_rfl) rfl #[] rfl (by (try simp only [List.map_toArray, List.map_cons, List.map_nil]); first | done | rfl | (simp only [List.length_drop, List.length_take]; rfl)) ?_; (with_reducible refine (jigsawlaw05_wakes.calls k  true _ A11.out).mono ?_); rintro e w17 ⟨rfl, hb⟩; refine ⟨_, rfl, ?_⟩; have n0_ := Aside0.mk (Kd.R_below (by (with_reducible repeat (first | apply Kd.R_alloc | apply Kd.R_drewN | apply Kd.R_drew)); exact HO178.out) hb); have n1_ := Aside0.mk (below_step (by repeat (first | (with_reducible first | exact HB.out | apply below_alloc | apply pw_below_drewN | apply below_drew1) | exact HB.out)) hb); clear HO178; clear HB; have HO178 := n0_; have HB := n1_; clear n0_ n1_; (try clear hb); (try clear hb2); (try clear hk); (try clear hi)))
                go_ret
                exact ⟨by first | rfl | (simp [errW_none, errW_some] <;> rfl) | (simp only [← hji3]; first | rfl | (simp [errW_none, errW_some] <;> rfl)) | (simp [*, errW_none, errW_some] <;> rfl), by repeat (first | (with_reducible first | exact HB.out | apply below_alloc | apply pw_below_drewN | apply below_drew1) | exact HB.out)⟩
              · rw [if_neg c13] at H
                have c13b0 : (t176 == 13) = false := beq_eq_false_iff_ne.mpr c13
                have c13b1 : (t176 != 13) = true := bne_iff_ne.mpr c13
                exact absurd (Option.some.inj H) (by rw [hT.out]; decide)
            · replace c12 := Bool.eq_false_iff.mpr c12
              subst c12
              have H1 : (some false) = some r := by rw [if_neg (show ¬ (false = true) by decide)] at H; exact H
              clear H
              have H := H1
              clear H1
              exact absurd (Option.some.inj H) (by rw [hT.out]; decide)
          · rw [if_neg c9] at H
            exact absurd H (by simp)
        · replace c8 := Bool.eq_false_iff.mpr c8
          subst c8
          have H1 : ((lex_Lex.f k (t173 ++ (a0.extract 0 ((ji3) : Int).toNat))).bind fun bt180 => ((jigsawref05_Lex.f k (a0.extract 0 ((ji3) : Int).toNat)).bind fun bt185 => ((jigsawlaw05_wakes.f k).bind fun t190 => (if t190 = true then (if bt180.2.2 = bt185.2.2 then (some ((bt180.1.length : Int) == (bt185.1.length : Int))) else (some false)) else (some false))))) = some r := by rw [if_neg (show ¬ (false = true) by decide)] at H; exact H
          clear H
          have H := H1
          clear H1
          replace H := Option.bind_eq_some_iff.mp H
          obtain ⟨⟨t180, t181, t182⟩, A180, H⟩ := H
          replace H : ((jigsawref05_Lex.f k (a0.extract 0 ((ji3) : Int).toNat)).bind fun bt185 => ((jigsawlaw05_wakes.f k).bind fun t190 => (if t190 = true then (if t182 = bt185.2.2 then (some ((t180.length : Int) == (bt185.1.length : Int))) else (some false)) else (some false)))) = some r := H
          have A18 := Aside0.mk A180
          clear A180
          have c19b0 := eq_true (of_decide_eq_true (by first | (with_reducible assumption) | assumption) : 0 ≤ (ji3))
          have c20b0 := eq_true (of_decide_eq_true (by first | (with_reducible assumption) | assumption) : (ji3) ≤ (a0.size : Int))
          replace H := Option.bind_eq_some_iff.mp H
          obtain ⟨⟨t185, t186, t187⟩, A210, H⟩ := H
          replace H : ((jigsawlaw05_wakes.f k).bind fun t190 => (if t190 = true then (if t182 = t187 then (some ((t180.length : Int) == (t185.length : Int))) else (some false)) else (some false))) = some r := H
          have A21 := Aside0.mk A210
          clear A210
          replace H := Option.bind_eq_some_iff.mp H
          obtain ⟨t190, A220, H⟩ := H
          replace H : (if t190 = true then (if t182 = t187 then (some ((t180.length : Int) == (t185.length : Int))) else (some false)) else (some false)) = some r := H
          have A22 := Aside0.mk A220
          clear A220
          by_cases c23 : t190 = true
          · subst c23
            have H1 : (if t182 = t187 then (some ((t180.length : Int) == (t185.length : Int))) else (some false)) = some r := by rw [if_pos rfl] at H; exact H
            clear H
            have H := H1
            clear H1
            by_cases c24 : t182 = t187
            · rw [if_pos c24] at H
              have c24b0 : (t182 == t187) = true := beq_iff_eq.mpr c24
              have c24b1 : (t182 != t187) = false := bne_eq_false_iff_eq.mpr c24
              clear c24
              obtain rfl := Option.some.inj H
              go_enter Tryd.func5, Tryd.ntmps5
              try go_wp2
              have n0_ := Aside0.mk (below_drew1 HB.out)
              clear HB
              have HB := n0_
              clear n0_
              refine start_ (n := 9) (S := fun w' => True) (ds := []) #[false, false, false, false, false, false, false, false, false] (by kernel_rfl) rfl rfl trivial (fun hHeld => ?_); refine with_tabW jigsawlaw05_LexLong.tab2 jigsawlaw05_LexLong.bits2 (fun HT_ HW_ => ?_)
              generalize w.drew = w25 at HB hHeld ⊢
              refine pure_ (i := 0) (N := some 20) (v := ?_) (a' := ?_) #[true, false, false, false, false, false, false, false, false] rfl rfl (any_of HT_.out (by kernel_rfl)) (fun _ _ _ h => h) (Or.inl ⟨by rfl, ?_⟩) ?_ ?_
              rotate_left
              · intro w'
                go_simp
                with_reducible rfl
              rotate_left
              · simp only [Act.put, List.setIfInBounds_toArray, List.set_cons_zero, List.set_cons_succ, i64_w, i32_w]
                rfl
              refine pure_ (i := 2) (N := some 22) (v := ?_) (a' := ?_) #[true, false, true, false, false, false, false, false, false] rfl rfl (any_of HT_.out (by kernel_rfl)) (fun _ _ _ h => h) (Or.inl ⟨by rfl, ?_⟩) ?_ ?_
              rotate_left
              · intro w'
                go_simp
                with_reducible rfl
              rotate_left
              · simp only [Act.put, List.setIfInBounds_toArray, List.set_cons_zero, List.set_cons_succ, i64_w, i32_w]
                rfl
              refine pure_ (i := 3) (N := some 23) (v := ?_) (a' := ?_) #[true, false, true, true, false, false, false, false, false] rfl rfl (any_of HT_.out (by kernel_rfl)) (fun _ _ _ h => h) (Or.inl ⟨by rfl, ?_⟩) ?_ ?_
              rotate_left
              · intro w'
                go_simp
                with_reducible rfl
              rotate_left
              · simp only [Act.put, List.setIfInBounds_toArray, List.set_cons_zero, List.set_cons_succ, i64_w, i32_w]
                rfl
              refine pure_ (i := 4) (N := some 24) (v := ?_) (a' := ?_) #[true, false, true, true, true, false, false, false, false] rfl rfl (any_of HT_.out (by kernel_rfl)) (fun _ _ _ h => h) (Or.inl ⟨by rfl, ?_⟩) ?_ ?_
              rotate_left
              · intro w'
                go_simp
                with_reducible rfl
              rotate_left
              · simp only [Act.put, List.setIfInBounds_toArray, List.set_cons_zero, List.set_cons_succ, i64_w, i32_w]
                rfl
              refine pure_ (i := 5) (N := some 25) (v := ?_) (a' := ?_) #[true, false, true, true, true, true, false, false, false] rfl rfl (any_of HT_.out (by kernel_rfl)) (fun _ _ _ h => h) (Or.inl ⟨by rfl, ?_⟩) ?_ ?_
              rotate_left
              · intro w'
                go_simp
                with_reducible rfl
              rotate_left
              · simp only [Act.put, List.setIfInBounds_toArray, List.set_cons_zero, List.set_cons_succ, i64_w, i32_w]
                rfl
              refine pure_ (i := 6) (N := some 26) (v := ?_) (a' := ?_) #[true, false, true, true, true, true, true, false, false] rfl rfl (any_of HT_.out (by kernel_rfl)) (fun _ _ _ h => h) (Or.inl ⟨by rfl, ?_⟩) ?_ ?_
              rotate_left
              · intro w'
                go_simp
                with_reducible rfl
              rotate_left
              · simp only [Act.put, List.setIfInBounds_toArray, List.set_cons_zero, List.set_cons_succ, i64_w, i32_w]
                rfl
              refine one_ (i := 1) (N := some 21) #[true, true, true, true, true, true, true, false, false] rfl rfl (one_of HT_.out (by kernel_rfl)) (by decide) (fun K hK => ?_)
              refine goes_ Tryd.func11 (by kernel_rfl) rfl #[.string (⟨#[32]⟩ : ByteArray), .int .i64 (1048576 - (ji3))] (by rfl) rfl rfl (by (try simp only [List.map_toArray, List.map_cons, List.map_nil]); first | done | (simp only [hji3]; rfl) | rfl | (simp only [List.length_drop, List.length_take]; rfl)) ?_
              with_reducible refine (strings_Repeat.calls (⟨#[32]⟩ : ByteArray) (1048576 - (ji3)) t173 _ A4.out).mono ?_
              rintro e w26 ⟨rfl, hb⟩
              refine ⟨_, rfl, ?_⟩
              have n0_ := Aside0.mk (below_step (by repeat (first | (with_reducible first | exact HB.out | apply below_alloc | apply pw_below_drewN | apply below_drew1) | exact HB.out)) hb)
              clear HB
              have HB := n0_
              clear n0_
              (try clear hb)
              (try clear hb2)
              (try clear hk)
              (try clear hi)
              refine hK.out _ _ trivial (fun hHeld => ?_)
              clear hK K
              refine norm_ (a' := ?_) ?_ ?_
              rotate_left
              · show Act.put _ (some 21) _ = _
                simp only [Act.put, List.setIfInBounds_toArray, List.set_cons_zero, List.set_cons_succ, i64_w, i32_w]
                rfl
              refine pure_ (i := 7) (N := some 27) (v := ?_) (a' := ?_) #[true, true, true, true, true, true, true, true, false] rfl rfl (any_of HT_.out (by kernel_rfl)) (fun _ _ _ h => h) (Or.inl ⟨by rfl, ?_⟩) ?_ ?_
              rotate_left
              · intro w'
                go_simp
                with_reducible rfl
              rotate_left
              · simp only [Act.put, List.setIfInBounds_toArray, List.set_cons_zero, List.set_cons_succ, i64_w, i32_w]
                rfl
              refine pure_ (i := 8) (N := some 6) (v := ?_) (a' := ?_) #[true, true, true, true, true, true, true, true, true] rfl rfl (any_of HT_.out (by kernel_rfl)) (fun _ _ _ h => h) (Or.inl ⟨by rfl, ?_⟩) ?_ ?_
              rotate_left
              · intro w'
                go_simp
                with_reducible rfl
              rotate_left
              · simp only [Act.put, List.setIfInBounds_toArray, List.set_cons_zero, List.set_cons_succ, i64_w, i32_w]
                rfl
              refine done_ (done_of HT_.out (by kernel_rfl)) ?_
              try go_wp2_with (first | ((with_reducible refine gate_callee (f := 7) rfl ?_); refine goesL_ (some 32) rfl rfl Tryd.func7 (by kernel_rfl) rfl #[.string (t173 ++ (a0.extract 0 ((ji3) : Int).toNat))] rfl (by (try simp only [List.map_toArray, List.map_cons, List.map_nil]); first | done | (simp only [hji3]; rfl) | rfl | (simp only [List.length_drop, List.length_take]; rfl)) ?_; (with_reducible refine (lex_Lex.calls k (t173 ++ (a0.extract 0 ((ji3) : Int).toNat)) t180 t181 t182 _ A18.out).mono ?_); rintro e w27 ⟨v183, rfl, ho0, hb⟩; refine ⟨_, rfl, ?_⟩; have n0_ := Aside0.mk (Kd.R_lower ho0 (below_size (by repeat (first | (with_reducible first | exact HB.out | apply below_alloc | apply pw_below_drewN | apply below_drew1) | exact HB.out)))); have n1_ := Aside0.mk (below_step (by repeat (first | (with_reducible first | exact HB.out | apply below_alloc | apply pw_below_drewN | apply below_drew1) | exact HB.out)) hb); clear HB; have HO184 := n0_; have HB := n1_; clear n0_ n1_; (try clear hb); (try clear hb2); (try clear hk); (try clear hi); (try clear ho0)) | ((with_reducible refine gate_callee (f := 8) rfl ?_); refine goesL_ (some 42) rfl rfl Tryd.func8 (by kernel_rfl) rfl #[.string (a0.extract 0 ((ji3) : Int).toNat)] rfl (by (try simp only [List.map_toArray, List.map_cons, List.map_nil]); first | done | (simp only [hji3]; rfl) | rfl | (simp only [List.length_drop, List.length_take]; rfl)) ?_; (with_reducible refine (jigsawref05_Lex.calls k (a0.extract 0 ((ji3) : Int).toNat) t185 t186 t187 _ A21.out).mono ?_); rintro e w28 ⟨v188, rfl, ho0, hb⟩; refine ⟨_, rfl, ?_⟩; have n0_ := Aside0.mk (Kd.R_below (by (with_reducible repeat (first | apply Kd.R_alloc | apply Kd.R_drewN | apply Kd.R_drew)); exact HO184.out) hb); have n1_ := Aside0.mk (Kd.R_lower ho0 (below_size (by repeat (first | (with_reducible first | exact HB.out | apply below_alloc | apply pw_below_drewN | apply below_drew1) | exact HB.out)))); have n2_ := Aside0.mk (below_step (by repeat (first | (with_reducible first | exact HB.out | apply below_alloc | apply pw_below_drewN | apply below_drew1) | exact HB.out)) hb); clear HO184; clear HB; have HO184 := n0_; have HO189 := n1_; have HB := n2_; clear n0_ n1_ n2_; (try clear hb); (try clear hb2); (try clear hk); (try clear hi); (try clear ho0)) | ((with_reducible refine gate_callee (f := 9) rfl ?_); refine goesL_ (some 46) rfl rfl Tryd.func9 (by kernel_rfl) rfl #[] rfl (by (try simp only [List.map_toArray, List.map_cons, List.map_nil]); first | done | rfl | (simp only [List.length_drop, List.length_take]; rfl)) ?_; (with_reducible refine (jigsawlaw05_wakes.calls k  true _ A22.out).mono ?_); rintro e w29 ⟨rfl, hb⟩; refine ⟨_, rfl, ?_⟩; have n0_ := Aside0.mk (Kd.R_below (by (with_reducible repeat (first | apply Kd.R_alloc | apply Kd.R_drewN | apply Kd.R_drew)); exact HO184.out) hb); have n1_ := Aside0.mk (Kd.R_below (by (with_reducible repeat (first | apply Kd.R_alloc | apply Kd.R_drewN | apply Kd.R_drew)); exact HO189.out) hb); have n2_ := Aside0.mk (below_step (by repeat (first | (with_reducible first | exact HB.out | apply below_alloc | apply pw_below_drewN | apply below_drew1) | exact HB.out)) hb); clear HO184; clear HO189; clear HB; have HO184 := n0_; have HO189 := n1_; have HB := n2_; clear n0_ n1_ n2_; (try clear hb); (try clear hb2); (try clear hk); (try clear hi); obtain ⟨Ao30, co30, eo30⟩ := Kd.R_slice HO184.out; subst eo30; obtain ⟨Ao31, co31, eo31⟩ := Kd.R_slice HO189.out; subst eo31))
              go_ret
              exact ⟨by first | rfl | (simp [errW_none, errW_some] <;> rfl) | (simp only [← hji3]; first | rfl | (simp [errW_none, errW_some] <;> rfl)) | (simp [*, errW_none, errW_some] <;> rfl), by repeat (first | (with_reducible first | exact HB.out | apply below_alloc | apply pw_below_drewN | apply below_drew1) | exact HB.out)⟩
            · rw [if_neg c24] at H
              have c24b0 : (t182 == t187) = false := beq_eq_false_iff_ne.mpr c24
              have c24b1 : (t182 != t187) = true := bne_iff_ne.mpr c24
              exact absurd (Option.some.inj H) (by rw [hT.out]; decide)
          · replace c23 := Bool.eq_false_iff.mpr c23
            subst c23
            have H1 : (some false) = some r := by rw [if_neg (show ¬ (false = true) by decide)] at H; exact H
            clear H
            have H := H1
            clear H1
            exact absurd (Option.some.inj H) (by rw [hT.out]; decide)
      · rw [if_neg c7] at H
        exact absurd H (by simp)
    · rw [if_neg c6] at H
      exact absurd H (by simp)
  · rw [if_neg c5] at H
    exact absurd H (by simp)

/-- THE ONE PURE STATEMENT of jigsawlaw05_LexLong: yours. -/
def jigsawlaw05_LexLong.Pure : Prop := ∀ (a0 : ByteArray) (a1 : Bool), a0.size ≤ 140737488351232 → ∃ k, jigsawlaw05_LexLong.f k a0 a1 = some true
theorem jigsawlaw05_LexLong.walk (P : jigsawlaw05_LexLong.Pure) (a0 : ByteArray) (a1 : Bool) (w : World) (w0 : a0.size ≤ 140737488351232) :
    Calls Tryd.prog 5 #[.string a0, .bool a1] w fun e w' => e = .returned (.bool true) ∧ Below w.heap.size w w' := by
  obtain ⟨k, h⟩ := P a0 a1 w0
  refine (jigsawlaw05_LexLong.calls k a0 a1 true w (Aside0.mk rfl) h).mono ?_
  rintro e w' ⟨rfl, hd⟩
  exact ⟨rfl, hd⟩

end Go.Proofs.YtkcjlagaaekhjaaDoor.X
