/-
  LexPlaces holds of every text: its tokens stand one behind the other with blanks and comments alone between them, or an error's place is in the text; the text is at most what the row's reach lets in.
-/
import Derived.Test.YtkcjlagaaekhjaaDoorRows
import Derived.Test.YtkcjlagaaekhjaaDoorXdx2
import Derived.Test.YtkcjlagaaekhjaaDoorLex7
import Derived.WalkKit
import Derived.ProofKit
import Derived.OpenShut
import Derived.ShutString
import Derived.ChangeOld
import Derived.Below
import Derived.SizedLaws
import Derived.Lay
import Derived.Test.YtkcjlagaaekhjaaDoorCards
import Derived.Test.YtkcjlagaaekhjaaDoorTie
import Derived.LaidMore
import Derived.Stop.Joined
import Derived.SevenTiedAt
namespace Go.Proofs.YtkcjlagaaekhjaaDoor.lexPlaces
open Go.ChangeShapes Go.WideShapes Go.ChangeAt Go.RowKit
open Go.ChangeMaps (open_string shut_string)
set_option linter.unusedVariables false
/-- A heap that holds what the row lists meets the condition. -/
theorem laid_met (os : Os) (args : Array Value) : laidMetH Tryd.prog Rows.lexPlacesRow.laid ((World.laidAll Tryd.prog os Rows.lexPlacesRow.laid).forCall (fun _ _ => 0) ⟨#[], args, []⟩).memory := by
  rw [MakeChecks.laidMetH_plain _ _ _ (by kernel_rfl)]
  exact laidMet_laidAll _ (by kernel_rfl) (by kernel_rfl)
theorem own : ownKnob Tryd.prog.godebug = none := by kernel_rfl
set_option maxRecDepth 100000 in
/-- The row's wrap, the world's shape kept for the walk. -/
theorem wrap {os : Os} {H : Type} {enc : TypeId × Value → H} {X : World → Prop} (hX : ∀ w w' : World, w.heap = w'.heap → X w → X w') (started : os.Started)
    (witness : ∃ (w : World) (tape : Tape) (i : Input), w.os = os ∧ (w.forCall tape i).Shaped Tryd.prog ∧ i.vars = [] ∧ Input.okWide Tryd.prog (w.forCall tape i) .any w.heap.size 6 i ∧
      ((Rows.lexPlacesSpec.pre enc Tryd.prog Tryd.f6 [] false (w.forCall tape i).memory i.args ∧ X (w.forCall tape i).memory) ∧ sizedMet enc Tryd.prog Tryd.f6 (OpenSpec.ofChange Rows.lexPlacesSpec) false (w.forCall tape i).memory i.args) ∧ Assume.holds {} Tryd.prog (lone (Frame.enter Tryd.prog 6 i.args .normal) [] (w.forCall tape i)))
    (walk : ∀ (W : World) (base : Nat) (args : Array Value) (ds gs : List (DataW H)) (before : List MemPlace),
      (∀ (j : Nat) t v, Tryd.f6.params[j]? = some t → args[j]? = some v → Value.okWide Tryd.prog W .any base t v) →
      DataW.Whole enc Tryd.prog Tryd.f6.params.toList Rows.lexPlacesSpec.vars false W args.toList ds gs before →
      (DataW.weightsEach Tryd.prog (Tryd.f6.params.toList ++ Rows.lexPlacesSpec.plain.varTypes Tryd.prog) (ds ++ gs)).all (· ≤ reachBytes) = true → X W → W.ShapedOpen Tryd.prog →
      Calls Tryd.prog 6 args W fun e W' => ∃ v, e = .returned v ∧ Rows.lexPlacesSpec.post enc Tryd.prog Tryd.f6 false true false false W args v W') :
    ReturnsInHanded {} Tryd.checked os 6 .any (fun w args => (Rows.lexPlacesSpec.pre enc Tryd.prog Tryd.f6 [] false w args ∧ X w) ∧ sizedMet enc Tryd.prog Tryd.f6 (OpenSpec.ofChange Rows.lexPlacesSpec) false w args)
      (Rows.lexPlacesSpec.post enc Tryd.prog Tryd.f6 false true false false) := by
  refine returnsInHanded_of_calls (C := Tryd.checked) own started (by kernel_rfl) witness ?_
  intro w tape i _ shape _ ok met _
  obtain ⟨_, _, _, g, hg, _, _, _, _, vals⟩ := ok
  obtain rfl : g = Tryd.f6 := Option.some.inj (hg.symm.trans Tryd.func6)
  obtain ⟨⟨⟨ds, gs, before, whole, _⟩, x⟩, sized⟩ := met
  refine (walk (w.forCall tape i) w.heap.size i.args ds gs before vals (DataW.Whole.of_heap (w' := w.forCall tape i) (by rfl) whole) (sized.weights whole) (hX _ _ (by rfl) x) shape).mono ?_
  rintro e W' ⟨v, rfl, post⟩
  exact ChangeSpec.post_blind post
set_option maxRecDepth 100000 in
theorem lifted (os : Os) (started : os.Started) (H : Type) (enc : TypeId × Value → H) :
    ReturnsInHanded {} Tryd.checked os 6 .any (fun w args => (Rows.lexPlacesSpec.pre enc Tryd.prog Tryd.f6 [] false w args ∧ laidMetH Tryd.prog Rows.lexPlacesRow.laid w) ∧ sizedMet enc Tryd.prog Tryd.f6 (OpenSpec.ofChange Rows.lexPlacesSpec) false w args)
      (Rows.lexPlacesSpec.post enc Tryd.prog Tryd.f6 false true false false) := by
  refine wrap (X := laidMetH Tryd.prog Rows.lexPlacesRow.laid) (fun _ _ hh h => h.of_heap hh) started
    (ChangeSpec.witness_shaped (enc := enc) (C := Tryd.checked) (os := os) (X := fun w _ => laidMetH Tryd.prog Rows.lexPlacesRow.laid w) false (World.laidAll Tryd.prog os Rows.lexPlacesRow.laid) #[.string ByteArray.empty] 8 (World.laidAll_os _ _ _) (World.shaped_of_ZipB (by kernel_rfl) (by kernel_rfl)) (by kernel_rfl) (by kernel_rfl) (by kernel_rfl) (laid_met os _)) ?_
  intro W base args ds gs before hval0 hW hsz0 hL hshape
  have hsz : (DataW.weightsEach Tryd.prog (Tryd.f6.params.toList ++ Rows.lexPlacesSpec.plain.varTypes Tryd.prog) (ds ++ gs)).all (· ≤ reachBytes) = true := hsz0
  have hval : ∀ (j : Nat) t v, Tryd.f6.params[j]? = some t → args[j]? = some v → Value.okWide Tryd.prog W .any base t v := hval0
  have hW' := hW
  obtain ⟨p, q, hA0, hV, rfl, hfz, hnd⟩ := hW
  have hA : DataW.TrodAll enc Tryd.prog W 0 (fun _ => true) true Tryd.f6.params.toList args.toList ds p := hA0
  rw [Tryd.params6] at hA hval hsz
  obtain ⟨v0, vs0, d0, ds0, p0, q0, hargs, rfl, rfl, h0, r0⟩ := trodAll_cons hA
  obtain ⟨rfl, rfl, rfl⟩ := trodAll_nil r0
  obtain rfl : args = #[v0] := by cases args; simp_all
  obtain ⟨rfl, rfl⟩ := trodVars_none hV
  obtain ⟨a0, rfl, rfl, rfl, y0⟩ := open_string Tryd.underlying9 (hval 0 9 v0 rfl rfl) h0
  have w0 : a0.size ≤ 140737488351232 := by
    have z := sized_string hsz (j := 0) (t := 9) rfl rfl
    rw [Array.length_toList] at z
    exact z
  clear hA0 hval0 hsz0 hsz
  refine (X.jigsawlaw05_LexPlaces.walk LexT.LexPlaces a0 W (X.Glob.of_shaped hshape) w0).mono fun e W' ⟨he, bel⟩ => ?_
  subst he
  exact ⟨_, rfl, _, _, _, [], _, [], hW', trodAll_mk1 (shut_bool Tryd.underlying4 _), (trodAll_cons_mk (shut_string Tryd.underlying9 y0) trodAll_mk0), rfl, bel.frame _, fun h => by cases h⟩
theorem over : Rows.lexPlacesRow.holds Tryd.pinned (OpenSpec.ofChange Rows.lexPlacesSpec) :=
  OpenClaim.holds_of_wide 6 Tryd.f6 rfl rfl rfl rfl rfl rfl rfl ⟨rfl, rfl, rfl, rfl, rfl⟩ rfl rfl rfl rfl rfl (by kernel_rfl) Tryd.func6 (by kernel_rfl)
    (of_decide_eq_true (by kernel_rfl)) (by unfold Func.isWrapper; first | (rw [if_pos (by decide +kernel)]; kernel_rfl) | (rw [if_neg (by decide +kernel)]; exact ⟨rfl, rfl⟩))
    (fun os started H enc _ => lifted os started H enc)
theorem proved : Rows.LexPlacesSaid := over
/-- The tied card. -/
theorem card : Rows.LexPlacesCardSaid :=
  Claim7.holds_tied_plain_at .later [] [.data, .data, .data, .data, .sentinel, .sentinel, .pinned] true (true, "e2baa79d29fb2ab76df43726f1d49740e99581c4060c2cd17db0a606ee105c01") true
    proved (fun _ h => by cases h) (by kernel_rfl) (fun _ h => by cases h) lexPlaces_row_tie rfl ⟨rfl, rfl⟩ (by kernel_rfl) rfl
    (fun f fn hf hfn => by
      obtain rfl : f = 6 := Option.some.inj ((show Tryd.prog.funcNamed Rows.lexPlacesRow.func = some 6 by kernel_rfl).symm.trans hf) |>.symm
      obtain rfl : fn = Tryd.f6 := (Option.some.inj (Tryd.func6.symm.trans hfn)).symm
      exact ⟨by kernel_rfl, fun j t ht => by
        rw [Tryd.params6] at ht
        have hm : t ∈ [9] := by simpa using Array.mem_of_getElem? ht
        have hall : ([9].all fun u => !Tryd.prog.wantsStandIn u) = true := by kernel_rfl
        exact (show Tryd.prog.wantsStandIn t = false by simpa using List.all_eq_true.1 hall t hm)⟩)
    (by kernel_rfl)
#print axioms card
end Go.Proofs.YtkcjlagaaekhjaaDoor.lexPlaces
namespace Go.Proofs.YtkcjlagaaekhjaaDoor
/-- The statement, under a short name, for the claim. -/
theorem lexPlaces_card : Rows.LexPlacesCardSaid := lexPlaces.card
end Go.Proofs.YtkcjlagaaekhjaaDoor
