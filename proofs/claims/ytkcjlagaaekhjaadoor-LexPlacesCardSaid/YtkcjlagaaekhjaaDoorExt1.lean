/-
  strings.IndexRune and strings.ContainsRune at an ASCII text of at most 1000 bytes and whatever rune from 0 to U+10FFFF: is one of the text's bytes that rune? No other condition.
-/
import Derived.Test.YtkcjlagaaekhjaaDoorWWords
import Derived.Test.YtkcjlagaaekhjaaDoorProg
import Derived.Shelf.Strings.FuncGrows
import Derived.Shelf.Strings.Runes
import Derived.Test.YtkcjlagaaekhjaaDoorShelf1
import Derived.Shelf.Strconv.AtoiAll
import Derived.WalkKit
import Derived.Outline
import Derived.Deep.QuietTactic
import Derived.BigQuiet
import Derived.Laws.Runes
import Derived.WalkSpells
import Derived.Lib.Hide
import Derived.IntWalk
import Derived.Lib.IndexLaws
set_option linter.unusedVariables false
set_option linter.unusedSimpArgs false
namespace Go.Proofs.YtkcjlagaaekhjaaDoor.Ext
open Go.Shelf Go.RowKit Go.Proofs.YtkcjlagaaekhjaaDoorW.PrintWords

/-- Two stores into one cell: the cell. -/
theorem cell_over (w : World) (a : Addr) (u v : Value) (h : (w.cell? a).isSome = true) : ((w.setCell a u).setCell a v).cell? a = some v :=
  World.cell?_setCell_same' _ _ _ (by rw [World.cell?_setCell_same' _ _ _ h]; rfl)
def asciiText (s : ByteArray) : Bool := decide (s.size ≤ 1000) && s.data.toList.all (fun b => decide (b.toNat < 128))
def hasRune (s : ByteArray) (r : Int) : Bool := s.data.toList.any (fun b => decide ((b.toNat : Int) = r))

theorem indexByte_none' : ∀ (l : List UInt8) (c : UInt8), (∀ b ∈ l, b ≠ c) → Lib.indexByte l c = -1
  | [], _, _ => rfl
  | b :: l, c, h => by
    have h1 : (b == c) = false := by simpa using h b (by simp)
    have h2 := indexByte_none' l c (fun x hx => h x (by simp [hx]))
    simp [Lib.indexByte, h1, h2]
theorem indexByte_has : ∀ (l : List UInt8) (c : UInt8), decide (0 ≤ Lib.indexByte l c) = l.any (fun b => b == c)
  | [], _ => rfl
  | b :: l, c => by
    have h2 := indexByte_has l c
    have h3 := Lib.indexByte_ge l c
    by_cases h1 : b == c
    · simp [Lib.indexByte, h1]
    · simp only [Lib.indexByte, h1, List.any_cons, Bool.false_or, ← h2]
      by_cases h4 : Lib.indexByte l c = -1
      · simp [h4]
      · simp [h4]; omega

theorem quiet_add_same' {P : Program} {f : FuncId} {args : Array Value} {w : World} {a n : Nat} {v : Value}
    (h : Calls P f args (w.drewN (a + n)) fun e w' => e = .returned v ∧ w' = w.drewN (a + n)) :
    Calls P f args (w.drewN (a + n)) fun e w'' => e = .returned v ∧ ∃ m, w'' = w.drewN (a + m) :=
  h.mono fun _ _ ⟨he, hm⟩ => ⟨he, n, hm⟩

set_option maxHeartbeats 2000000 in
set_option maxRecDepth 1000000 in
theorem IndexRune_far (s : ByteArray) (r : Int) (w : World) (hs : s.size ≤ 1000) (ha : ∀ b ∈ s.data.toList, b.toNat < 128) (h0 : 128 ≤ r) (h1 : r ≠ 65533) (hv : Utf8.valid r = true) :
    Calls Tryd.prog 56 #[.string s, .int .i32 r] w fun e w' => e = .returned (.int .i64 (-1)) ∧ Drawn0 w w' := by
  obtain ⟨f1, f2, f3⟩ := encode_facts r hv h0
  obtain ⟨rs, hrs⟩ : ∃ rs, Utf8.encode r = rs := ⟨_, rfl⟩
  rw [hrs] at f1 f2 f3
  obtain ⟨n, hn⟩ : ∃ n, rs.size = n + 1 := ⟨rs.size - 1, by omega⟩
  have hne : (r == 65533) = false := by simpa using h1
  have hcv : ∀ W : World, (convert 21 9 (.int .i32 r)).run Tryd.prog W = .ok (.string rs) W := fun W => by
    rw [run_convert_int_string W 21 9 .i32 r (by rw [Tryd.underlying21]; rfl) Tryd.underlying9, hrs]
  have HRS := Lib.hid hrs
  clear hrs
  have hvr : ∀ W : World, Calls Tryd.prog 71 #[.int .i32 r] W fun e w' => e = .returned (.bool true) ∧ w' = W := fun W => by
    have := Any.utf8_ValidRune Tryd.lays119 r W
    rw [show Lib.validRune r = true by rw [validRune_eq] at hv; exact hv] at this
    exact this
  clear hv
  go_enter Tryd.func56, Tryd.ntmps56
  go_wp2_with (go_at_call 71; refine (hvr _).mono ?_; rintro e w' ⟨rfl, hw⟩; rw [hw])
  go_step3
  go_wp2
  refine wp_loop_rounds 1 ?_
  rw [rounds_succ]
  by_cases hlt : n < s.size
  · have hlt2 : n < rs.size := by omega
    have hb1 : (s[n]'hlt).toNat < 128 := ha _ (Array.getElem_mem_toList (xs := s.data) hlt)
    have hb2 : 128 ≤ (rs[n]'hlt2).toNat := by
      have := f3 (by omega)
      simp only [hn, Nat.add_sub_cancel] at this
      exact this
    have hnq : (((s[n]'hlt).toNat : Int) != ((rs[n]'hlt2).toNat : Int)) = true := by
      rw [bne_iff_ne]; omega
    have hix : ∀ (W : World), Calls Tryd.prog 25 #[.string (s.extract (n + 1) s.size), .int .u8 ((rs[n]'hlt2).toNat : Int)] W fun e w' => e = .returned (.int .i64 (-1)) ∧ w' = W := fun W => by
      have := Any.strings_IndexByte Tryd.lays137 (s.extract (n + 1) s.size) ((rs[n]'hlt2).toNat : Int) W
      rw [indexByte_none' _ _ (fun b hb hbc => by
        have h2 := ha _ (mem_extract hb)
        rw [hbc] at h2
        simp at h2
        omega)] at this
      exact this
    have hI1 : (n : Int) < (s.size : Int) := by omega
    have hI2 : (n : Int) < (rs.size : Int) := by omega
    have hI3 : (0 : Int) ≤ (n : Int) := by omega
    have hS1 : IntKind.i64.wrap ((n : Int) + 1) = (n : Int) + 1 := IntWalk.i64_in _ (by omega)
    have hS2 : (0 : Int) ≤ (n : Int) + 1 := by omega
    have hS3 : ((n : Int) + 1).toNat = n + 1 := by omega
    have hS4 : (n : Int) + 1 ≤ (s.size : Int) := by omega
    clear f1 f2 f3 ha hn
    go_wp2_with fail
    go_step3
    go_wp2_with fail
    go_quiet (fail)
    go_wp2_with fail
    go_quiet ((go_at_call 25; exact quiet_add_same' (hix _)))
    go_wp2_with fail
    simp only [Exit.noGoto_ret, Exit.inBlock, Exit.then]
    go_ret
    exact ⟨rfl, ⟨⟨_, rfl⟩⟩⟩
  · go_wp2
    simp only [Exit.noGoto_ret]
    go_ret
    exact ⟨rfl, Drawn0.refl _⟩

/-- U+FFFD itself: the text is gone through. -/
theorem decode_ascii' (s : ByteArray) (pos : Nat) (hp : pos < s.size) (ha : ∀ b ∈ s.data.toList, b.toNat < 128) : ∃ c, c < 128 ∧ Utf8.decode s pos = (c, 1) := by
  have h := ha _ (Array.getElem_mem_toList (xs := s.data) hp)
  refine ⟨_, h, ?_⟩
  have := decode_ascii s pos hp h
  rw [this]
  rfl
set_option maxHeartbeats 2000000 in
set_option maxRecDepth 1000000 in
theorem IndexRune_err (s : ByteArray) (w : World) (hs : s.size ≤ 1000) (ha : ∀ b ∈ s.data.toList, b.toNat < 128) :
    Calls Tryd.prog 56 #[.string s, .int .i32 65533] w fun e w' => e = .returned (.int .i64 (-1)) ∧ Below w.heap.size w w' := by
  go_enter Tryd.func56, Tryd.ntmps56
  go_wp2
  go_loopg [] s.size (fun gf wx => ∃ pos : Nat, wx.heap[w.heap.size]? = some (.stringIter s pos) ∧ Below w.heap.size w wx ∧ s.size ≤ pos + gf)
  case atStart => exact ⟨0, World.iter_heap w s 0, (Below.refl _ w).alloc (Nat.le_refl _) _, by omega⟩
  case round =>
    obtain ⟨pos, hit, hbw, hfu⟩ := hrel
    by_cases hps : pos < s.size
    · obtain ⟨g', rfl⟩ : ∃ g', gk = g' + 1 := ⟨gk - 1, by omega⟩
      have hnx : ∀ ty, (Instr.next (.pointer (some ⟨w.heap.size, 0, none⟩)) true ty).run Tryd.prog wr = _ := fun ty => Lib.run_next_any_at wr w.heap.size s pos ty hit hps
      obtain ⟨c, hc, hd⟩ := decode_ascii' s pos hps ha
      rw [hd] at hnx
      have hit2 := Lib.iterAt_heap wr w.heap.size s pos (pos + 1) hit
      have hbw2 := Lib.below_iterAt hbw (k := w.heap.size) (Nat.le_refl _) s (pos + 1)
      have hcq : ((c : Int) == 65533) = false := by
        rw [beq_eq_false_iff_ne]; omega
      clear hd ha
      go_wp2
      go_roundg g'
      case measure => omega
      case rel => exact ⟨pos + 1, hit2, hbw2, by omega⟩
    · have hnx : ∀ ty, (Instr.next (.pointer (some ⟨w.heap.size, 0, none⟩)) true ty).run Tryd.prog wr = _ := fun ty => Lib.run_next_end_at wr w.heap.size s pos ty hit hps
      go_wp2
      go_ret
      exact ⟨rfl, hbw⟩

set_option maxHeartbeats 2000000 in
set_option maxRecDepth 1000000 in
theorem IndexRune_bad (s : ByteArray) (r : Int) (w : World) (h0 : 128 ≤ r) (h1 : r ≠ 65533) (hv : Utf8.valid r = false) :
    Calls Tryd.prog 56 #[.string s, .int .i32 r] w fun e w' => e = .returned (.int .i64 (-1)) ∧ Drawn0 w w' := by
  have hne : (r == 65533) = false := by simpa using h1
  have hvr : ∀ W : World, Calls Tryd.prog 71 #[.int .i32 r] W fun e w' => e = .returned (.bool false) ∧ w' = W := fun W => by
    have := Any.utf8_ValidRune Tryd.lays119 r W
    rw [show Lib.validRune r = false by rw [validRune_eq] at hv; exact hv] at this
    exact this
  clear hv
  go_enter Tryd.func56, Tryd.ntmps56
  go_wp2_with (go_at_call 71; refine (hvr _).mono ?_; rintro e w' ⟨rfl, hw⟩; rw [hw])
  go_ret
  exact ⟨rfl, Drawn0.refl _⟩

theorem any_congr_of {α : Type} (l : List α) (p q : α → Bool) (h : ∀ b ∈ l, p b = q b) : l.any p = l.any q := by
  induction l with
  | nil => rfl
  | cons a l ih => rw [List.any_cons, List.any_cons, h a (by simp), ih (fun b hb => h b (by simp [hb]))]
/-- strings.IndexRune, as far as it is needed: is the rune there? -/
theorem IndexRune_any (s : ByteArray) (r : Int) (w : World) (ht : asciiText s = true) (h0 : 0 ≤ r) (h1 : r ≤ 1114111) :
    Calls Tryd.prog 56 #[.string s, .int .i32 r] w fun e w' => ∃ i : Int, e = .returned (.int .i64 i) ∧ decide (0 ≤ i) = hasRune s r ∧ Below w.heap.size w w' := by
  simp only [asciiText, Bool.and_eq_true, decide_eq_true_eq, List.all_eq_true] at ht
  obtain ⟨hs, ha⟩ := ht
  by_cases hr : r < 128
  · refine (Any.strings_IndexRune_ascii Tryd.lays152 s r w h0 hr).mono ?_
    rintro e w' ⟨rfl, rfl⟩
    refine ⟨_, rfl, ?_, Below.refl _ _⟩
    rw [indexByte_has]
    unfold hasRune
    refine any_congr_of _ _ _ ?_
    intro b hb
    have := ha b hb
    have h2 : (b == r.toNat.toUInt8) = decide (b.toNat = r.toNat) := by
      rw [Bool.eq_iff_iff]
      simp only [beq_iff_eq, decide_eq_true_eq]
      constructor
      · intro h; rw [h]; simp; omega
      · intro h; apply UInt8.toNat.inj; simp; omega
    rw [h2]
    by_cases h3 : b.toNat = r.toNat
    · simp [h3]; omega
    · simp [h3]; omega
  · have hno : hasRune s r = false := by
      unfold hasRune
      rw [List.any_eq_false]
      intro b hb
      have := ha b hb
      simp; omega
    have key : ∀ {W W' : World}, Drawn0 W W' → Below W.heap.size W W' := fun h => h.below
    by_cases he : r = 65533
    · subst he
      exact (IndexRune_err s w hs ha).mono fun e w' ⟨h, hb⟩ => ⟨_, h, by rw [hno]; rfl, hb⟩
    · cases hv : Utf8.valid r with
      | true => exact (IndexRune_far s r w hs ha (by omega) he hv).mono fun e w' ⟨h, hb⟩ => ⟨_, h, by rw [hno]; rfl, hb.below⟩
      | false => exact (IndexRune_bad s r w (by omega) he hv).mono fun e w' ⟨h, hb⟩ => ⟨_, h, by rw [hno]; rfl, hb.below⟩

def strings_ContainsRune.f (a0 : ByteArray) (a1 : Int) : Option Bool := if asciiText a0 = true ∧ 0 ≤ a1 ∧ a1 ≤ 1114111 then some (hasRune a0 a1) else none
theorem strings_ContainsRune.calls (a0 : ByteArray) (a1 : Int) (r : Bool) (w : World) (h : strings_ContainsRune.f a0 a1 = some r) :
    Calls Tryd.prog 36 #[.string a0, .int .i32 a1] w fun e w' => e = .returned (.bool r) ∧ Below w.heap.size w w' := by
  unfold strings_ContainsRune.f at h
  split at h
  · rename_i hc
    obtain rfl := Option.some.inj h
    have HC := IndexRune_any a0 a1 w hc.1 hc.2.1 hc.2.2
    clear h hc
    go_enter Tryd.func36, Tryd.ntmps36
    go_wp2_with fail
    refine HC.mono ?_
    rintro e w' ⟨i, rfl, hi, hb⟩
    have HI := Lib.hid hi
    clear hi
    go_wp2
    go_ret
    exact ⟨by rw [← HI.out]; rfl, hb⟩
  · cases h

/-- lex.run: where the first rune is of which p doesn't hold; the whole length. -/
def runFrom (p : Nat → Bool) (s : ByteArray) : Nat → Nat → Int
  | 0, _ => (s.size : Int)
  | f + 1, pos => if pos < s.size then (if p (Utf8.decode s pos).1 = true then runFrom p s f (pos + (Utf8.decode s pos).2) else (pos : Int)) else (s.size : Int)
theorem runFrom_end (p : Nat → Bool) (s : ByteArray) (f pos : Nat) (h : ¬ pos < s.size) : runFrom p s f pos = (s.size : Int) := by cases f <;> simp [runFrom, h]
set_option maxHeartbeats 2000000 in
set_option maxRecDepth 1000000 in
theorem run_pred (g : Nat) (eg : ∀ args w, (callFunc g args).run Tryd.prog w = .ok (.enter g args) w) (p : Nat → Bool) (s : ByteArray) (w : World)
    (hp : ∀ (W : World) (x : Nat), x ≤ 1114111 → Calls Tryd.prog g (#[.int .i32 (x : Int)] ++ #[]) W fun e w' => e = .returned (.bool (p x)) ∧ Below W.heap.size W w') :
    Calls Tryd.prog 27 #[.string s, .func (.func g) #[] #[]] w fun e w' => e = .returned (.int .i64 (runFrom p s s.size 0)) ∧ Below w.heap.size w w' := by
  go_enter Tryd.func27, Tryd.ntmps27
  go_wp2
  go_loopg [] s.size (fun gf wx => ∃ pos : Nat, wx.heap[w.heap.size]? = some (.stringIter s pos) ∧ Below w.heap.size w wx ∧ runFrom p s gf pos = runFrom p s s.size 0 ∧ s.size ≤ pos + gf)
  case atStart => exact ⟨0, World.iter_heap w s 0, (Below.refl _ w).alloc (Nat.le_refl _) _, rfl, by omega⟩
  case round =>
    obtain ⟨pos, hit, hbw, hleft, hfu⟩ := hrel
    by_cases hps : pos < s.size
    · obtain ⟨g', rfl⟩ : ∃ g', gk = g' + 1 := ⟨gk - 1, by omega⟩
      have hnx : ∀ ty, (Instr.next (.pointer (some ⟨w.heap.size, 0, none⟩)) true ty).run Tryd.prog wr = _ := fun ty => Lib.run_next_any_at wr w.heap.size s pos ty hit hps
      have hwd := Lib.width_pos s pos
      obtain ⟨R, hR⟩ : ∃ R, (Utf8.decode s pos).1 = R := ⟨_, rfl⟩
      obtain ⟨K, hK⟩ : ∃ K, (Utf8.decode s pos).2 = K := ⟨_, rfl⟩
      simp only [runFrom, hps, if_true, hR, hK] at hleft
      rw [hR, hK] at hnx
      rw [hK] at hwd
      have hit2 := Lib.iterAt_heap wr w.heap.size s pos (pos + K) hit
      have hbw2 := Lib.below_iterAt hbw (k := w.heap.size) (Nat.le_refl _) s (pos + K)
      obtain ⟨W, hWd⟩ : ∃ W, wr.iterAt w.heap.size s (pos + K) = W := ⟨_, rfl⟩
      rw [hWd] at hnx hit2 hbw2
      have hltW : w.heap.size < W.heap.size := (Array.getElem?_eq_some_iff.1 hit2).1
      have cS : Calls Tryd.prog g (#[.int .i32 (R : Int)] ++ #[]) W _ := hp W R (by rw [← hR]; exact Lib.rune_le s pos)
      clear hp
      cases hsp : p R <;> rw [hsp] at cS <;> simp only [hsp, if_true, Bool.false_eq_true, if_false] at hleft
      · have HL := Lib.hid hleft
        clear hleft
        go_wp2_with (go_at_fn g; refine cS.mono ?_; rintro e W' ⟨rfl, hbc⟩)
        go_ret
        exact ⟨by rw [← HL.out] <;> rfl, (hbw2.trans (hbc.mono hbw2.size))⟩
      · have HL := Lib.hid hleft
        clear hleft
        go_wp2_with (go_at_fn g; refine cS.mono ?_; rintro e W' ⟨rfl, hbc⟩)
        go_roundg g'
        case measure => omega
        case rel => exact ⟨pos + K, (hbc.block _ hltW).trans hit2, (hbw2.trans (hbc.mono hbw2.size)), HL.out, by omega⟩
    · have hnx : ∀ ty, (Instr.next (.pointer (some ⟨w.heap.size, 0, none⟩)) true ty).run Tryd.prog wr = _ := fun ty => Lib.run_next_end_at wr w.heap.size s pos ty hit hps
      rw [runFrom_end p s gk pos hps] at hleft
      have HL := Lib.hid hleft
      clear hleft
      go_wp2
      go_ret
      exact ⟨by rw [← HL.out] <;> rfl, hbw⟩

/-- strconv.Atoi of a text that spells an int. -/
def strconv_Atoi.f (a0 : ByteArray) : Option (Int × Option Int) := if a0.size ≤ 1000 then (match Lib.atoiAll a0.data.toList with | .ok v => some (v, none) | _ => none) else none
theorem strconv_Atoi.core (a0 : ByteArray) (r1 : Int) (r2 : Option Int) (h : strconv_Atoi.f a0 = some (r1, r2)) : r2 = none ∧ a0.size ≤ 1000 ∧ Lib.atoiAll a0.data.toList = .ok r1 := by
  unfold strconv_Atoi.f at h
  split at h
  · rename_i hs
    split at h
    · rename_i v hv
      simp only [Option.some.injEq, Prod.mk.injEq] at h
      obtain ⟨rfl, rfl⟩ := h
      exact ⟨rfl, hs, hv⟩
    · cases h
  · cases h
theorem Atoi_calls (a0 : ByteArray) (r1 : Int) (w : World) (hs : a0.size ≤ 1000) (hv : Lib.atoiAll a0.data.toList = .ok r1) :
    Calls Tryd.prog 35 #[.string a0] w fun e w' => e = .returned (.tuple #[.int .i64 r1, .nilIface]) ∧ Below w.heap.size w w' := by
  refine (Any.strconv_Atoi_ok Tryd.laysC172 a0 (by omega) r1 hv w).mono ?_
  rintro e w' ⟨he, hw⟩
  refine ⟨he, ?_⟩
  rcases hw with rfl | ⟨t, rfl⟩
  · exact Below.refl _ _
  · exact Lib.bytesWorld_below _ _ _
end Go.Proofs.YtkcjlagaaekhjaaDoor.Ext
