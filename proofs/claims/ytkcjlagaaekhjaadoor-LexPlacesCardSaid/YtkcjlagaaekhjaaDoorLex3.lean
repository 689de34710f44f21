/-
  LexTells as a plain statement: both lexers come to the same tokens, place and error. No conditions but each theorem's own.
-/
import Derived.Test.YtkcjlagaaekhjaaDoorXx5
import Derived.Test.YtkcjlagaaekhjaaDoorLex2
import Derived.KernelRfl
set_option linter.unusedVariables false
set_option linter.unusedSimpArgs false
namespace Go.Proofs.YtkcjlagaaekhjaaDoor.LexT
open Go.RowKit Go.Proofs.YtkcjlagaaekhjaaDoor.X Go.Proofs.YtkcjlagaaekhjaaDoorW.PrintWords LexS LexP LexR

theorem Name_f (s : ByteArray) (c : UInt8) (r : List UInt8) (h : tl s = c :: r) (h32 : s.size ≤ 32) : lex_Name.f s = some (isL c && ((cnt isI (c :: r) : Nat) : Int) == (s.size : Int)) := by
  have hbt : bt s 0 = (c.toNat : Int) := (bt_drop (s := s) (i := 0) (c := c) (r := r) (by rw [List.drop_zero]; exact h)).2.1
  have hsz : s.size = r.length + 1 := by rw [← tl_length, h]; rfl
  unfold lex_Name.f
  rw [Lib.toList_data, show s.data.toList = c :: r from h, if_neg (by simp), if_pos (by omega), if_pos (by omega), hbt, wrap32_byte, letter_f, Option.bind_some]
  cases isL c with
  | true => rw [if_pos rfl, run30, h, Option.bind_some, Bool.true_and]
  | false => rw [if_neg (by decide), Bool.false_and]
def lexA : List S34 × Int × Int := ([⟨1, ⟨#[118, 97, 114]⟩, 0, 0⟩, ⟨2, ⟨#[49]⟩, 1, 4⟩, ⟨3, ⟨#[46, 46]⟩, 0, 5⟩, ⟨2, ⟨#[45, 53]⟩, -5, 7⟩], 0, 0)
theorem lexA_ev : Ev (fun k => lex_Lex.f k (⟨#[118, 97, 114, 32, 49, 46, 46, 45, 53, 37, 32, 120]⟩ : ByteArray)) lexA := by
  have := Lex_ev (⟨#[118, 97, 114, 32, 49, 46, 46, 45, 53, 37, 32, 120]⟩ : ByteArray) (by decide)
  rw [show out34 (lexS (tl (⟨#[118, 97, 114, 32, 49, 46, 46, 45, 53, 37, 32, 120]⟩ : ByteArray))) = lexA by kernel_rfl] at this
  exact this
theorem lexB_ev : Ev (fun k => lex_Lex.f k (⟨#[48, 49]⟩ : ByteArray)) (([] : List S34), (0 : Int), (15 : Int)) := by
  have := Lex_ev (⟨#[48, 49]⟩ : ByteArray) (by decide)
  rw [show out34 (lexS (tl (⟨#[48, 49]⟩ : ByteArray))) = (([] : List S34), (0 : Int), (15 : Int)) by kernel_rfl] at this
  exact this
theorem lexC_ev : Ev (fun k => lex_Lex.f k (⟨#[97, 46, 98]⟩ : ByteArray)) (([] : List S34), (1 : Int), (6 : Int)) := by
  have := Lex_ev (⟨#[97, 46, 98]⟩ : ByteArray) (by decide)
  rw [show out34 (lexS (tl (⟨#[97, 46, 98]⟩ : ByteArray))) = (([] : List S34), (1 : Int), (6 : Int)) by kernel_rfl] at this
  exact this
theorem nameA : lex_Name.f (⟨#[120, 95, 49]⟩ : ByteArray) = some true := by
  rw [Name_f _ 120 [95, 49] rfl (by decide)]
  rfl
theorem nameB : lex_Name.f (⟨#[49, 120]⟩ : ByteArray) = some false := by
  rw [Name_f _ 49 [120] rfl (by decide)]
  rfl
theorem wakes_ev : Ev (fun k => jigsawlaw05_wakes.f k) true := by
  unfold jigsawlaw05_wakes.f
  refine Ev.bind lexA_ev (Ev.bind lexB_ev (Ev.bind lexC_ev ?_))
  refine Ev.congr (f := fun _ => some true) (fun k => ?_) (Ev.now _)
  rw [if_pos (by rfl), if_pos (by rfl), if_pos (by decide), if_pos (by rfl), if_pos (by rfl), if_pos (by rfl), if_pos (by rfl), if_pos (by rfl), if_pos (by rfl), nameA, Option.bind_some, if_pos rfl, nameB, Option.bind_some]
  rfl
theorem rd34 (L : List T) (i : Nat) (h : i < L.length) : rd_T34 (L.map mk34) (i : Int) = mk34 L[i] := by
  unfold rd_T34
  rw [Int.toNat_natCast, List.getD_eq_getElem?_getD, List.getElem?_map, List.getElem?_eq_getElem h]
  rfl
theorem rd43 (L : List T) (i : Nat) (h : i < L.length) : rd_T43 (L.map mk43) (i : Int) = mk43 L[i] := by
  unfold rd_T43
  rw [Int.toNat_natCast, List.getD_eq_getElem?_getD, List.getElem?_map, List.getElem?_eq_getElem h]
  rfl
theorem same_loop (L : List T) (hL : L.length ≤ 2000000000) : ∀ (d i : Nat), L.length - i < d → Ev (fun k => jigsawlaw05_same.l0 k (L.map mk34) (L.map mk43) (L.length : Int) (i : Int)) true := by
  intro d
  induction d with
  | zero => exact fun _ h => absurd h (by omega)
  | succ d ihd =>
    intro i hd
    by_cases hlt : i < L.length
    · have w1 : Hid (wrap64 ((i : Int) + 1) = ((i + 1 : Nat) : Int)) := by show wrap64 ((i : Int) + 1) = ((i + 1 : Nat) : Int); unfold wrap64; omega
      have l1 : (L.map mk34).length = L.length := List.length_map _
      have l2 : (L.map mk43).length = L.length := List.length_map _
      refine Ev.step (f := fun k => jigsawlaw05_same.l0 k (L.map mk34) (L.map mk43) (L.length : Int) ((i + 1 : Nat) : Int)) (fun k => ?_) (ihd (i + 1) (by omega))
      simp only [jigsawlaw05_same.l0]
      rw [if_pos (by omega), if_pos (by omega), if_pos (by omega), if_pos (by omega), rd34 L i hlt, rd43 L i hlt, if_pos (show (mk34 L[i]).f0 = (mk43 L[i]).f0 from rfl), if_pos (show (mk34 L[i]).f1.toList = (mk43 L[i]).f1.toList from rfl), if_pos (show (mk34 L[i]).f2 = (mk43 L[i]).f2 from rfl), if_pos (show (mk34 L[i]).f3 = (mk43 L[i]).f3 from rfl), w1.out]
    · refine Ev.step (f := fun _ => some true) (fun k => ?_) (Ev.now _)
      simp only [jigsawlaw05_same.l0]
      rw [if_neg (by omega)]
theorem same_ev (L : List T) (hL : L.length ≤ 2000000000) : Ev (fun k => jigsawlaw05_same.f k (L.map mk34) (L.map mk43)) true := by
  have l1 : (L.map mk34).length = L.length := List.length_map _
  have l2 : (L.map mk43).length = L.length := List.length_map _
  unfold jigsawlaw05_same.f
  refine Ev.congr (fun k => ?_) (same_loop L hL (L.length + 1) 0 (by omega))
  rw [l1, l2, if_pos rfl]
  rfl
/-- As many tokens as bytes at the most. -/
theorem lexF_length : ∀ (f at_ : Nat) (l : List UInt8) (acc : List T), (lexF f at_ l acc).1.length ≤ acc.length + l.length
  | 0, _, _, acc => by simp [lexF]
  | f + 1, at_, l, acc => by
    rw [lexF]
    split
    · simp
    · cases ht : tok l with
      | bad e => simp
      | ok k n v =>
        have hb := tok_bounds l k n v ht
        have := lexF_length f (at_ + n + skipW false (l.drop n)) (l.drop (n + skipW false (l.drop n))) (acc ++ [⟨k, l.take n, v, at_⟩])
        simp only [List.length_append, List.length_cons, List.length_nil, List.length_drop] at this
        show (lexF f (at_ + n + skipW false (l.drop n)) (l.drop (n + skipW false (l.drop n))) (acc ++ [⟨k, l.take n, v, at_⟩])).1.length ≤ _
        omega
theorem lexS_length (l : List UInt8) : (lexS l).1.length ≤ l.length := by
  unfold lexS
  split
  · simp
  · have := lexF_length l.length (skipW false l) (l.drop (skipW false l)) []
    simp only [List.length_nil, List.length_drop] at this
    omega
theorem LexTells : jigsawlaw05_LexTells.Pure := by
  intro a0 ha
  refine Ev.rounds ?_
  have hm : ∃ m : Nat, mn (a0.size : Int) 2000 = (m : Int) ∧ m ≤ a0.size ∧ m ≤ 2000 := by
    unfold mn
    by_cases h : (a0.size : Int) ≤ 2000
    · exact ⟨a0.size, by simp; omega, by omega, by omega⟩
    · exact ⟨2000, by simp; omega, by omega, by omega⟩
  obtain ⟨m, em, h1, h2⟩ := hm
  unfold jigsawlaw05_LexTells.f
  rw [em]
  obtain ⟨s, es⟩ : ∃ s, a0.extract 0 m = s := ⟨_, rfl⟩
  have hs : s.size ≤ 2000 := by rw [← es, ← tl_length, tl_prefix, List.length_take]; omega
  have hlen := lexS_length (tl s)
  rw [tl_length] at hlen
  refine Ev.congr (f := fun k => (lex_Lex.f k s).bind fun bt181 => ((jigsawref05_Lex.f k s).bind fun bt186 => _)) (fun k => by rw [if_pos (by omega), if_pos (by omega), Int.toNat_natCast, es]) ?_
  refine Ev.bind (Lex_ev s (by omega)) (Ev.bind (RefLex_ev s) (Ev.bind wakes_ev ?_))
  refine Ev.congr (f := fun k => (jigsawlaw05_same.f k ((lexS (tl s)).1.map mk34) ((lexS (tl s)).1.map mk43)).bind fun t192 => _) (fun k => by rw [if_pos rfl]; rfl) ?_
  refine Ev.bind (same_ev _ (by omega)) ?_
  refine Ev.congr (f := fun _ => some true) (fun k => ?_) (Ev.now _)
  rw [if_pos rfl, if_pos (show (out34 (lexS (tl s))).2.1 = (out43 (lexS (tl s))).2.1 from rfl)]
  simp [out34, out43]
end Go.Proofs.YtkcjlagaaekhjaaDoor.LexT
