/-
  LexLong as a plain statement: a text of more bytes than MaxText is too long; blanks ahead of a text change nothing but the places. No conditions but each theorem's own.
-/
import Derived.Test.YtkcjlagaaekhjaaDoorXcx1
import Derived.Test.YtkcjlagaaekhjaaDoorLex3
set_option linter.unusedVariables false
set_option linter.unusedSimpArgs false
namespace Go.Proofs.YtkcjlagaaekhjaaDoor.LexT
open Go.RowKit Go.Proofs.YtkcjlagaaekhjaaDoor.X Go.Proofs.YtkcjlagaaekhjaaDoorW.PrintWords LexS LexP LexR

/-- Rounds enough: their number makes no difference, and the place where a text begins changes the places alone. -/
theorem lexF_shift : ∀ (f g at_ bt_ : Nat) (l : List UInt8) (acc acd : List T), l.length ≤ f → l.length ≤ g → acc.length = acd.length →
    (lexF f at_ l acc).1.length = (lexF g bt_ l acd).1.length ∧ (lexF f at_ l acc).2.2 = (lexF g bt_ l acd).2.2 := by
  intro f
  induction f with
  | zero =>
    intro g at_ bt_ l acc acd h1 h2 h3
    have : l = [] := List.length_eq_zero_iff.1 (by omega)
    subst this
    cases g with
    | zero => exact ⟨h3, rfl⟩
    | succ g => rw [lexF, lexF, if_pos rfl]; exact ⟨h3, rfl⟩
  | succ f ih =>
    intro g at_ bt_ l acc acd h1 h2 h3
    by_cases hl : l = []
    · subst hl
      cases g with
      | zero => rw [lexF, lexF, if_pos rfl]; exact ⟨h3, rfl⟩
      | succ g => rw [lexF, lexF, if_pos rfl, if_pos rfl]; exact ⟨h3, rfl⟩
    · have hpos : 0 < l.length := List.length_pos_iff.2 hl
      obtain ⟨g, rfl⟩ : ∃ g', g = g' + 1 := ⟨g - 1, by omega⟩
      rw [lexF, lexF, if_neg hl, if_neg hl]
      cases hk : tok l with
      | bad e => exact ⟨rfl, rfl⟩
      | ok k n v =>
        have hb := tok_bounds l k n v hk
        exact ih g _ _ _ _ _ (by rw [List.length_drop]; omega) (by rw [List.length_drop]; omega) (by simp [h3])
theorem skipW_blanks (X : List UInt8) : ∀ n, skipW false (List.replicate n 32 ++ X) = n + skipW false X
  | 0 => by simp
  | n + 1 => by
    have h := skipW_blanks X n
    rw [List.replicate_succ, List.cons_append]
    simp only [skipW]
    rw [if_pos (by decide), h]
    omega
/-- Blanks ahead: as many tokens, and the same error. -/
theorem lexS_blanks (X : List UInt8) (n : Nat) (h : n + X.length ≤ 1048576) :
    (lexS (List.replicate n 32 ++ X)).1.length = (lexS X).1.length ∧ (lexS (List.replicate n 32 ++ X)).2.2 = (lexS X).2.2 := by
  unfold lexS
  rw [if_neg (by rw [List.length_append, List.length_replicate]; omega), if_neg (by omega), skipW_blanks]
  have hd : (List.replicate n 32 ++ X).drop (n + skipW false X) = X.drop (skipW false X) := by
    rw [← List.drop_drop]
    congr 1
    exact List.drop_left' (List.length_replicate ..)
  rw [hd]
  exact lexF_shift _ _ _ _ _ _ _ (by rw [List.length_drop, List.length_append]; omega) (by rw [List.length_drop]; omega) rfl
theorem repeat_blank (n : Nat) : Lib.repeatL ([32] : List UInt8) n = List.replicate n 32 := by
  induction n with
  | zero => rfl
  | succ n ih =>
    rw [List.replicate_succ, ← ih]
    rfl
theorem Repeat_f (n : Nat) (h : n ≤ 2000000) : strings_Repeat.f (⟨#[32]⟩ : ByteArray) (n : Int) = some ⟨(List.replicate n 32).toArray⟩ := by
  unfold strings_Repeat.f
  rw [if_pos ⟨by omega, by omega, by rw [Int.toNat_natCast]; show 1 * n ≤ _; omega⟩, Int.toNat_natCast]
  exact congrArg some (congrArg ByteArray.mk (congrArg List.toArray (repeat_blank n)))
theorem LexLong : jigsawlaw05_LexLong.Pure := by
  intro a0 a1 ha
  refine Ev.rounds ?_
  have hm : ∃ m : Nat, mn (a0.size : Int) 100 = (m : Int) ∧ m ≤ a0.size ∧ m ≤ 100 := by
    unfold mn
    by_cases h : (a0.size : Int) ≤ 100
    · exact ⟨a0.size, by simp; omega, by omega, by omega⟩
    · exact ⟨100, by simp; omega, by omega, by omega⟩
  obtain ⟨m, em, h1, h2⟩ := hm
  unfold jigsawlaw05_LexLong.f
  rw [em]
  obtain ⟨n, en⟩ : ∃ n : Nat, n + m = 1048576 := ⟨1048576 - m, by omega⟩
  rw [show (1048576 : Int) - (m : Int) = (n : Int) by omega, Repeat_f n (by omega)]
  obtain ⟨s, es⟩ : ∃ s, a0.extract 0 m = s := ⟨_, rfl⟩
  obtain ⟨b, eb⟩ : ∃ b : ByteArray, (⟨(List.replicate n 32).toArray⟩ : ByteArray) = b := ⟨_, rfl⟩
  have tb : tl b = List.replicate n 32 := by rw [← eb]
  have hs : s.size = m := by rw [← es, ← tl_length, tl_prefix, List.length_take, tl_length]; omega
  have hb : b.size = n := by rw [← tl_length, tb, List.length_replicate]
  have tbs : tl (b ++ s) = List.replicate n 32 ++ tl s := by rw [← tb]; simp [tl]
  have hbs : (b ++ s).size = 1048576 := by rw [ByteArray.size_append]; omega
  rw [eb]
  cases a1 with
  | true =>
    refine Ev.congr (f := fun k => (lex_Lex.f k ((b ++ s) ++ (⟨#[120]⟩ : ByteArray))).bind fun bt174 => ((jigsawlaw05_wakes.f k).bind fun t179 => (if t179 = true then (if bt174.2.2 = 13 then (some (bt174.2.1 == 1048576)) else (some false)) else (some false)))) (fun k => ?_) ?_
    · rw [Option.bind_some, if_pos (by omega), if_pos (by omega), Int.toNat_natCast, es, if_pos (by omega), if_pos rfl, if_pos (by omega)]
    · have hx : ((b ++ s) ++ (⟨#[120]⟩ : ByteArray)).size = 1048577 := by rw [ByteArray.size_append, hbs]; rfl
      have hev := Lex_ev ((b ++ s) ++ (⟨#[120]⟩ : ByteArray)) (by omega)
      unfold lexS at hev
      rw [tl_length, hx, if_pos (by decide)] at hev
      refine Ev.bind hev (Ev.bind wakes_ev ?_)
      refine Ev.congr (f := fun _ => some true) (fun k => ?_) (Ev.now _)
      rw [if_pos rfl, if_pos (show (out34 (([] : List T), (1048576 : Int), (13 : Int))).2.2 = 13 from rfl)]
      rfl
  | false =>
    refine Ev.congr (f := fun k => (lex_Lex.f k (b ++ s)).bind fun bt180 => ((jigsawref05_Lex.f k s).bind fun bt185 => ((jigsawlaw05_wakes.f k).bind fun t190 => (if t190 = true then (if bt180.2.2 = bt185.2.2 then (some ((bt180.1.length : Int) == (bt185.1.length : Int))) else (some false)) else (some false))))) (fun k => ?_) ?_
    · rw [Option.bind_some, if_pos (by omega), if_pos (by omega), Int.toNat_natCast, es, if_pos (by omega), if_neg (by decide)]
    · obtain ⟨e1, e2⟩ := lexS_blanks (tl s) n (by rw [tl_length]; omega)
      rw [← tbs] at e1 e2
      refine Ev.bind (Lex_ev (b ++ s) (by omega)) (Ev.bind (RefLex_ev s) (Ev.bind wakes_ev ?_))
      refine Ev.congr (f := fun _ => some true) (fun k => ?_) (Ev.now _)
      rw [if_pos rfl, if_pos (show (out34 (lexS (tl (b ++ s)))).2.2 = (out43 (lexS (tl s))).2.2 from e2)]
      have l1 : (out34 (lexS (tl (b ++ s)))).1.length = (lexS (tl (b ++ s))).1.length := List.length_map _
      have l2 : (out43 (lexS (tl s))).1.length = (lexS (tl s)).1.length := List.length_map _
      rw [l1, l2, e1]
      simp
end Go.Proofs.YtkcjlagaaekhjaaDoor.LexT
