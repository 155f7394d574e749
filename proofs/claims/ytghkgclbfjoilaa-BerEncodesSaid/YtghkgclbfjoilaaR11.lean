-- Written by a program of this claim (wip/tools/pp.py) out of the translation.
import Derived.Test.YtghkgclbfjoilaaR0
import Derived.Test.YtghkgclbfjoilaaBytX
namespace Go.Proofs.Ytghkgclbfjoilaa.R
open Go.RowKit Go.Proofs.YtghkgclbfjoilaaW.PrintWords Go.Proofs.YtghkgclbfjoilaaW.PrintLast Go.Proofs.YtghkgclbfjoilaaW.PrintMore
attribute [local go_sem] max2_int min2_int max_two min_two max_three min_three max_four min_four   -- for this text's walks alone
set_option linter.unusedVariables false
set_option linter.unusedSimpArgs false

/-! ### rollbookref25_Bytes: function 37, by hand -/
def rollbookref25_Bytes.f (k : Nat) (a0_0 : Int) (a0_1 : Bool) (a0_2 : Int) (a0_3 : ByteArray) (l0_4 : List (S44)) : Option (List Int) := (refF k ⟨a0_0, a0_1, a0_2, a0_3, l0_4⟩).map upB
theorem rollbookref25_Bytes.mono : ∀ a0 a1 a2 a3 a4 k, LeO (rollbookref25_Bytes.f k a0 a1 a2 a3 a4) (rollbookref25_Bytes.f (k + 1) a0 a1 a2 a3 a4) := by
  intro a0 a1 a2 a3 a4 k r h
  unfold rollbookref25_Bytes.f at h ⊢
  obtain ⟨b, hb, rfl⟩ := Option.map_eq_some_iff.mp h
  rw [refF_mono k _ b hb]; rfl
theorem rollbookref25_Bytes.calls (k : Nat) (a0_0 : Int) (a0_1 : Bool) (a0_2 : Int) (a0_3 : ByteArray) (A0_4 : Option Addr) (c0_4 : Nat) (l0_4 : List (S44)) (r : List Int) (w : World) (hr0_4 : Kd.C k44 w A0_4 l0_4.length l0_4) (hc0_4 : l0_4.length ≤ c0_4) (h : rollbookref25_Bytes.f k a0_0 a0_1 a0_2 a0_3 l0_4 = some r) :
    Calls Try.prog 37 #[.agg #[.int .i64 a0_0, .bool a0_1, .int .i64 a0_2, .string a0_3, .slice A0_4 l0_4.length c0_4]] w fun e w' => ∃ v0_ : Value, e = .returned (v0_) ∧ Kd.R (Kd.int .u8) 5 w' w.heap.size (fun _ => True) v0_ r ∧ Below w.heap.size w w' := by
  unfold rollbookref25_Bytes.f at h
  obtain ⟨b, hb, rfl⟩ := Option.map_eq_some_iff.mp h
  exact bytes_walk k ⟨a0_0, a0_1, a0_2, a0_3, l0_4⟩ A0_4 c0_4 b w hr0_4 hc0_4 hb


end Go.Proofs.Ytghkgclbfjoilaa.R
