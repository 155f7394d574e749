-- Written by a program of this claim (wip/tools/pp.py) out of the translation.
import Derived.Test.YtghkgclbfjoilaaDoorR0
import Derived.Test.YtghkgclbfjoilaaDoorOfB
namespace Go.Proofs.YtghkgclbfjoilaaDoor.R
open Go.RowKit Go.Proofs.YtghkgclbfjoilaaDoorW.PrintWords Go.Proofs.YtghkgclbfjoilaaDoorW.PrintLast Go.Proofs.YtghkgclbfjoilaaDoorW.PrintMore
attribute [local go_sem] max2_int min2_int max_two min_two max_three min_three max_four min_four   -- for this text's walks alone
set_option linter.unusedVariables false
set_option linter.unusedSimpArgs false

/-! ### ber_OfBool: function 42, by hand -/
def ber_OfBool.f (a0 : Int) (a1 : Int) (a2 : Bool) : Option (Int × Bool × Int × ByteArray × (List (S44))) := if a2 = true then (some (a0, false, a1, (⟨#[255]⟩ : ByteArray), ([] : List (S44)))) else (some (a0, false, a1, (⟨#[0]⟩ : ByteArray), ([] : List (S44))))
theorem ber_OfBool.calls (a0 : Int) (a1 : Int) (a2 : Bool) (r1 : Int) (r2 : Bool) (r3 : Int) (r4 : ByteArray) (r5 : List (S44)) (w : World) (h : ber_OfBool.f a0 a1 a2 = some (r1, r2, r3, r4, r5)) :
    Calls Tryd.prog 42 #[.int .i64 a0, .int .i64 a1, .bool a2] w fun e w' => ∃ v4_ : Value, e = .returned (.agg #[.int .i64 r1, .bool r2, .int .i64 r3, .string r4, v4_]) ∧ Kd.R k44 44 w' w.heap.size (fun _ => True) v4_ r5 ∧ Below w.heap.size w w' := by
  refine (ofBool_walk a0 a1 a2 w).mono ?_
  rintro e w1 ⟨rfl, hb⟩
  unfold ber_OfBool.f at h
  cases a2
  · rw [if_neg (by decide)] at h
    simp only [Option.some.injEq, Prod.mk.injEq] at h
    obtain ⟨rfl, rfl, rfl, rfl, rfl⟩ := h
    exact ⟨_, rfl, Kd.R_nil _ _ _ _ _, hb⟩
  · rw [if_pos rfl] at h
    simp only [Option.some.injEq, Prod.mk.injEq] at h
    obtain ⟨rfl, rfl, rfl, rfl, rfl⟩ := h
    exact ⟨_, rfl, Kd.R_nil _ _ _ _ _, hb⟩


end Go.Proofs.YtghkgclbfjoilaaDoor.R
