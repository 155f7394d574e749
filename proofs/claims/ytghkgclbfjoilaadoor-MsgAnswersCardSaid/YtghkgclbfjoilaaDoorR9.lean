-- Written by a program of this claim (wip/tools/pp.py) out of the translation.
import Derived.Test.YtghkgclbfjoilaaDoorR0
import Derived.Test.YtghkgclbfjoilaaDoorDecY
namespace Go.Proofs.YtghkgclbfjoilaaDoor.R
open Go.RowKit Go.Proofs.YtghkgclbfjoilaaDoorW.PrintWords Go.Proofs.YtghkgclbfjoilaaDoorW.PrintLast Go.Proofs.YtghkgclbfjoilaaDoorW.PrintMore
attribute [local go_sem] max2_int min2_int max_two min_two max_three min_three max_four min_four   -- for this text's walks alone
set_option linter.unusedVariables false
set_option linter.unusedSimpArgs false

/-! ### ber_Decode: function 23, by hand -/
def ber_Decode.f (k : Nat) (a0 : ByteArray) : Option (Int × Bool × Int × ByteArray × (List (S44)) × Int × Int) := if a0.size ≤ 20000 then some ((Dec.decF a0).1.f0, (Dec.decF a0).1.f1, (Dec.decF a0).1.f2, (Dec.decF a0).1.f3, (Dec.decF a0).1.f4, ((Dec.decF a0).2.1 : Int), ((Dec.decF a0).2.2 : Int)) else none
theorem ber_Decode.mono : ∀ a0 k, LeO (ber_Decode.f k a0) (ber_Decode.f (k + 1) a0) := fun _ _ => LeO.refl _
theorem ber_Decode.calls (k : Nat) (a0 : ByteArray) (r1 : Int) (r2 : Bool) (r3 : Int) (r4 : ByteArray) (r5 : List (S44)) (r6 : Int) (r7 : Int) (w : World) (h : ber_Decode.f k a0 = some (r1, r2, r3, r4, r5, r6, r7)) :
    Calls Tryd.prog 23 #[.string a0] w fun e w' => ∃ v4_ : Value, e = .returned (.tuple #[.agg #[.int .i64 r1, .bool r2, .int .i64 r3, .string r4, v4_], .int .i64 r6, .int .i64 r7]) ∧ Kd.R k44 44 w' w.heap.size (fun _ => True) v4_ r5 ∧ Below w.heap.size w w' := by
  unfold ber_Decode.f at h
  split at h
  · rename_i hs
    simp only [Option.some.injEq, Prod.mk.injEq] at h
    obtain ⟨rfl, rfl, rfl, rfl, rfl, rfl, rfl⟩ := h
    refine (Dec.decode_walk a0 hs w).mono ?_
    rintro e w1 ⟨hb, v4, he, hR⟩
    exact ⟨v4, he, hR, hb⟩
  · cases h


end Go.Proofs.YtghkgclbfjoilaaDoor.R
