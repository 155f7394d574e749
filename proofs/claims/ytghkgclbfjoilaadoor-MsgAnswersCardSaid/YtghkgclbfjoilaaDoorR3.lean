-- Written by a program of this claim (wip/tools/pp.py) out of the translation.
import Derived.Test.YtghkgclbfjoilaaDoorR0
import Derived.Test.YtghkgclbfjoilaaDoorEncX
namespace Go.Proofs.YtghkgclbfjoilaaDoor.R
open Go.RowKit Go.Proofs.YtghkgclbfjoilaaDoorW.PrintWords Go.Proofs.YtghkgclbfjoilaaDoorW.PrintLast Go.Proofs.YtghkgclbfjoilaaDoorW.PrintMore
attribute [local go_sem] max2_int min2_int max_two min_two max_three min_three max_four min_four   -- for this text's walks alone
set_option linter.unusedVariables false
set_option linter.unusedSimpArgs false

/-! ### ber_encode: function 44, by hand -/
/-! ### ber_encode: function 36 (by hand: EncW, EncX) -/
def ber_encode.f (k : Nat) (a0_0 : Int) (a0_1 : Bool) (a0_2 : Int) (a0_3 : ByteArray) (l0_4 : List (S44)) : Option (ByteArray × Bool) := encF k ⟨a0_0, a0_1, a0_2, a0_3, l0_4⟩
theorem ber_encode.mono : ∀ a0 a1 a2 a3 a4 k, LeO (ber_encode.f k a0 a1 a2 a3 a4) (ber_encode.f (k + 1) a0 a1 a2 a3 a4) := fun _ _ _ _ _ k => encF_mono k _
theorem ber_encode.calls (k : Nat) (a0_0 : Int) (a0_1 : Bool) (a0_2 : Int) (a0_3 : ByteArray) (A0_4 : Option Addr) (c0_4 : Nat) (l0_4 : List (S44)) (r1 : ByteArray) (r2 : Bool) (w : World) (hr0_4 : Kd.C k44 w A0_4 l0_4.length l0_4) (hc0_4 : l0_4.length ≤ c0_4) (h : ber_encode.f k a0_0 a0_1 a0_2 a0_3 l0_4 = some (r1, r2)) :
    Calls Tryd.prog 44 #[.agg #[.int .i64 a0_0, .bool a0_1, .int .i64 a0_2, .string a0_3, .slice A0_4 l0_4.length c0_4]] w fun e w' => e = .returned (.tuple #[.string r1, .bool r2]) ∧ Below w.heap.size w w' :=
  encode_walk k ⟨a0_0, a0_1, a0_2, a0_3, l0_4⟩ A0_4 c0_4 (r1, r2) w hr0_4 hc0_4 h


end Go.Proofs.YtghkgclbfjoilaaDoor.R
