-- Written by a program of this claim (wip/tools/pp.py) out of the translation.
import Derived.Test.YtghkgclbfjoilaaF0
import Derived.Test.YtghkgclbfjoilaaF2
namespace Go.Proofs.Ytghkgclbfjoilaa.F
open Go.RowKit Go.Proofs.YtghkgclbfjoilaaW.PrintWords Go.Proofs.YtghkgclbfjoilaaW.PrintLast Go.Proofs.YtghkgclbfjoilaaW.PrintMore
attribute [local go_sem] max2_int min2_int max_two min_two max_three min_three max_four min_four   -- for this text's walks alone
set_option linter.unusedVariables false
set_option linter.unusedSimpArgs false

/-! ### rollbooklaw27_FrameNil: function 4, by hand -/
set_option maxHeartbeats 1000000 in
set_option maxRecDepth 100000 in
theorem nil_feed (a : ByteArray) (w : World) : Calls Try.prog 12 #[.pointer none, .string a] w fun e w' => e = .returned (.tuple #[.slice none 0 0, .int .i64 2]) ∧ w' = w := by
  go_enter Try.func12, Try.ntmps12
  go_wp2
  go_ret2
  exact ⟨rfl, rfl⟩
set_option maxHeartbeats 1000000 in
theorem nil_rest (w : World) : Calls Try.prog 15 #[.pointer none] w fun e w' => e = .returned (.int .i64 0) ∧ w' = w := by
  go_enter Try.func15, Try.ntmps15
  go_wp2
  go_ret
  exact ⟨rfl, rfl⟩
set_option maxHeartbeats 1000000 in
theorem nil_broken (w : World) : Calls Try.prog 16 #[.pointer none] w fun e w' => e = .returned (.bool false) ∧ w' = w := by
  go_enter Try.func16, Try.ntmps16
  go_wp2
  go_ret
  exact ⟨rfl, rfl⟩
/-- what is left: that the example of the chapter holds -/
def rollbooklaw27_FrameNil.Pure : Prop := ∃ k, rollbooklaw27_awake.f k = some true
set_option maxHeartbeats 1000000 in
set_option maxRecDepth 100000 in
theorem rollbooklaw27_FrameNil.walk (P : rollbooklaw27_FrameNil.Pure) (a0 : ByteArray) (w : World) (w0 : a0.size ≤ 140737488351232) :
    Calls Try.prog 4 #[.string a0] w fun e w' => e = .returned (.bool true) ∧ Below w.heap.size w w' := by
  obtain ⟨k, h⟩ := P
  have H := Aside0.mk h
  clear h
  go_enter Try.func4, Try.ntmps4
  go_wp2_with fail
  refine (rollbooklaw27_awake.calls k true _ H.out).mono ?_
  rintro e w1 ⟨rfl, hb⟩
  go_wp2_with fail
  refine (nil_feed _ _).mono ?_
  rintro e w2 ⟨rfl, rfl⟩
  go_wp2_with fail
  refine (nil_rest _).mono ?_
  rintro e w3 ⟨rfl, rfl⟩
  go_wp2_with fail
  refine (nil_broken _).mono ?_
  rintro e w4 ⟨rfl, rfl⟩
  go_wp2
  go_ret
  exact ⟨rfl, hb⟩


end Go.Proofs.Ytghkgclbfjoilaa.F
