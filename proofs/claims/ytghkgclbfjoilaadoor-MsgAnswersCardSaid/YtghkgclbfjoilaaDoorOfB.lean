/- ber.OfBool at this program: the walk. -/
import Derived.Test.YtghkgclbfjoilaaDoorR0
set_option linter.unusedVariables false
set_option linter.unusedSimpArgs false
namespace Go.Proofs.YtghkgclbfjoilaaDoor.R
open Go.RowKit Go.Proofs.YtghkgclbfjoilaaDoorW.PrintWords Go.Proofs.YtghkgclbfjoilaaDoorW.PrintLast Go.Proofs.YtghkgclbfjoilaaDoorW.PrintMore
set_option maxHeartbeats 1000000 in
set_option maxRecDepth 100000 in
theorem ofBool_walk (a0 : Int) (a1 : Int) (a2 : Bool) (w : World) :
    Calls Tryd.prog 42 #[.int .i64 a0, .int .i64 a1, .bool a2] w fun e w' => e = .returned (.agg #[.int .i64 a0, .bool false, .int .i64 a1, .string (if a2 = true then ⟨#[255]⟩ else ⟨#[0]⟩), .slice none 0 0]) ∧ Below w.heap.size w w' := by
  have hu44 := Tryd.underlying44
  go_enter Tryd.func42, Tryd.ntmps42
  cases a2
  · go_wp2_with fail
    refine bodyPost_ret (results_cell_row rfl _ _ w.heap.size 44 #[.int .i64 a0, .bool false, .int .i64 a1, .string (⟨#[0]⟩ : ByteArray), .slice none 0 0] (0, 0) _ rfl ((Below.heap_alloc _ _ _ (by simp)).trans (heap_alloc_new w _)) Tryd.underlying44 rfl (by kernel_rfl)) rfl ?_
    exact ⟨rfl, below_alloc (below_alloc (Below.refl _ _) _) _⟩
  · go_wp2_with fail
    refine bodyPost_ret (results_cell_row rfl _ _ w.heap.size 44 #[.int .i64 a0, .bool false, .int .i64 a1, .string (⟨#[255]⟩ : ByteArray), .slice none 0 0] (0, 0) _ rfl ((Below.heap_alloc _ _ _ (by simp)).trans (heap_alloc_new w _)) Tryd.underlying44 rfl (by kernel_rfl)) rfl ?_
    exact ⟨rfl, below_alloc (below_alloc (Below.refl _ _) _) _⟩
end Go.Proofs.YtghkgclbfjoilaaDoor.R
