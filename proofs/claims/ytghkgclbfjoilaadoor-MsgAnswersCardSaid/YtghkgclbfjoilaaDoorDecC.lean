/- ber.Decode's deferred closure: its two contracts. -/
import Derived.Test.YtghkgclbfjoilaaDoorDecW
import Derived.Recover
import Derived.Defers
set_option linter.unusedVariables false
set_option linter.unusedSimpArgs false
namespace Go.Proofs.YtghkgclbfjoilaaDoor.Dec
open Go.RowKit Go.Proofs.YtghkgclbfjoilaaDoorW.PrintWords Go.Proofs.YtghkgclbfjoilaaDoorW.PrintLast Go.Proofs.YtghkgclbfjoilaaDoorW.PrintMore Go.Proofs.YtghkgclbfjoilaaDoor.Pl Go.Proofs.YtghkgclbfjoilaaDoor.R Go.Proofs.YtghkgclbfjoilaaDoor.PureR

set_option maxHeartbeats 2000000 in
set_option maxRecDepth 100000 in
theorem catch_idle (p q r : Addr) (w : World) :
    CallsD Tryd.prog 46 #[.pointer (some p), .pointer (some q), .pointer (some r)] .returning w fun e u' w' => e = .returned (.tuple #[]) ∧ u' = .returning ∧ w' = w := by
  refine callsD_of_wpS Tryd.func46 rfl fun c₀ cs hu => ?_
  apply wpS_seq
  apply wpS_region
  simp [wpOpsS, go_sem, recoverD, hu, Tryd.ntmps46, Exit.thenS]
  refine wpS_of_wp ?_
  go_wp2_with fail
  cases c₀
  simp_all [bodyPostS, results, Tryd.results46]

set_option maxHeartbeats 4000000 in
set_option maxRecDepth 100000 in
theorem catch_panicking (gT gN gE : Nat) (c : Int) (n0 e0 : Int) (older : List PanicEntry) (w : World) (hTN : gT ≠ gN) (hTE : gT ≠ gE) (hNE : gN ≠ gE)
    (hT : w.heap[gT]? = some (.cells #[.int .i64 0, .bool false, .int .i64 0, .string (⟨#[]⟩ : ByteArray), .slice none 0 0] 44 (0, 0)))
    (hN : w.heap[gN]? = some (.cells #[.int .i64 n0] 3 (0, 0))) (hE : w.heap[gE]? = some (.cells #[.int .i64 e0] 33 (0, 0))) :
    CallsD Tryd.prog 46 #[.pointer (some ⟨gT, 0, none⟩), .pointer (some ⟨gN, 0, none⟩), .pointer (some ⟨gE, 0, none⟩)] (.panicking ({ v := .iface 95 (.int .i64 c), recovered := false } :: older)) w fun e u' w' =>
      e = .returned (.tuple #[]) ∧ u' = .panicking ({ v := .iface 95 (.int .i64 c), recovered := true } :: older) ∧
      w'.heap[gT]? = some (.cells #[.int .i64 0, .bool false, .int .i64 0, .string (⟨#[]⟩ : ByteArray), .slice none 0 0] 44 (0, 0)) ∧ w'.heap[gN]? = some (.cells #[.int .i64 0] 3 (0, 0)) ∧ w'.heap[gE]? = some (.cells #[.int .i64 c] 33 (0, 0)) ∧
      (∀ B, B ≤ gT → B ≤ gN → B ≤ gE → Below B w w') := by
  have hT0 : w.cell? ⟨gT, 0, none⟩ = some (.int .i64 0) := (blk_cell hT 0).trans rfl
  have hT1 : w.cell? ⟨gT, 1, none⟩ = some (.bool false) := (blk_cell hT 1).trans rfl
  have hT2 : w.cell? ⟨gT, 2, none⟩ = some (.int .i64 0) := (blk_cell hT 2).trans rfl
  have hT3 : w.cell? ⟨gT, 3, none⟩ = some (.string (⟨#[]⟩ : ByteArray)) := (blk_cell hT 3).trans rfl
  have hT4 : w.cell? ⟨gT, 4, none⟩ = some (.slice none 0 0) := (blk_cell hT 4).trans rfl
  have hN0 : w.cell? ⟨gN, 0, none⟩ = some (.int .i64 n0) := (blk_cell hN 0).trans rfl
  have hE0 : w.cell? ⟨gE, 0, none⟩ = some (.int .i64 e0) := (blk_cell hE 0).trans rfl
  have fT0 := blk_frozen hT 0
  have fT1 := blk_frozen hT 1
  have fT2 := blk_frozen hT 2
  have fT3 := blk_frozen hT 3
  have fT4 := blk_frozen hT 4
  have fN0 := blk_frozen hN 0
  have fE0 := blk_frozen hE 0
  have hNT := hTN.symm
  have hET := hTE.symm
  have hEN := hNE.symm
  have HT := Aside0.mk hT
  have HN := Aside0.mk hN
  have HE := Aside0.mk hE
  clear hT hN hE
  have hu44 := Tryd.underlying44
  have hta : ∀ W : World, (Instr.typeAssert (.iface 95 (.int .i64 c)) 20 95 false).run Tryd.prog W = .ok (.int .i64 c) W := fun W => by kernel_rfl
  refine callsD_of_wpS Tryd.func46 rfl fun c₀ cs hu => ?_
  apply wpS_seq
  apply wpS_region
  simp [wpOpsS, go_sem, recoverD, hu, Tryd.ntmps46, Exit.thenS]
  refine wpS_of_wp ?_
  go_wp2_with fail
  go_region
  go_wp2_with fail
  all_goals (
    cases c₀
    simp only at hu
    subst hu
    refine ⟨rfl, _, rfl, .tuple #[], by simp [results, Tryd.results46], rfl, rfl, ?_, ?_, ?_, ?_⟩
    · refine blk_drew ?_
      exact blk_far (blk_far (blk_put (blk_put (blk_put (blk_put (blk_put HT.out 0 _ rfl) 1 _ rfl) 2 _ rfl) 3 _ rfl) 4 _ rfl) hTN _) hTE _
    · refine blk_drew ?_
      exact blk_far (blk_put (blk_far (blk_far (blk_far (blk_far (blk_far HN.out hNT _) hNT _) hNT _) hNT _) hNT _) 0 _ rfl) hNE _
    · refine blk_drew ?_
      exact blk_put (blk_far (blk_far (blk_far (blk_far (blk_far (blk_far HE.out hET _) hET _) hET _) hET _) hET _) hEN _) 0 _ rfl
    · intro B h1 h2 h3
      exact Below.drew (Below.setCell (Below.setCell (Below.setCell (Below.setCell (Below.setCell (Below.setCell (Below.setCell (Below.refl B w) (p := ⟨gT, 0, none⟩) h1 _) (p := ⟨gT, 1, none⟩) h1 _) (p := ⟨gT, 2, none⟩) h1 _) (p := ⟨gT, 3, none⟩) h1 _) (p := ⟨gT, 4, none⟩) h1 _) (p := ⟨gN, 0, none⟩) h2 _) (p := ⟨gE, 0, none⟩) h3 _))
end Go.Proofs.YtghkgclbfjoilaaDoor.Dec
