/- BerDecodes, plainly: both readers come to the same. -/
import Derived.Test.YtghkgclbfjoilaaSameR
set_option linter.unusedVariables false
set_option linter.unusedSimpArgs false
namespace Go.Proofs.Ytghkgclbfjoilaa.Pure
open Go.RowKit Go.Proofs.Ytghkgclbfjoilaa.R Go.Proofs.YtghkgclbfjoilaaW.PrintWords Go.Proofs.YtghkgclbfjoilaaW.PrintLast Go.Proofs.Ytghkgclbfjoilaa.Pl Go.Proofs.Ytghkgclbfjoilaa.Dec Go.Proofs.Ytghkgclbfjoilaa.PureR

theorem BerDecodes : rollbooklaw25_BerDecodes.Pure := by
  intro s _
  refine ev_out (g := fun k => rollbooklaw25_BerDecodes.f k s) ?_
  unfold rollbooklaw25_BerDecodes.f
  refine Ev.bind awake_ev ?_
  refine Ev.congr (fun k => if_pos rfl) ?_
  by_cases hb : (s.size : Int) > 20000
  · exact Ev.congr (fun k => if_pos hb) (Ev.now _)
  · refine Ev.congr (fun k => if_neg hb) ?_
    have hs : s.size ≤ 20000 := by omega
    refine Ev.bind (g := fun k => ber_Decode.f k s) ⟨0, fun k _ => decode_f k s hs⟩ ?_
    refine Ev.bind (refDecode_ev s hs) ?_
    refine Ev.bind (length_ev s (by omega)) ?_
    refine Ev.bind (total_ev s (by omega)) ?_
    refine Ev.congr (fun k => if_pos rfl) ?_
    refine Ev.congr (fun k => if_pos rfl) ?_
    refine Ev.bind (same_ev (decF s).1 (by have := decF_tot s hs; omega)) ?_
    refine Ev.congr (fun k => if_pos rfl) ?_
    refine Ev.congr (fun k => if_pos rfl) ?_
    refine Ev.congr (f := fun _ => some true) (fun k => ?_) (Ev.now _)
    simp
end Go.Proofs.Ytghkgclbfjoilaa.Pure
