/- B64Encodes holds: any bytes have their letters, and are read from them as they were. -/
import Derived.Test.YtlifgoafmpkibaaQ4
import Derived.Test.YtlifgoafmpkibaaB64D
set_option linter.unusedVariables false
set_option linter.unusedSimpArgs false
namespace Go.Proofs.Ytlifgoafmpkibaa.Pure
open Go.RowKit Go.Proofs.Ytlifgoafmpkibaa.Q Go.Proofs.YtlifgoafmpkibaaW.PrintWords Go.Proofs.YtlifgoafmpkibaaW.PrintLast Go.Proofs.YtlifgoafmpkibaaW.PrintMore Go.Proofs.Ytlifgoafmpkibaa.Pl
open Bld (encL grp val3 letter)

theorem B64Encodes : rollbooklaw14_B64Encodes.Pure := by
  intro s hs0
  refine ev_out ?_
  unfold rollbooklaw14_B64Encodes.f
  rw [awake_b64]
  simp only [Option.bind_some, if_true]
  by_cases hs : (s.size : Int) > 3000
  · simp only [if_pos hs]; exact Ev.now true
  · simp only [if_neg hs, encode_f s (by omega), Option.bind_some]
    have hl := encL_le _ (L s) (Nat.le_refl _)
    rw [L_len] at hl
    refine Ev.bind (dec_ev _ (by rw [size_mk]; omega)) (Ev.bind (refEnc_ev s (by omega)) ?_)
    simp only [if_true, decR_enc]
    simpa using Ev.now true

end Go.Proofs.Ytlifgoafmpkibaa.Pure
