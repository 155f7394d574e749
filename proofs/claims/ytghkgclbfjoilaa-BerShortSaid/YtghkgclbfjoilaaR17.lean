-- Written by a program of this claim (wip/tools/pp.py) out of the translation.
import Derived.Test.YtghkgclbfjoilaaR0
import Derived.Test.YtghkgclbfjoilaaRefX
namespace Go.Proofs.Ytghkgclbfjoilaa.R
open Go.RowKit Go.Proofs.YtghkgclbfjoilaaW.PrintWords Go.Proofs.YtghkgclbfjoilaaW.PrintLast Go.Proofs.YtghkgclbfjoilaaW.PrintMore
attribute [local go_sem] max2_int min2_int max_two min_two max_three min_three max_four min_four   -- for this text's walks alone
set_option linter.unusedVariables false
set_option linter.unusedSimpArgs false

/-! ### rollbookref25_Value: function 41, by hand -/
def rollbookref25_Value.f (k : Nat) (a0 : ByteArray) (a1 : Int) : Option (Int × Bool × Int × ByteArray × (List (S44)) × Int) := if a0.size ≤ 20000 ∧ 1 ≤ a1 ∧ a1 ≤ 16 then some ((Dec.vr (Dec.valL (17 - a1.toNat) a0)).1.f0, (Dec.vr (Dec.valL (17 - a1.toNat) a0)).1.f1, (Dec.vr (Dec.valL (17 - a1.toNat) a0)).1.f2, (Dec.vr (Dec.valL (17 - a1.toNat) a0)).1.f3, (Dec.vr (Dec.valL (17 - a1.toNat) a0)).1.f4, ((Dec.vr (Dec.valL (17 - a1.toNat) a0)).2 : Int)) else none
theorem rollbookref25_Value.mono : ∀ a0 a1 k, LeO (rollbookref25_Value.f k a0 a1) (rollbookref25_Value.f (k + 1) a0 a1) := fun _ _ _ => LeO.refl _
theorem rollbookref25_Value.calls (k : Nat) : ∀ (a0 : ByteArray) (a1 : Int) (r1 : Int) (r2 : Bool) (r3 : Int) (r4 : ByteArray) (r5 : List (S44)) (r6 : Int) (w : World) (h : rollbookref25_Value.f k a0 a1 = some (r1, r2, r3, r4, r5, r6)),
    Calls Try.prog 41 #[.string a0, .int .i64 a1] w fun e w' => ∃ v4_ : Value, e = .returned (.tuple #[.agg #[.int .i64 r1, .bool r2, .int .i64 r3, .string r4, v4_], .int .i64 r6]) ∧ Kd.R k44 44 w' w.heap.size (fun _ => True) v4_ r5 ∧ Below w.heap.size w w' := by
  intro a0 a1 r1 r2 r3 r4 r5 r6 w h
  unfold rollbookref25_Value.f at h
  split at h
  · rename_i hs
    obtain ⟨hs, h1, h2⟩ := hs
    obtain ⟨d, rfl⟩ := Int.eq_ofNat_of_zero_le (show 0 ≤ a1 by omega)
    rw [Int.toNat_natCast] at h
    simp only [Option.some.injEq, Prod.mk.injEq] at h
    obtain ⟨rfl, rfl, rfl, rfl, rfl, rfl⟩ := h
    have e : 17 - d = (16 - d) + 1 := by omega
    rw [e]
    refine (Dec.refvalue_walk (16 - d) d (by omega) (by omega) a0 w hs).mono ?_
    rintro e w1 ⟨hb, v4, he, hR⟩
    exact ⟨v4, he, hR, hb⟩
  · cases h


end Go.Proofs.Ytghkgclbfjoilaa.R
