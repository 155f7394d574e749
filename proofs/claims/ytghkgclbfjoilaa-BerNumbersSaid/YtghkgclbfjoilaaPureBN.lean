/- BerNumbers, plainly: the law answers true. -/
import Derived.Test.YtghkgclbfjoilaaR9
import Derived.Test.YtghkgclbfjoilaaNumR
import Derived.Test.YtghkgclbfjoilaaTreeR
set_option linter.unusedVariables false
set_option linter.unusedSimpArgs false
namespace Go.Proofs.Ytghkgclbfjoilaa.R
open Go.RowKit Go.Proofs.YtghkgclbfjoilaaW.PrintWords Go.Proofs.YtghkgclbfjoilaaW.PrintLast Go.Proofs.YtghkgclbfjoilaaW.PrintMore Go.Proofs.Ytghkgclbfjoilaa.Pl

def boolP (c : Bool) (s : ByteArray) : Bool × Int := if c = true then (false, 4) else if s.toList = ([0] : List UInt8) then (false, 0) else if s.toList = ([255] : List UInt8) then (true, 0) else (false, 4)
theorem bool_f (a0 : Int) (c : Bool) (a2 : Int) (s : ByteArray) (l : List S44) : ber_Bool.f a0 c a2 s l = some (boolP c s) := by
  unfold ber_Bool.f boolP
  split
  · rfl
  · split
    · rfl
    · split <;> rfl
theorem numbers_tail (x : S44) : Ev (fun k => rollbooklaw25_BerNumbers.j0 k false x.f0 x.f1 x.f2 x.f3 x.f4) true := by
  obtain ⟨a, c, t, s, l⟩ := x
  obtain ⟨h1, h2⟩ := number_ev a c t s l
  refine Ev.step (fun k => ?_) (Ev.bind (f := fun k (bt202 : Int × Int) => (rollbookref25_Number.f k a c t s l).bind fun bt204 => ((ber_Bool.f a c t s l).bind fun bt206 => (if c = true then (if bt202.1 = bt204.1 then (if bt202.2 = bt204.2 then (if (bt206.1 == false) = true then (some ((bt206.2 == 0) == false)) else (some false)) else (some false)) else (some false)) else (if bt202.1 = bt204.1 then (if bt202.2 = bt204.2 then (if (bt206.1 == (s.toList == ([255] : List UInt8))) = true then (if s.toList = ([255] : List UInt8) then (some ((bt206.2 == 0) == true)) else (some ((bt206.2 == 0) == (s.toList == ([0] : List UInt8))))) else (some false)) else (some false)) else (some false))))) h1 ?_)
  · simp only [rollbooklaw25_BerNumbers.j0]
    rw [if_neg (by decide)]
  · refine Ev.bind h2 ?_
    refine Ev.congr (f := fun _ => some true) (fun k => ?_) (Ev.now _)
    rw [bool_f, Option.bind_some]
    cases c with
    | true => simp [boolP]
    | false =>
      simp only [if_true, boolP]
      by_cases z0 : s.toList = ([0] : List UInt8)
      · simp [z0]
      · by_cases z5 : s.toList = ([255] : List UInt8)
        · simp [z5]
        · simp [z0, z5]
theorem numbers_true (a0 a1 n : Int) (h0 : -9223372036854775808 ≤ n) (h1 : n ≤ 9223372036854775807) (b : Bool) (x : S44) : ∃ k, rollbooklaw25_BerNumbers.f k a0 a1 n b x.f0 x.f1 x.f2 x.f3 x.f4 = some true := by
  obtain ⟨cs, ho, hc, hs⟩ := ofNumber_ev a0 a1 n h0 h1
  obtain ⟨r, hr, _⟩ := weigh_ev x 1 0 (by omega) (by omega)
  have hn := (number_ev a0 false a1 (strOfNums (up cs)) []).1
  have e : numP false (L (strOfNums (up cs))) = (n, 0) := by rw [L_up, numP, if_pos ⟨rfl, hc⟩, hs]
  rw [e] at hn
  have ht := numbers_tail x
  refine ev_out (g := fun k => rollbooklaw25_BerNumbers.f k a0 a1 n b x.f0 x.f1 x.f2 x.f3 x.f4) ?_
  unfold rollbooklaw25_BerNumbers.f
  refine Ev.bind awake_ev ?_
  refine Ev.congr (fun k => if_pos rfl) ?_
  refine Ev.bind hr ?_
  by_cases hb : r > 30000
  · exact Ev.congr (fun k => if_pos hb) (Ev.now _)
  · refine Ev.congr (fun k => if_neg hb) ?_
    refine Ev.bind ho ?_
    refine Ev.bind hn ?_
    refine Ev.congr (fun k => ?_) ht
    cases b with
    | true => simp [ber_OfBool.f, ber_Bool.f]; rfl
    | false => simp [ber_OfBool.f, ber_Bool.f]; rfl
end Go.Proofs.Ytghkgclbfjoilaa.R
