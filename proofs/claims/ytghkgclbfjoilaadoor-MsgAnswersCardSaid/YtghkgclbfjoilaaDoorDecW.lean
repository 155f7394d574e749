/- ber.whole and ber.value at this program: what they compute, panics told. -/
import Derived.Test.YtghkgclbfjoilaaDoorHdR
import Derived.Test.YtghkgclbfjoilaaDoorTreB
import Derived.WalkLawsBesides
import Derived.Deep.RegionHeld3
set_option linter.unusedVariables false
set_option linter.unusedSimpArgs false
namespace Go.Proofs.YtghkgclbfjoilaaDoor.Dec
open Go.RowKit Go.Proofs.YtghkgclbfjoilaaDoorW.PrintWords Go.Proofs.YtghkgclbfjoilaaDoorW.PrintLast Go.Proofs.YtghkgclbfjoilaaDoorW.PrintMore Go.Proofs.YtghkgclbfjoilaaDoor.Pl Go.Proofs.YtghkgclbfjoilaaDoor.R Go.Proofs.YtghkgclbfjoilaaDoor.PureR

def okW (l : List UInt8) : Prop := (headL l).2.2 = 0 ∧ (headL l).1 + (headL l).2.1 ≤ l.length
instance (l : List UInt8) : Decidable (okW l) := by unfold okW; infer_instance
def lenW (l : List UInt8) : Nat := (headL l).1 + (headL l).2.1
def kidsL (F : ByteArray → Sum Nat S44) (top : Bool) : Nat → ByteArray → List S44 → Sum Nat (List S44)
  | 0, _, acc => .inr acc
  | m + 1, s, acc => if s.size = 0 then .inr acc else if top = true then .inl 13 else if okW (L s) then (match F (s.extract 0 (lenW (L s))) with | .inl c => .inl c | .inr t => kidsL F top m (s.extract (lenW (L s)) s.size) (acc ++ [t])) else .inl 4
def b0 (s : ByteArray) : Nat := ((L s).getD 0 0).toNat
def valL : Nat → ByteArray → Sum Nat S44
  | 0, _ => .inl 13
  | j + 1, s => if (headL (L s)).2.2 = 0 ∧ (headL (L s)).1 + (headL (L s)).2.1 = s.size then (if b0 s / 32 % 2 = 1 then (match kidsL (valL j) (j == 0) s.size (s.extract (headL (L s)).1 s.size) [] with | .inl c => .inl c | .inr ks => .inr ⟨(b0 s / 64 : Nat), true, (b0 s % 32 : Nat), ⟨#[]⟩, ks⟩) else .inr ⟨(b0 s / 64 : Nat), false, (b0 s % 32 : Nat), s.extract (headL (L s)).1 s.size, []⟩) else .inl 4

theorem head_calls (s : ByteArray) (hs : s.size ≤ 1000000) (w : World) : Calls Tryd.prog 72 #[.string s] w fun e w' => e = .returned (.tuple #[.int .i64 ((headL (L s)).1 : Nat), .int .i64 ((headL (L s)).2.1 : Nat), .int .i64 ((headL (L s)).2.2 : Nat)]) ∧ Below w.heap.size w w' := by
  obtain ⟨k, hk⟩ := ev_out (head_ev s (by omega))
  refine (ber_head.calls k s _ _ _ w hk).mono ?_
  rintro e w1 ⟨rfl, h⟩
  exact ⟨rfl, h.below⟩

abbrev panics (c : Nat) : Ending := .panicked [{ v := .iface 95 (.int .i64 (c : Int)), recovered := false }]

set_option maxHeartbeats 2000000 in
set_option maxRecDepth 100000 in
theorem whole_bad (s : ByteArray) (hs : s.size ≤ 1000000) (w : World) (h : ¬ okW (L s)) : Calls Tryd.prog 73 #[.string s] w fun e w' => e = .panicked [{ v := .iface 95 (.int .i64 4), recovered := false }] ∧ Below w.heap.size w w' := by
  have hb := headL_bound (L s)
  unfold okW at h
  rw [L_len] at h
  have HH := Aside0.mk (head_calls s hs)
  generalize (headL (L s)).1 = a at *
  generalize (headL (L s)).2.1 = n at *
  generalize (headL (L s)).2.2 = c at *
  go_enter Tryd.func73, Tryd.ntmps73
  by_cases hc : c = 0
  · subst hc
    have hd : decide (((s.size : Int) - (a : Int)) < (n : Int)) = true := decide_eq_true (by omega)
    go_wp2_with (go_at_call 72; refine (HH.out _).mono ?_; rintro e w1 ⟨rfl, hbb⟩)
    exact ⟨rfl, rfl, hbb⟩
  · have hd : ((c : Int) != 0) = true := by simpa using hc
    go_wp2_with (go_at_call 72; refine (HH.out _).mono ?_; rintro e w1 ⟨rfl, hbb⟩)
    exact ⟨rfl, rfl, hbb⟩
set_option maxHeartbeats 2000000 in
set_option maxRecDepth 100000 in
theorem whole_ok (s : ByteArray) (hs : s.size ≤ 1000000) (w : World) (h : okW (L s)) : Calls Tryd.prog 73 #[.string s] w fun e w' => e = .returned (.int .i64 (lenW (L s) : Nat)) ∧ Below w.heap.size w w' := by
  have hb := headL_bound (L s)
  unfold okW at h
  unfold lenW
  rw [L_len] at h
  have HH := Aside0.mk (head_calls s hs)
  generalize (headL (L s)).1 = a at *
  generalize (headL (L s)).2.1 = n at *
  generalize (headL (L s)).2.2 = c at *
  obtain ⟨rfl, h⟩ := h
  have hd : decide (((s.size : Int) - (a : Int)) < (n : Int)) = false := decide_eq_false (by omega)
  go_enter Tryd.func73, Tryd.ntmps73
  go_wp2_with (go_at_call 72; refine (HH.out _).mono ?_; rintro e w1 ⟨rfl, hbb⟩)
  go_ret
  exact ⟨by go_num, hbb⟩
end Go.Proofs.YtghkgclbfjoilaaDoor.Dec
