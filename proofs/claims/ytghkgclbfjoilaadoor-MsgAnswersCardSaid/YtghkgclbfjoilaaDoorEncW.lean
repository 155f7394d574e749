/- ber.encode at this program: the walk. -/
import Derived.Test.YtghkgclbfjoilaaDoorR0
import Derived.Test.YtghkgclbfjoilaaDoorR2
import Derived.Test.YtghkgclbfjoilaaDoorBld
import Derived.Test.YtghkgclbfjoilaaDoorPl
import Derived.Outline
set_option linter.unusedVariables false
set_option linter.unusedSimpArgs false
namespace Go.Proofs.YtghkgclbfjoilaaDoor.R
open Go.RowKit Go.Proofs.YtghkgclbfjoilaaDoorW.PrintWords Go.Proofs.YtghkgclbfjoilaaDoorW.PrintLast Go.Proofs.YtghkgclbfjoilaaDoorW.PrintMore Go.Proofs.YtghkgclbfjoilaaDoor.Pl
open Bld (IsB)

/-- a length, as bytes -/
def lenB (n : Nat) : List UInt8 := if n < 128 then [n.toUInt8] else if n < 256 then [129, n.toUInt8] else if n < 65536 then [130, (n / 256).toUInt8, (n % 256).toUInt8] else [131, (n / 65536).toUInt8, (n / 256 % 256).toUInt8, (n % 256).toUInt8]
theorem lenB_len (n : Nat) : (lenB n).length ≤ 4 ∧ 1 ≤ (lenB n).length := by
  unfold lenB; split
  · simp
  · split
    · simp
    · split <;> simp
def headB (cls : Int) (cons : Bool) (tag : Int) : Nat := (64 * cls + tag + if cons then 32 else 0).toNat
def finB (h : Nat) (body : List UInt8) : ByteArray × Bool := if 8192 < body.length then ((⟨#[]⟩ : ByteArray), false) else ((⟨(h.toUInt8 :: (lenB body.length ++ body)).toArray⟩ : ByteArray), decide ((h.toUInt8 :: (lenB body.length ++ body)).length ≤ 8192))
def encLoop (F : S44 → Option (ByteArray × Bool)) : List S44 → List UInt8 → Option (Option (List UInt8))
  | [], acc => some (some acc)
  | x :: l, acc => (F x).bind fun r => if r.2 = true ∧ acc.length + r.1.size ≤ 8192 then encLoop F l (acc ++ L r.1) else some none
def encF : Nat → S44 → Option (ByteArray × Bool)
  | 0, _ => none
  | k + 1, x => if 0 ≤ x.f0 ∧ x.f0 ≤ 3 ∧ 0 ≤ x.f2 ∧ x.f2 ≤ 30 ∧ x.f4.length < 140737488355328 then (if x.f1 = true then (encLoop (encF k) x.f4 []).bind fun o => some (match o with | none => ((⟨#[]⟩ : ByteArray), false) | some b => finB (headB x.f0 true x.f2) b) else some (finB (headB x.f0 false x.f2) (L x.f3))) else none
theorem encLoop_mono {F G : S44 → Option (ByteArray × Bool)} (h : ∀ x, LeO (F x) (G x)) : ∀ (l : List S44) (acc : List UInt8), LeO (encLoop F l acc) (encLoop G l acc) := by
  intro l
  induction l with
  | nil => intro acc r hr; exact hr
  | cons x l ih =>
    intro acc r hr
    simp only [encLoop] at hr ⊢
    cases hx : F x with
    | none => rw [hx] at hr; cases hr
    | some y =>
      rw [hx] at hr
      rw [h x y hx]
      simp only [Option.bind_some] at hr ⊢
      split at hr
      · rename_i hc; rw [if_pos hc]; exact ih _ _ hr
      · rename_i hc; rw [if_neg hc]; exact hr
theorem encF_mono : ∀ (k : Nat) (x : S44), LeO (encF k x) (encF (k + 1) x) := by
  intro k
  induction k with
  | zero => intro x r h; cases h
  | succ k ih =>
    intro x r h
    simp only [encF] at h ⊢
    split at h
    · rename_i h1
      rw [if_pos h1]
      split at h
      · rename_i h2
        rw [if_pos h2]
        cases ho : encLoop (encF k) x.f4 [] with
        | none => rw [ho] at h; cases h
        | some o =>
          rw [ho] at h
          have := encLoop_mono ih x.f4 [] o ho
          simp only [encF] at this
          rw [this]; exact h
      · rename_i h2; rw [if_neg h2]; exact h
    · cases h

theorem finB_size {h : Nat} {b : List UInt8} {s : ByteArray} {ok : Bool} (e : finB h b = (s, ok)) (hk : ok = true) : s.size ≤ 8192 := by
  subst hk
  unfold finB at e
  split at e
  · cases e
  · obtain ⟨rfl, e2⟩ := Prod.mk.inj e
    rw [size_mk]
    exact of_decide_eq_true e2
theorem encF_size : ∀ (k : Nat) (x : S44) (s : ByteArray), encF k x = some (s, true) → s.size ≤ 8192 := by
  intro k x s h
  cases k with
  | zero => cases h
  | succ k =>
    simp only [encF] at h
    split at h
    · split at h
      · obtain ⟨o, _, h2⟩ := Option.bind_eq_some_iff.mp h
        have h3 := Option.some.inj h2
        cases o with
        | none => cases h3
        | some b => exact finB_size h3 rfl
      · exact finB_size (Option.some.inj h) rfl
    · cases h
/-! ber.length, plainly -/
theorem or128 : ∀ n : Fin 5, Go.bits .or .i64 128 (n.1 : Int) = 128 + n.1 := by decide +kernel
theorem l0_pos (k : Nat) (l : List Int) (n : Nat) (h : 0 < n) (hl : l.length < 100) : ber_length.l0 (k + 1) l (n : Int) = ber_length.l0 k (((n % 256 : Nat) : Int) :: l) ((n / 256 : Nat) : Int) := by
  simp only [ber_length.l0]
  rw [if_pos (by omega)]
  simp only [Option.bind_some, List.length_singleton]
  rw [if_pos (by omega)]
  rfl
theorem l0_zero (k : Nat) (l : List Int) (hl : l.length < 5) : ber_length.l0 (k + 1) l ((0 : Nat) : Int) = some (strOfNums ((128 + l.length : Int) :: l)) := by
  simp only [ber_length.l0]
  rw [if_neg (by omega)]
  simp only [Option.bind_some, List.length_singleton]
  rw [if_pos (by omega)]
  have e := or128 ⟨l.length, hl⟩
  simp only at e
  rw [e, Int.emod_eq_of_lt (by omega) (by omega)]
  rfl
theorem len1 (k n : Nat) (h : n < 128) : ber_length.f k (n : Int) = some ⟨(lenB n).toArray⟩ := by
  unfold ber_length.f
  rw [if_pos (by omega)]
  congr 1
  apply L_ext
  rw [L_nums, L_mk, lenB, if_pos h]
  simp only [List.map_cons, List.map_nil]
  rw [Int.emod_eq_of_lt (by omega) (by omega)]
  rfl
theorem length_ev (n : Nat) (hn : n < 16777216) : Ev (fun k => ber_length.f k (n : Int)) (⟨(lenB n).toArray⟩ : ByteArray) := by
  refine Ev.of (fun k => ber_length.mono _ k) (k := 5) ?_
  rcases Nat.lt_or_ge n 128 with h0 | h0
  · exact len1 5 n h0
  unfold ber_length.f
  rw [if_neg (by omega), l0_pos 4 _ n (by omega) (by simp)]
  rcases Nat.lt_or_ge n 256 with h1 | h1
  · rw [show n / 256 = 0 by omega, l0_zero 3 _ (by simp)]
    congr 1
    apply L_ext
    rw [L_nums, L_mk, lenB, if_neg (by omega), if_pos h1]
    simp [Nat.mod_eq_of_lt h1]
  rw [l0_pos 3 _ (n / 256) (by omega) (by simp)]
  rcases Nat.lt_or_ge n 65536 with h2 | h2
  · rw [show n / 256 / 256 = 0 by omega, l0_zero 2 _ (by simp)]
    congr 1
    apply L_ext
    rw [L_nums, L_mk, lenB, if_neg (by omega), if_neg (by omega), if_pos h2]
    have e : n / 256 % 256 = n / 256 := by omega
    rw [e]
    simp
    exact ⟨congrArg _ (by omega), congrArg _ (by omega)⟩
  rw [l0_pos 2 _ (n / 256 / 256) (by omega) (by simp)]
  rw [show n / 256 / 256 / 256 = 0 by omega, l0_zero 1 _ (by simp)]
  congr 1
  apply L_ext
  rw [L_nums, L_mk, lenB, if_neg (by omega), if_neg (by omega), if_neg (by omega)]
  have e : n / 256 / 256 % 256 = n / 65536 := by omega
  rw [e]
  simp
  exact ⟨congrArg _ (by omega), congrArg _ (by omega), congrArg _ (by omega)⟩
end Go.Proofs.YtghkgclbfjoilaaDoor.R
