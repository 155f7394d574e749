/- rollbookref25.Bytes at this program: what it computes, and words for its walk. -/
import Derived.Test.YtghkgclbfjoilaaR0
import Derived.Test.YtghkgclbfjoilaaR10
import Derived.Test.YtghkgclbfjoilaaEncW
import Derived.Test.YtghkgclbfjoilaaMark
set_option linter.unusedVariables false
set_option linter.unusedSimpArgs false
namespace Go.Proofs.Ytghkgclbfjoilaa.R
open Go.RowKit Go.Proofs.YtghkgclbfjoilaaW.PrintWords Go.Proofs.YtghkgclbfjoilaaW.PrintLast Go.Proofs.YtghkgclbfjoilaaW.PrintMore Go.Proofs.Ytghkgclbfjoilaa.Pl Go.Proofs.Ytghkgclbfjoilaa.Mark Go.Lib

def upB (l : List UInt8) : List Int := l.map fun u => (u.toNat : Int)
theorem upB_len (l : List UInt8) : (upB l).length = l.length := by simp [upB]
theorem upB_cells (l : List UInt8) : encs (Value.int .u8) (upB l) = byteCells l := by simp [encs, upB, byteCells]
def refFin (h : Nat) (b : List UInt8) : List UInt8 := h.toUInt8 :: (lenB b.length ++ b)
def refLoop (F : S44 → Option (List UInt8)) : List S44 → List UInt8 → Option (List UInt8)
  | [], acc => some acc
  | x :: l, acc => if acc.length ≤ 20000 then (F x).bind fun b => (if 0 < b.length ∧ b.length < 1000000 then refLoop F l (acc ++ b) else none) else some acc
def refF : Nat → S44 → Option (List UInt8)
  | 0, _ => none
  | k + 1, x => if 0 ≤ x.f0 ∧ x.f0 ≤ 3 ∧ 0 ≤ x.f2 ∧ x.f2 ≤ 30 ∧ x.f4.length < 140737488355328 ∧ x.f3.size ≤ 1000000 then (if x.f1 = true then (refLoop (refF k) x.f4 (L x.f3)).bind fun b => (if b.length < 16777216 then some (refFin (headB x.f0 true x.f2) b) else none) else some (refFin (headB x.f0 false x.f2) (L x.f3))) else none
theorem refLoop_mono {F G : S44 → Option (List UInt8)} (h : ∀ x, LeO (F x) (G x)) : ∀ (l : List S44) (acc : List UInt8), LeO (refLoop F l acc) (refLoop G l acc) := by
  intro l
  induction l with
  | nil => intro acc r hr; exact hr
  | cons x l ih =>
    intro acc r hr
    simp only [refLoop] at hr ⊢
    split at hr
    · rename_i h0
      rw [if_pos h0]
      cases hx : F x with
      | none => rw [hx] at hr; cases hr
      | some y =>
        rw [hx] at hr
        rw [h x y hx]
        simp only [Option.bind_some] at hr ⊢
        split at hr
        · rename_i hc; rw [if_pos hc]; exact ih _ _ hr
        · cases hr
    · rename_i h0; rw [if_neg h0]; exact hr
theorem refF_mono : ∀ (k : Nat) (x : S44), LeO (refF k x) (refF (k + 1) x) := by
  intro k
  induction k with
  | zero => intro x r h; cases h
  | succ k ih =>
    intro x r h
    simp only [refF] at h ⊢
    split at h
    · rename_i h1
      rw [if_pos h1]
      split at h
      · rename_i h2
        rw [if_pos h2]
        cases ho : refLoop (refF k) x.f4 (L x.f3) with
        | none => rw [ho] at h; cases h
        | some o =>
          rw [ho] at h
          have := refLoop_mono ih x.f4 (L x.f3) o ho
          simp only [refF] at this
          rw [this]; exact h
      · rename_i h2; rw [if_neg h2]; exact h
    · cases h
theorem refLength (n : Nat) (hn : n < 16777216) : rollbookref25_Length.f (n : Int) = some (upB (lenB n)) := by
  unfold rollbookref25_Length.f lenB
  have d1 : Int.tdiv (n : Int) 256 = ((n / 256 : Nat) : Int) := rfl
  have d2 : Int.tdiv (n : Int) 65536 = ((n / 65536 : Nat) : Int) := rfl
  have d3 : Int.tmod (n : Int) 256 = ((n % 256 : Nat) : Int) := rfl
  have d4 : Int.tmod ((n / 256 : Nat) : Int) 256 = ((n / 256 % 256 : Nat) : Int) := rfl
  rcases Nat.lt_or_ge n 128 with h0 | h0
  · rw [if_pos (show (n : Int) < 128 by omega), if_pos h0]
    simp [upB]
  rw [if_neg (show ¬ (n : Int) < 128 by omega), if_neg (show ¬ n < 128 by omega)]
  rcases Nat.lt_or_ge n 256 with h1 | h1
  · rw [if_pos (show (n : Int) < 256 by omega), if_pos h1]
    simp [upB]
  rw [if_neg (show ¬ (n : Int) < 256 by omega), if_neg (show ¬ n < 256 by omega)]
  rcases Nat.lt_or_ge n 65536 with h2 | h2
  · rw [if_pos (show (n : Int) < 65536 by omega), if_pos h2, d1, d3, w64 (x := ((n / 256 : Nat) : Int)) (by omega) (by omega)]
    simp [upB]
  rw [if_neg (show ¬ (n : Int) < 65536 by omega), if_neg (show ¬ n < 65536 by omega), d1, d2, d3, w64 (x := ((n / 256 : Nat) : Int)) (by omega) (by omega), w64 (x := ((n / 65536 : Nat) : Int)) (by omega) (by omega), d4]
  simp [upB]
theorem rowCells {w : World} {A : Option Addr} {n : Nat} {bs : List UInt8} (h : Kd.C (Kd.int .u8) w A n (upB bs)) (h0 : 0 < bs.length) : ∃ ad, A = some ad ∧ ∀ j u, (byteCells bs)[j]? = some u → w.cell? (ad.add j) = some u := by
  obtain ⟨h1, _, h3⟩ := h
  rw [upB_len] at h1
  obtain ⟨ad, e, hc⟩ := h3 (by omega)
  refine ⟨ad, e, fun j u hu => ?_⟩
  rw [← upB_cells] at hu
  simp only [encs, List.getElem?_map, Option.map_eq_some_iff] at hu
  obtain ⟨p, hp, rfl⟩ := hu
  obtain ⟨c, hc1, hc2, hc3⟩ := hc j p hp
  have hc4 : c = [Value.int .u8 p] := hc2
  subst hc4
  have := hc3 0 _ rfl
  have hj : j * (Kd.int IntKind.u8).sz + 0 = j := by show j * 1 + 0 = j; omega
  rwa [hj] at this
theorem rOwn {w : World} {base : Nat} {ok : Nat → Prop} {v : Value} {bs : List UInt8} (h : w.ownsRow base 5 1 v bs.length (byteCells bs)) (hok : ∀ k, v.ownBlock = some k → ok k) : Kd.R (Kd.int .u8) 5 w base ok v (upB bs) := by
  refine Kd.R_of_own ?_ hok
  rw [upB_cells, upB_len]
  exact h
section
variable {P : Program} {w : World}
theorem wpList_append_z {ops : Array Oper} {rest : List Oper} {o : Oper} {a : Act} {Q : Exit → Act → World → Prop} (hgd : o.guard = none) (s x : Operand) (t : TypeId)
    (ho : o.op = .call { callee := .builtin .append, args := #[s, x], argTypes := #[t, t] })
    (base : Nat) (e : TypeId) (i : TypeInfo) (ht : P.underlying t = some (.slice e)) (hi : P.info? e = some i) (hz : i.zero = some (.int .u8 0)) (hsize : i.size = 1) (hby : i.bytes = 1)
    (v : Value) (bs : List UInt8) (hs : a.eval s = v) (hown : w.ownsRow base e 1 v bs.length (byteCells bs)) (ad : Addr) (c : Nat) (ns : List UInt8) (hx : a.eval x = .slice (some ad) ns.length c) (hnews : ∀ j u, (byteCells ns)[j]? = some u → w.cell? (ad.add j) = some u)
    (hlen : bs.length + ns.length ≤ 140737488355328) (hbase : base ≤ w.heap.size)
    (h : ∀ v' w', w'.ownsRow base e 1 v' (bs ++ ns).length (byteCells (bs ++ ns)) → w.grownBy w' v.ownBlock → wpList P ops Q rest (a.put o.dst v') w') : wpList P ops Q (o :: rest) a w := by
  refine wpList_append_own w hgd s x t ho base e i (.int .u8 0) 1 1 ht hi hz hsize hby rfl (by decide) v bs.length (byteCells bs) hs hown ad ns.length c (byteCells ns) hx (by rw [byteCells_length, Nat.mul_one]) hnews (byteCells_one ns) (by unfold maxLen; omega) (by omega) hbase ?_
  intro v' w' h1 h2 _
  refine h v' w' ?_ h2
  rw [List.length_append, byteCells_append]
  exact h1
end
end Go.Proofs.Ytghkgclbfjoilaa.R
