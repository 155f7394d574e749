/- Plain facts on bytes: a string as the list of its bytes. -/
import Derived.Test.YtghkgclbfjoilaaDoorWMore
set_option linter.unusedVariables false
set_option linter.unusedSimpArgs false
namespace Go.Proofs.YtghkgclbfjoilaaDoor.Pl
open Go.RowKit Go.Proofs.YtghkgclbfjoilaaDoorW.PrintWords Go.Proofs.YtghkgclbfjoilaaDoorW.PrintLast Go.Proofs.YtghkgclbfjoilaaDoorW.PrintMore

def L (s : ByteArray) : List UInt8 := s.data.toList
theorem L_len (s : ByteArray) : (L s).length = s.size := by rw [L, Array.length_toList]; rfl
theorem L_ext {s t : ByteArray} (h : L s = L t) : s = t := by
  cases s; cases t; simp only [L] at h; congr 1; exact Array.toList_inj.mp h
theorem L_iff {s t : ByteArray} : L s = L t ↔ s = t := ⟨L_ext, fun h => h ▸ rfl⟩
theorem toL (s : ByteArray) : s.toList = L s := by rw [ByteArray.toList_eq]; rfl
theorem L_mk (l : List UInt8) : L ⟨l.toArray⟩ = l := rfl
theorem L_arr (a : Array UInt8) : L ⟨a⟩ = a.toList := rfl
theorem mk_L (s : ByteArray) : (⟨(L s).toArray⟩ : ByteArray) = s := L_ext rfl
theorem L_app (s t : ByteArray) : L (s ++ t) = L s ++ L t := by simp [L, ByteArray.data_append]
theorem L_cut (s : ByteArray) (a b : Nat) : L (s.extract a b) = ((L s).take b).drop a := by
  simp only [L, ByteArray.data_extract, Array.toList_extract, List.extract_eq_take_drop]
  rw [List.drop_take]
theorem L_from (s : ByteArray) (a : Nat) : L (s.extract a s.size) = (L s).drop a := by
  rw [L_cut, ← L_len, List.take_length]
theorem L_to (s : ByteArray) (b : Nat) : L (s.extract 0 b) = (L s).take b := by rw [L_cut, List.drop_zero]
theorem size_mk (l : List UInt8) : (⟨l.toArray⟩ : ByteArray).size = l.length := by rw [← L_len, L_mk]
theorem size_cut (s : ByteArray) (a b : Nat) : (s.extract a b).size = min b s.size - a := by simp
theorem L_nums (xs : List Int) : L (strOfNums xs) = xs.map fun n => UInt8.ofNat n.toNat := rfl
theorem size_nums (xs : List Int) : (strOfNums xs).size = xs.length := strOfNums_size xs
theorem bt_get (s : ByteArray) (i : Nat) : bt s (i : Int) = (((L s).getD i 0).toNat : Int) := by
  unfold bt
  split
  · rename_i h
    have h' : i < (L s).length := by rw [L_len]; simpa using h
    rw [List.getD_eq_getElem?_getD, List.getElem?_eq_getElem h']; rfl
  · rename_i h
    have h' : (L s).length ≤ i := by rw [L_len]; simpa using h
    rw [List.getD_eq_getElem?_getD, List.getElem?_eq_none h']; rfl
theorem bt_at0 (s : ByteArray) {i : Int} (h : 0 ≤ i) : bt s i = (((L s).getD i.toNat 0).toNat : Int) := by
  obtain ⟨n, rfl⟩ := Int.eq_ofNat_of_zero_le h
  exact bt_get s n
theorem bt_r (s : ByteArray) (i : Int) : 0 ≤ bt s i ∧ bt s i ≤ 255 := bt_range s i
theorem w64 {x : Int} (h0 : -9223372036854775808 ≤ x) (h1 : x ≤ 9223372036854775807) : wrap64 x = x := by unfold wrap64; omega
theorem ofNat_toNat (b : UInt8) : UInt8.ofNat ((b.toNat : Int)).toNat = b := by simp
/-- what a function of rounds comes to, from some number of rounds on -/
theorem ev_if_pos {α : Type} {c : Prop} [Decidable c] {g f : Nat → Option α} {r : α} (h : c) (k : Ev g r) : Ev (fun n => if c then g n else f n) r := by
  simpa [if_pos h] using k
theorem ev_bind_some {α β : Type} {x : α} {f : Nat → α → Option β} {r : β} (k : Ev (fun n => f n x) r) : Ev (fun n => (some x).bind (f n)) r := by simpa using k
theorem ev_const {α : Type} {x : Option α} {r : α} (h : x = some r) : Ev (fun _ => x) r := ⟨0, fun _ _ => h⟩
theorem ev_out {α : Type} {g : Nat → Option α} {r : α} (h : Ev g r) : ∃ k, g k = some r := h.rounds
end Go.Proofs.YtghkgclbfjoilaaDoor.Pl
