/- b64.Hex: it writes two digits a byte. -/
import Derived.Test.YtlifgoafmpkibaaBld
import Derived.LoopTactic
import Derived.Laws.BitsLemmas
import Derived.Outline
set_option linter.unusedVariables false
set_option linter.unusedSimpArgs false
namespace Go.Proofs.Ytlifgoafmpkibaa.Bld
open Go.RowKit

def hexDigit (n : Nat) : UInt8 := if n < 10 then (48 + n).toUInt8 else (87 + n).toUInt8
def hexL : List UInt8 → List UInt8
  | [] => []
  | b :: l => hexDigit (b.toNat / 16) :: hexDigit (b.toNat % 16) :: hexL l
theorem hexL_length (l : List UInt8) : (hexL l).length = 2 * l.length := by
  induction l with
  | nil => rfl
  | cons b l ih => simp only [hexL, List.length_cons, ih]; omega
theorem hexL_append (a b : List UInt8) : hexL (a ++ b) = hexL a ++ hexL b := by
  induction a with
  | nil => rfl
  | cons x a ih => simp only [List.cons_append, hexL, ih]
theorem take_snoc (s : ByteArray) (k : Nat) (h : k < s.size) : s.data.toList.take (k + 1) = s.data.toList.take k ++ [s[k]] := by
  rw [List.take_succ_eq_append_getElem (by simpa using h)]; rfl
theorem digits_at : ∀ n : Fin 16, (⟨#[48, 49, 50, 51, 52, 53, 54, 55, 56, 57, 97, 98, 99, 100, 101, 102]⟩ : ByteArray)[n.1]'n.2 = hexDigit n.1 := by decide
theorem digits_get (n : Nat) (h : n < 16) : ((⟨#[48, 49, 50, 51, 52, 53, 54, 55, 56, 57, 97, 98, 99, 100, 101, 102]⟩ : ByteArray)[n]'h).toNat = (hexDigit n).toNat := congrArg UInt8.toNat (digits_at ⟨n, h⟩)
theorem u8_back (b : UInt8) : ((b.toNat : Int)).toNat.toUInt8 = b := by simp
theorem u8_le (b : UInt8) : ((b.toNat : Int)) ≤ 255 := by have := b.toNat_lt; omega

set_option maxHeartbeats 1000000 in
set_option maxRecDepth 100000 in
theorem hex_any (s : ByteArray) (w : World) (hs : s.size ≤ 35184372088832) :
    Calls Try.prog 9 #[.string s] w fun e w' => e = .returned (.string ⟨(hexL s.data.toList).toArray⟩) ∧ Below w.heap.size w w' := by
  go_enter Try.func9, Try.ntmps9
  go_wp2
  go_loopw [7] (fun i wr => ∃ k : Nat, k ≤ s.size ∧ i = .int .i64 k ∧ IsB w.heap.size w.heap.size (hexL (s.data.toList.take k)) wr ∧ Below w.heap.size w wr) (fun i _ => s.size - (intOf i).toNat)
  case atStart => exact ⟨0, Nat.zero_le _, rfl, isB_fresh _ w (Nat.le_refl _), (Below.refl _ _).alloc (Nat.le_refl _) _⟩
  case round =>
    obtain ⟨k, hk, rfl, hB, hb⟩ := hrel
    have hlen : (hexL (s.data.toList.take k)).length ≤ 2 * k := by
      rw [hexL_length, List.length_take]; omega
    by_cases hlt : k < s.size
    · obtain ⟨c, hc⟩ : ∃ c : Nat, c = s[k].toNat := ⟨_, rfl⟩
      have hc255 : c ≤ 255 := by have := s[k].toNat_lt; omega
      have hsn : hexL (s.data.toList.take (k + 1)) = hexL (s.data.toList.take k) ++ [hexDigit (c / 16)] ++ [hexDigit (c % 16)] := by
        rw [take_snoc s k hlt, hexL_append, hc]; simp [hexL]
      have HS := Lib.hid hsn
      have hcc : ∀ h : k < s.size, (s[k]'h).toNat = c := fun _ => hc.symm
      clear hc hsn
      have hd1 : ∀ h, ((⟨#[48, 49, 50, 51, 52, 53, 54, 55, 56, 57, 97, 98, 99, 100, 101, 102]⟩ : ByteArray)[c / 16]'h).toNat = (hexDigit (c / 16)).toNat := fun h => digits_get _ h
      have hd2 : ∀ h, ((⟨#[48, 49, 50, 51, 52, 53, 54, 55, 56, 57, 97, 98, 99, 100, 101, 102]⟩ : ByteArray)[c % 16]'h).toNat = (hexDigit (c % 16)).toNat := fun h => digits_get _ h
      have hand : Go.bits .and .u8 (c : Int) 15 = ((c % 16 : Nat) : Int) := by rw [u8_and15 _ (by omega) (by omega)]; omega
      go_wp2_with fail
      refine (writeByte _ _ _ _ _ hB (by omega) (u8_le _) (by omega) hb.size).mono ?_
      rintro e w1 ⟨rfl, hB1, hb1⟩
      rw [u8_back] at hB1
      go_wp2_with fail
      refine (writeByte _ _ _ _ _ hB1 (by omega) (u8_le _) (by simp; omega) (Nat.le_trans hb.size hb1.size)).mono ?_
      rintro e w2 ⟨rfl, hB2, hb2⟩
      rw [u8_back, ← HS.out] at hB2
      go_wp2
      go_roundw
      case rel => exact ⟨k + 1, by omega, by go_num, hB2, (hb.trans hb1).trans hb2⟩
      case measure => simp [intOf]; omega
    · have hkk : s.data.toList.take k = s.data.toList := List.take_of_length_le (by simp; omega)
      rw [hkk] at hB
      clear hkk hlen
      go_wp2_with fail
      refine (string_any _ _ _ _ hB hb.size).mono ?_
      rintro e w1 ⟨rfl, hb1⟩
      go_wp2
      go_ret
      exact ⟨rfl, hb.trans hb1⟩
end Go.Proofs.Ytlifgoafmpkibaa.Bld
