/- b64.Encode: it writes four letters for three bytes. -/
import Derived.Test.YtlifgoafmpkibaaHex
set_option linter.unusedVariables false
set_option linter.unusedSimpArgs false
namespace Go.Proofs.Ytlifgoafmpkibaa.Bld
open Go.RowKit

def letter (n : Nat) : UInt8 := if n < 26 then (65 + n).toUInt8 else if n < 52 then (71 + n).toUInt8 else if n < 62 then (n - 4).toUInt8 else if n = 62 then 43 else 47
def grp (n m : Nat) : List UInt8 := [letter (n / 262144 % 64), letter (n / 4096 % 64), if m < 2 then 61 else letter (n / 64 % 64), if m < 3 then 61 else letter (n % 64)]
def val3 (a b c : Nat) : Nat := (a * 256 + b) * 256 + c
def encL : List UInt8 → List UInt8
  | [] => []
  | [a] => grp (val3 a.toNat 0 0) 1
  | [a, b] => grp (val3 a.toNat b.toNat 0) 2
  | a :: b :: c :: r => grp (val3 a.toNat b.toNat c.toNat) 3 ++ encL r
theorem letters_at : ∀ n : Fin 64, (⟨#[65, 66, 67, 68, 69, 70, 71, 72, 73, 74, 75, 76, 77, 78, 79, 80, 81, 82, 83, 84, 85, 86, 87, 88, 89, 90, 97, 98, 99, 100, 101, 102, 103, 104, 105, 106, 107, 108, 109, 110, 111, 112, 113, 114, 115, 116, 117, 118, 119, 120, 121, 122, 48, 49, 50, 51, 52, 53, 54, 55, 56, 57, 43, 47]⟩ : ByteArray)[n.1]'n.2 = letter n.1 := by decide
theorem letters_get (n : Nat) (h : n < 64) : ((⟨#[65, 66, 67, 68, 69, 70, 71, 72, 73, 74, 75, 76, 77, 78, 79, 80, 81, 82, 83, 84, 85, 86, 87, 88, 89, 90, 97, 98, 99, 100, 101, 102, 103, 104, 105, 106, 107, 108, 109, 110, 111, 112, 113, 114, 115, 116, 117, 118, 119, 120, 121, 122, 48, 49, 50, 51, 52, 53, 54, 55, 56, 57, 43, 47]⟩ : ByteArray)[n]'h).toNat = (letter n).toNat := congrArg UInt8.toNat (letters_at ⟨n, h⟩)
def by8 (t : ByteArray) (i : Nat) : Nat := if h : i < t.size then (t[i]'h).toNat else 0
theorem by8_le (t : ByteArray) (i : Nat) : by8 t i ≤ 255 := by
  unfold by8; split
  · rename_i h; have := (t[i]'h).toNat_lt; omega
  · omega
def vals (t : ByteArray) : Nat → Nat
  | 0 => 0
  | i + 1 => vals t i * 256 + by8 t i
theorem vals_lt (t : ByteArray) : ∀ i, vals t i < 256 ^ i
  | 0 => by simp [vals]
  | i + 1 => by have := vals_lt t i; have := by8_le t i; simp only [vals, Nat.pow_succ]; omega
theorem vals_3 (t : ByteArray) : vals t 3 = val3 (by8 t 0) (by8 t 1) (by8 t 2) := by simp [vals, val3]
theorem enc_step (t : ByteArray) (h : 0 < t.size) : encL t.data.toList = grp (vals t 3) t.size ++ encL (t.extract (min 3 t.size) t.size).data.toList := by
  rw [vals_3]
  have hl : t.data.toList.length = t.size := by rw [Array.length_toList]; rfl
  have hb : ∀ i, by8 t i = (t.data.toList.getD i 0).toNat := by
    intro i
    unfold by8
    split
    · rename_i h
      rw [List.getD_eq_getElem?_getD, List.getElem?_eq_getElem (by omega)]; rfl
    · rename_i h
      rw [List.getD_eq_getElem?_getD, List.getElem?_eq_none (by omega)]; rfl
  have he : (t.extract (min 3 t.size) t.size).data.toList = t.data.toList.drop 3 := by
    rw [ByteArray.data_extract, Array.toList_extract, List.extract_eq_take_drop]
    rcases Nat.lt_or_ge t.size 3 with h3 | h3
    · rw [show min 3 t.size = t.size by omega, List.drop_eq_nil_of_le (by omega), List.drop_eq_nil_of_le (by omega)]; simp
    · rw [show min 3 t.size = 3 by omega, List.take_of_length_le (by simp)]
  rw [he, hb, hb, hb]
  generalize t.data.toList = l at *
  rw [← hl]
  match l with
  | [] => simp at hl; omega
  | [a] => rfl
  | [a, b] => rfl
  | a :: b :: c :: r => rfl

theorem i64_or8 (x y : Nat) (hx : x < 1099511627776) (hy : y < 256) : Go.bits .or .i64 ((x : Int) * 256) (y : Int) = (x : Int) * 256 + (y : Int) :=
  bits_join .i64 62 (by decide) (fun n h0 h1 => by rw [IntKind.wrap_i64]; omega) 8 _ _ (by omega) (by omega) (by omega) (by omega) (by omega) (by omega)
theorem i64_and63 (x : Nat) (hx : x < 1099511627776) : Go.bits .and .i64 (x : Int) 63 = ((x % 64 : Nat) : Int) := by
  have := bits_mask .i64 62 (by decide) (fun n h0 h1 => by rw [IntKind.wrap_i64]; omega) 6 (by decide) (x : Int) (by omega) (by omega)
  rw [show (63 : Int) = 2 ^ 6 - 1 by decide, this]; omega

set_option maxHeartbeats 2000000 in
set_option maxRecDepth 100000 in
theorem encode_any (s : ByteArray) (w : World) (hs : s.size ≤ 35184372088832) :
    Calls Try.prog 13 #[.string s] w fun e w' => e = .returned (.string ⟨(encL s.data.toList).toArray⟩) ∧ Below w.heap.size w w' := by
  go_enter Try.func13, Try.ntmps13
  go_wp2
  go_loopw [0] (fun v wr => ∃ (t : ByteArray) (o : List UInt8), v = .string t ∧ t.size ≤ s.size ∧ o.length + 4 * t.size ≤ 4 * s.size ∧ Hid (encL s.data.toList = o ++ encL t.data.toList) ∧ IsB w.heap.size w.heap.size o wr ∧ Below w.heap.size w wr) (fun v _ => match v with | .string t => t.size | _ => 0)
  case atStart => exact ⟨s, [], rfl, Nat.le_refl _, by simp, Lib.hid rfl, isB_fresh _ w (Nat.le_refl _), (Below.refl _ _).alloc (Nat.le_refl _) _⟩
  case round =>
    obtain ⟨t, o, rfl, ht, ho, HE, hB, hb⟩ := hrel
    have hls : t.toList = t.data.toList := by rw [ByteArray.toList_eq]
    have hln : t.data.toList.length = t.size := by rw [Array.length_toList]; rfl
    by_cases h0 : t.size = 0
    · have hnil : t.data.toList = [] := List.eq_nil_of_length_eq_zero (by omega)
      have h00 : t.toList = [] := by rw [hls, hnil]
      have h01 : t.toList.isEmpty = true := by rw [h00]; rfl
      have HE1 : Hid (o = encL s.data.toList) := Lib.hid (by rw [HE.out, hnil]; simp [encL])
      clear hls hln hnil h0 HE ho
      go_wp2_with fail
      refine (string_any _ _ _ _ hB hb.size).mono ?_
      rintro e w1 ⟨rfl, hb1⟩
      go_wp2
      go_ret
      exact ⟨by rw [HE1.out]; rfl, hb.trans hb1⟩
    · have h00 : t.toList.isEmpty = false := by
        rw [hls]; cases hq : t.data.toList with
        | nil => rw [hq] at hln; simp at hln; omega
        | cons a l => rfl
      have h01 : ¬ t.toList = [] := by intro h; rw [h] at h00; simp at h00
      have HS : Hid (encL t.data.toList = grp (vals t 3) t.size ++ encL (t.extract (min 3 t.size) t.size).data.toList) := Lib.hid (enc_step t (by omega))
      clear hls hln
      go_wp2_with fail
      go_loop [4, 14] (fun n i => ∃ k : Nat, k ≤ 3 ∧ i = .int .i64 k ∧ n = .int .i64 (vals t k)) (fun _ i => 3 - (intOf i).toNat)
      case atStart => exact ⟨0, by omega, rfl, rfl⟩
      case round =>
        obtain ⟨k, hk, rfl, rfl⟩ := hrel
        have hv := vals_lt t k
        have hv2 : vals t k < 1099511627776 := Nat.lt_of_lt_of_le hv (Nat.le_trans (Nat.pow_le_pow_right (by decide) hk) (by decide))
        clear hv
        by_cases hk3 : k < 3
        · by_cases hkt : k < t.size
          · have hby := by8_le t k
            have hcc : ∀ h : k < t.size, (t[k]'h).toNat = by8 t k := fun h => by unfold by8; rw [dif_pos h]
            have hor := i64_or8 (vals t k) (by8 t k) hv2 (by omega)
            have HV : Hid (vals t (k + 1) = vals t k * 256 + by8 t k) := Lib.hid rfl
            go_wp2
            go_round
            case rel => exact ⟨k + 1, by omega, by go_num, by rw [HV.out]; go_num⟩
            case measure => simp [intOf]; omega
          · have HV : Hid (vals t (k + 1) = vals t k * 256) := Lib.hid (by simp only [vals, by8]; rw [dif_neg hkt]; rfl)
            go_wp2
            go_round
            case rel => exact ⟨k + 1, by omega, by go_num, by rw [HV.out]; go_num⟩
            case measure => simp [intOf]; omega
        · obtain rfl : k = 3 := by omega
          clear hk hk3
          generalize vals t 3 = n at *
          have hgl : (grp n t.size).length = 4 := rfl
          go_wp2_with fail
          obtain ⟨wo, rfl⟩ : ∃ wo : World, wo = wr := ⟨_, rfl⟩
          go_loopw [30] (fun i wr => ∃ iv : Int, i = .int .i64 iv ∧ ((iv = 0 ∧ IsB w.heap.size w.heap.size o wr) ∨ (iv = 1 ∧ IsB w.heap.size w.heap.size (o ++ [letter (n / 262144 % 64)]) wr) ∨ (iv = 2 ∧ IsB w.heap.size w.heap.size (o ++ [letter (n / 262144 % 64), letter (n / 4096 % 64)]) wr) ∨ (iv = 3 ∧ IsB w.heap.size w.heap.size (o ++ [letter (n / 262144 % 64), letter (n / 4096 % 64), if t.size < 2 then 61 else letter (n / 64 % 64)]) wr) ∨ (iv = 4 ∧ IsB w.heap.size w.heap.size (o ++ grp n t.size) wr)) ∧ Below w.heap.size w wr) (fun i _ => 4 - (intOf i).toNat)
          case atStart => exact ⟨0, rfl, Or.inl ⟨rfl, hB⟩, hb⟩
          case round =>
            clear hB hb
            obtain ⟨iv, rfl, hcase, hb⟩ := hrel
            rcases hcase with ⟨rfl, hB⟩ | ⟨rfl, hB⟩ | ⟨rfl, hB⟩ | ⟨rfl, hB⟩ | ⟨rfl, hB⟩
            · have hand : Go.bits .and .i64 ((n : Int) / 262144) 63 = ((n / 262144 % 64 : Nat) : Int) := by
                have := i64_and63 (n / 262144) (by omega)
                rw [← this]; all_goals (first | rfl | (congr 1; omega))
              have hd1 : ∀ h, ((⟨#[65, 66, 67, 68, 69, 70, 71, 72, 73, 74, 75, 76, 77, 78, 79, 80, 81, 82, 83, 84, 85, 86, 87, 88, 89, 90, 97, 98, 99, 100, 101, 102, 103, 104, 105, 106, 107, 108, 109, 110, 111, 112, 113, 114, 115, 116, 117, 118, 119, 120, 121, 122, 48, 49, 50, 51, 52, 53, 54, 55, 56, 57, 43, 47]⟩ : ByteArray)[n / 262144 % 64]'h).toNat = (letter (n / 262144 % 64)).toNat := fun h => letters_get _ h
              go_wp2_with fail
              refine (writeByte _ _ _ _ _ hB (by omega) (u8_le _) (by simp; omega) hb.size).mono ?_
              rintro e w1 ⟨rfl, hB1, hb1⟩
              rw [u8_back] at hB1
              go_wp2
              go_roundw
              case rel => exact ⟨1, rfl, Or.inr (Or.inl ⟨rfl, by simpa using hB1⟩), hb.trans hb1⟩
              case measure => simp [intOf]
            · have hand : Go.bits .and .i64 ((n : Int) / 4096) 63 = ((n / 4096 % 64 : Nat) : Int) := by
                have := i64_and63 (n / 4096) (by omega)
                rw [← this]; all_goals (first | rfl | (congr 1; omega))
              have hd1 : ∀ h, ((⟨#[65, 66, 67, 68, 69, 70, 71, 72, 73, 74, 75, 76, 77, 78, 79, 80, 81, 82, 83, 84, 85, 86, 87, 88, 89, 90, 97, 98, 99, 100, 101, 102, 103, 104, 105, 106, 107, 108, 109, 110, 111, 112, 113, 114, 115, 116, 117, 118, 119, 120, 121, 122, 48, 49, 50, 51, 52, 53, 54, 55, 56, 57, 43, 47]⟩ : ByteArray)[n / 4096 % 64]'h).toNat = (letter (n / 4096 % 64)).toNat := fun h => letters_get _ h
              go_wp2_with fail
              refine (writeByte _ _ _ _ _ hB (by omega) (u8_le _) (by simp; omega) hb.size).mono ?_
              rintro e w1 ⟨rfl, hB1, hb1⟩
              rw [u8_back] at hB1
              go_wp2
              go_roundw
              case rel => exact ⟨2, rfl, Or.inr (Or.inr (Or.inl ⟨rfl, by simpa using hB1⟩)), hb.trans hb1⟩
              case measure => simp [intOf]
            · by_cases hq : t.size < 2
              · go_wp2_with fail
                refine (writeByte _ _ _ _ _ hB (by omega) (by omega) (by simp; omega) hb.size).mono ?_
                rintro e w1 ⟨rfl, hB1, hb1⟩
                go_wp2
                go_roundw
                case rel => exact ⟨3, rfl, Or.inr (Or.inr (Or.inr (Or.inl ⟨rfl, by simpa [hq] using hB1⟩))), hb.trans hb1⟩
                case measure => simp [intOf]
              · have hand : Go.bits .and .i64 ((n : Int) / 64) 63 = ((n / 64 % 64 : Nat) : Int) := by
                  have := i64_and63 (n / 64) (by omega)
                  rw [← this]; all_goals (first | rfl | (congr 1; omega))
                have hd1 : ∀ h, ((⟨#[65, 66, 67, 68, 69, 70, 71, 72, 73, 74, 75, 76, 77, 78, 79, 80, 81, 82, 83, 84, 85, 86, 87, 88, 89, 90, 97, 98, 99, 100, 101, 102, 103, 104, 105, 106, 107, 108, 109, 110, 111, 112, 113, 114, 115, 116, 117, 118, 119, 120, 121, 122, 48, 49, 50, 51, 52, 53, 54, 55, 56, 57, 43, 47]⟩ : ByteArray)[n / 64 % 64]'h).toNat = (letter (n / 64 % 64)).toNat := fun h => letters_get _ h
                go_wp2_with fail
                refine (writeByte _ _ _ _ _ hB (by omega) (u8_le _) (by simp; omega) hb.size).mono ?_
                rintro e w1 ⟨rfl, hB1, hb1⟩
                rw [u8_back] at hB1
                go_wp2
                go_roundw
                case rel => exact ⟨3, rfl, Or.inr (Or.inr (Or.inr (Or.inl ⟨rfl, by simpa [hq] using hB1⟩))), hb.trans hb1⟩
                case measure => simp [intOf]
            · by_cases hq : t.size < 3
              · go_wp2_with fail
                refine (writeByte _ _ _ _ _ hB (by omega) (by omega) (by simp; omega) hb.size).mono ?_
                rintro e w1 ⟨rfl, hB1, hb1⟩
                go_wp2
                go_roundw
                case rel => exact ⟨4, rfl, Or.inr (Or.inr (Or.inr (Or.inr ⟨rfl, by simpa [grp, hq] using hB1⟩))), hb.trans hb1⟩
                case measure => simp [intOf]
              · have hand : Go.bits .and .i64 (n : Int) 63 = ((n % 64 : Nat) : Int) := by
                  have := i64_and63 (n) (by omega)
                  rw [← this]; all_goals (first | rfl | (congr 1; omega))
                have hd1 : ∀ h, ((⟨#[65, 66, 67, 68, 69, 70, 71, 72, 73, 74, 75, 76, 77, 78, 79, 80, 81, 82, 83, 84, 85, 86, 87, 88, 89, 90, 97, 98, 99, 100, 101, 102, 103, 104, 105, 106, 107, 108, 109, 110, 111, 112, 113, 114, 115, 116, 117, 118, 119, 120, 121, 122, 48, 49, 50, 51, 52, 53, 54, 55, 56, 57, 43, 47]⟩ : ByteArray)[n % 64]'h).toNat = (letter (n % 64)).toNat := fun h => letters_get _ h
                go_wp2_with fail
                refine (writeByte _ _ _ _ _ hB (by omega) (u8_le _) (by simp; omega) hb.size).mono ?_
                rintro e w1 ⟨rfl, hB1, hb1⟩
                rw [u8_back] at hB1
                go_wp2
                go_roundw
                case rel => exact ⟨4, rfl, Or.inr (Or.inr (Or.inr (Or.inr ⟨rfl, by simpa [grp, hq] using hB1⟩))), hb.trans hb1⟩
                case measure => simp [intOf]
            · go_wp2_with fail
              have hx : (min 3 (t.size : Int)).toNat = min 3 t.size := by omega
              go_roundw
              case rel =>
                rw [hx]
                refine ⟨_, o ++ grp n t.size, rfl, by simp; omega, by simp [hgl]; omega, Lib.hid (by rw [HE.out, HS.out, List.append_assoc]), hB, hb⟩
              case measure => simp; omega
end Go.Proofs.Ytlifgoafmpkibaa.Bld
