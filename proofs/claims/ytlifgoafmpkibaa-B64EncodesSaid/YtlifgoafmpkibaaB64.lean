/- What the document's letters and the program's are: plain facts for B64Encodes and B64Decodes. -/
import Derived.Test.YtlifgoafmpkibaaQ4
import Derived.Test.YtlifgoafmpkibaaPl
set_option linter.unusedVariables false
set_option linter.unusedSimpArgs false
namespace Go.Proofs.Ytlifgoafmpkibaa.Pure
open Go.RowKit Go.Proofs.Ytlifgoafmpkibaa.Q Go.Proofs.YtlifgoafmpkibaaW.PrintWords Go.Proofs.YtlifgoafmpkibaaW.PrintLast Go.Proofs.YtlifgoafmpkibaaW.PrintMore Go.Proofs.Ytlifgoafmpkibaa.Pl
open Bld (encL grp val3 letter)

theorem awake_b64 : rollbooklaw14_awake.f = some true := by
  unfold rollbooklaw14_awake.f b64_Encode.f b64_Hex.f
  decide +kernel
theorem encode_f (s : ByteArray) (h : s.size ≤ 35184372088832) : b64_Encode.f s = some (⟨(encL (L s)).toArray⟩ : ByteArray) := by
  unfold b64_Encode.f; rw [if_pos h]; rfl

/-! the document's bits -/
def byN (s : ByteArray) (q : Nat) : Nat := ((L s).getD q 0).toNat
theorem byN_le (s : ByteArray) (q : Nat) : byN s q ≤ 255 := by unfold byN; have := ((L s).getD q 0).toNat_lt; omega
theorem byN_out (s : ByteArray) (q : Nat) (h : s.size ≤ q) : byN s q = 0 := by
  unfold byN; rw [List.getD_eq_getElem?_getD, List.getElem?_eq_none (by rw [L_len]; omega)]; rfl
def bitv (s : ByteArray) (p : Nat) : Nat := byN s (p / 8) / 2 ^ (7 - p % 8) % 2
theorem bit_loop (p : Nat) (hp : p ≤ 1000000) : ∀ (d i n : Nat), i + d = 7 - p % 8 → n ≤ 255 → Ev (fun k => rollbookref14_Bit.l0 k (p : Int) (n : Int) (i : Int)) ((n / 2 ^ d % 2 : Nat) : Int) := by
  have hm : wrap64 (7 - Int.tmod (p : Int) 8) = ((7 - p % 8 : Nat) : Int) := by
    rw [Int.tmod_eq_emod_of_nonneg (by omega), w64 (by omega) (by omega)]; omega
  intro d
  induction d with
  | zero =>
    intro i n hi hn
    have h2 : Int.tmod (n : Int) 2 = ((n / 2 ^ 0 % 2 : Nat) : Int) := by rw [Int.tmod_eq_emod_of_nonneg (by omega)]; simp
    refine Ev.step (f := fun k => some _) (fun k => ?_) (Ev.now _)
    simp only [rollbookref14_Bit.l0]
    rw [hm, if_neg (by omega), h2]
  | succ d ih =>
    intro i n hi hn
    have h1 : wrap64 (Int.tdiv (n : Int) 2) = ((n / 2 : Nat) : Int) := by rw [Int.tdiv_eq_ediv_of_nonneg (by omega), w64 (by omega) (by omega)]; omega
    have h2 : wrap64 ((i : Int) + 1) = ((i + 1 : Nat) : Int) := by rw [w64 (by omega) (by omega)]; omega
    have h3 := ih (i + 1) (n / 2) (by omega) (by omega)
    rw [Nat.div_div_eq_div_mul, Nat.mul_comm, ← Nat.pow_succ] at h3
    refine Ev.step (fun k => ?_) h3
    simp only [rollbookref14_Bit.l0]
    rw [hm, if_pos (by omega), h1, h2]
theorem bit_ev (s : ByteArray) (p : Nat) (hp : p ≤ 1000000) : Ev (fun k => rollbookref14_Bit.f k s (p : Int)) ((bitv s p : Nat) : Int) := by
  have hq : wrap64 (Int.tdiv (p : Int) 8) = ((p / 8 : Nat) : Int) := by rw [Int.tdiv_eq_ediv_of_nonneg (by omega), w64 (by omega) (by omega)]; omega
  by_cases h : p / 8 < s.size
  · have hb : wrap64 (bt s ((p / 8 : Nat) : Int)) = ((byN s (p / 8) : Nat) : Int) := by
      rw [bt_get]; have := byN_le s (p / 8); unfold byN at this ⊢; rw [w64 (by omega) (by omega)]
    refine Ev.congr (fun k => ?_) (bit_loop p hp (7 - p % 8) 0 (byN s (p / 8)) (by omega) (byN_le _ _))
    unfold rollbookref14_Bit.f
    rw [hq, if_neg (by omega), if_pos (by omega), if_pos (by omega), hb]; rfl
  · refine Ev.congr (fun k => ?_) (Ev.now _)
    unfold rollbookref14_Bit.f
    rw [hq, if_pos (by omega)]
    unfold bitv; rw [byN_out s _ (by omega)]; simp
theorem bitv_le (s : ByteArray) (p : Nat) : bitv s p ≤ 1 := by unfold bitv; omega

theorem letter_all : ∀ n : Fin 64, rollbookref14_Letter.f (n.1 : Int) = some ((letter n.1).toNat : Int) := by decide +kernel
theorem letter_at (n : Nat) (h : n < 64) : rollbookref14_Letter.f (n : Int) = some ((letter n).toNat : Int) := letter_all ⟨n, h⟩

def six (s : ByteArray) (p i : Nat) : Nat := match i with
  | 0 => 0
  | i + 1 => 2 * six s p i + bitv s (p + i)
theorem six_lt (s : ByteArray) (p : Nat) : ∀ i, six s p i < 2 ^ i
  | 0 => by simp [six]
  | i + 1 => by have := six_lt s p i; have := bitv_le s (p + i); simp only [six, Nat.pow_succ]; omega
theorem enc_bits (s : ByteArray) (p : Nat) (hp : p ≤ 900000) (acc : List Int) (ha : acc.length ≤ 1000000) (r : ByteArray) (hr : Ev (fun k => rollbookref14_Encode.l0 k s (acc ++ [((letter (six s p 6)).toNat : Int)]) ((p + 6 : Nat) : Int)) r) :
    ∀ (d i : Nat), i + d = 6 → Ev (fun k => rollbookref14_Encode.l1 k s acc (p : Int) ((six s p i : Nat) : Int) (i : Int)) r := by
  intro d
  induction d with
  | zero =>
    intro i hi
    obtain rfl : i = 6 := by omega
    have h6 := six_lt s p 6
    have hw : wrap64 ((p : Int) + 6) = ((p + 6 : Nat) : Int) := by rw [w64 (by omega) (by omega)]; omega
    refine Ev.step (fun k => ?_) hr
    simp only [rollbookref14_Encode.l1]
    rw [if_neg (by omega), letter_at _ (by omega), hw]
    simp only [Option.bind_some]
    rw [if_pos (by omega)]
  | succ d ih =>
    intro i hi
    have hb := bitv_le s (p + i)
    have hs := six_lt s p i
    have hs2 : six s p i < 64 := Nat.lt_of_lt_of_le hs (Nat.le_trans (Nat.pow_le_pow_right (by decide) (show i ≤ 6 by omega)) (by decide))
    clear hs
    have hw : wrap64 ((p : Int) + (i : Int)) = ((p + i : Nat) : Int) := by rw [w64 (by omega) (by omega)]; omega
    have hw1 : wrap64 ((i : Int) + 1) = ((i + 1 : Nat) : Int) := by rw [w64 (by omega) (by omega)]; omega
    have hv : wrap64 (wrap64 (2 * ((six s p i : Nat) : Int)) + ((bitv s (p + i) : Nat) : Int)) = ((six s p (i + 1) : Nat) : Int) := by
      rw [w64 (x := 2 * ((six s p i : Nat) : Int)) (by omega) (by omega), w64 (by omega) (by omega)]; simp only [six]; omega
    have h6 : (i : Int) < 6 := by omega
    refine Ev.step (f := fun k => (rollbookref14_Bit.f k s ((p + i : Nat) : Int)).bind fun t173 => (rollbookref14_Encode.l1 k s acc (p : Int) (wrap64 ((wrap64 (2 * ((six s p i : Nat) : Int))) + t173)) ((i + 1 : Nat) : Int))) (fun k => ?_) (Ev.bind (bit_ev s (p + i) (by omega)) (by rw [hv]; exact ih (i + 1) (by omega)))
    simp only [rollbookref14_Encode.l1]
    rw [if_pos h6, hw, hw1]
theorem enc_round (s : ByteArray) (hs : s.size ≤ 100000) (p : Nat) (hp : p < 8 * s.size) (acc : List Int) (ha : acc.length ≤ 1000000) (r : ByteArray) (hr : Ev (fun k => rollbookref14_Encode.l0 k s (acc ++ [((letter (six s p 6)).toNat : Int)]) ((p + 6 : Nat) : Int)) r) :
    Ev (fun k => rollbookref14_Encode.l0 k s acc (p : Int)) r := by
  have hw : wrap64 (8 * (s.size : Int)) = ((8 * s.size : Nat) : Int) := by rw [w64 (by omega) (by omega)]; omega
  refine Ev.step (fun k => ?_) (enc_bits s p (by omega) acc ha r hr 6 0 rfl)
  simp only [rollbookref14_Encode.l0]
  rw [hw, if_pos (by omega)]; rfl
theorem enc_end (s : ByteArray) (hs : s.size ≤ 100000) (p : Nat) (hp : 8 * s.size ≤ p) (acc : List Int) (r : ByteArray) (hr : Ev (fun k => rollbookref14_Encode.l2 k acc) r) :
    Ev (fun k => rollbookref14_Encode.l0 k s acc (p : Int)) r := by
  have hw : wrap64 (8 * (s.size : Int)) = ((8 * s.size : Nat) : Int) := by rw [w64 (by omega) (by omega)]; omega
  refine Ev.step (fun k => ?_) hr
  simp only [rollbookref14_Encode.l0]
  rw [hw, if_neg (by omega)]
theorem pad_done (acc : List Int) (h : acc.length % 4 = 0) : Ev (fun k => rollbookref14_Encode.l2 k acc) (strOfNums acc) := by
  refine Ev.step (f := fun k => some (strOfNums acc)) (fun k => ?_) (Ev.now _)
  simp only [rollbookref14_Encode.l2]
  rw [if_pos (by omega)]
theorem pad_one (acc : List Int) (h : ¬ acc.length % 4 = 0) (hl : acc.length ≤ 1000000) (r : ByteArray) (hr : Ev (fun k => rollbookref14_Encode.l2 k (acc ++ [61])) r) : Ev (fun k => rollbookref14_Encode.l2 k acc) r := by
  refine Ev.step (fun k => ?_) hr
  simp only [rollbookref14_Encode.l2]
  rw [if_neg (by omega), if_pos (by omega)]

/-! a group's letters -/
theorem hi6 (a : Nat) (h : a ≤ 255) : 32 * (a / 128 % 2) + 16 * (a / 64 % 2) + 8 * (a / 32 % 2) + 4 * (a / 16 % 2) + 2 * (a / 8 % 2) + a / 4 % 2 = a / 4 := by
  have : ∀ a : Fin 256, 32 * (a.1 / 128 % 2) + 16 * (a.1 / 64 % 2) + 8 * (a.1 / 32 % 2) + 4 * (a.1 / 16 % 2) + 2 * (a.1 / 8 % 2) + a.1 / 4 % 2 = a.1 / 4 := by decide +kernel
  exact this ⟨a, by omega⟩
theorem hi4 (a : Nat) (h : a ≤ 255) : 8 * (a / 128 % 2) + 4 * (a / 64 % 2) + 2 * (a / 32 % 2) + a / 16 % 2 = a / 16 := by omega
theorem hi2 (a : Nat) (h : a ≤ 255) : 2 * (a / 128 % 2) + a / 64 % 2 = a / 64 := by omega
theorem lo2 (a : Nat) : 2 * (a / 2 % 2) + a / 1 % 2 = a % 4 := by omega
theorem lo4 (a : Nat) : 8 * (a / 8 % 2) + 4 * (a / 4 % 2) + 2 * (a / 2 % 2) + a / 1 % 2 = a % 16 := by omega
theorem lo6 (a : Nat) : 32 * (a / 32 % 2) + 16 * (a / 16 % 2) + 8 * (a / 8 % 2) + 4 * (a / 4 % 2) + 2 * (a / 2 % 2) + a / 1 % 2 = a % 64 := by omega
theorem groups (a b c : Nat) (h0 : a ≤ 255) (h1 : b ≤ 255) (h2 : c ≤ 255) : a / 4 = val3 a b c / 262144 % 64 ∧ 16 * (a % 4) + b / 16 = val3 a b c / 4096 % 64 ∧ 4 * (b % 16) + c / 64 = val3 a b c / 64 % 64 ∧ c % 64 = val3 a b c % 64 := by
  unfold val3; refine ⟨?_, ?_, ?_, ?_⟩ <;> omega
theorem six_val (s : ByteArray) (g : Nat) (h : ∀ j, j < 3 → byN s (3 * g + j) ≤ 255) (n : Nat) (hn : n = val3 (byN s (3 * g)) (byN s (3 * g + 1)) (byN s (3 * g + 2))) :
    six s (24 * g) 6 = n / 262144 % 64 ∧ six s (24 * g + 6) 6 = n / 4096 % 64 ∧ six s (24 * g + 12) 6 = n / 64 % 64 ∧ six s (24 * g + 18) 6 = n % 64 := by
  have h0 := h 0 (by omega); have h1 := h 1 (by omega); have h2 := h 2 (by omega)
  simp only [Nat.add_zero] at h0
  have e0 : ∀ j, j < 8 → bitv s (24 * g + j) = byN s (3 * g) / 2 ^ (7 - j) % 2 := by
    intro j hj; unfold bitv; rw [show (24 * g + j) / 8 = 3 * g by omega, show (24 * g + j) % 8 = j by omega]
  have e1 : ∀ j, j < 8 → bitv s (24 * g + (8 + j)) = byN s (3 * g + 1) / 2 ^ (7 - j) % 2 := by
    intro j hj; unfold bitv; rw [show (24 * g + (8 + j)) / 8 = 3 * g + 1 by omega, show (24 * g + (8 + j)) % 8 = j by omega]
  have e2 : ∀ j, j < 8 → bitv s (24 * g + (16 + j)) = byN s (3 * g + 2) / 2 ^ (7 - j) % 2 := by
    intro j hj; unfold bitv; rw [show (24 * g + (16 + j)) / 8 = 3 * g + 2 by omega, show (24 * g + (16 + j)) % 8 = j by omega]
  generalize byN s (3 * g) = a at *
  generalize byN s (3 * g + 1) = b at *
  generalize byN s (3 * g + 2) = c at *
  have a0 := e0 0 (by omega); have a1 := e0 1 (by omega); have a2 := e0 2 (by omega); have a3 := e0 3 (by omega); have a4 := e0 4 (by omega); have a5 := e0 5 (by omega); have a6 := e0 6 (by omega); have a7 := e0 7 (by omega)
  have b0 := e1 0 (by omega); have b1 := e1 1 (by omega); have b2 := e1 2 (by omega); have b3 := e1 3 (by omega); have b4 := e1 4 (by omega); have b5 := e1 5 (by omega); have b6 := e1 6 (by omega); have b7 := e1 7 (by omega)
  have c0 := e2 0 (by omega); have c1 := e2 1 (by omega); have c2 := e2 2 (by omega); have c3 := e2 3 (by omega); have c4 := e2 4 (by omega); have c5 := e2 5 (by omega); have c6 := e2 6 (by omega); have c7 := e2 7 (by omega)
  clear e0 e1 e2 h
  simp only [Nat.reduceSub, Nat.reducePow, Nat.reduceAdd, Nat.add_zero] at a0 a1 a2 a3 a4 a5 a6 a7 b0 b1 b2 b3 b4 b5 b6 b7 c0 c1 c2 c3 c4 c5 c6 c7
  simp only [six, Nat.add_assoc, Nat.reduceAdd, Nat.add_zero]
  rw [a0, a1, a2, a3, a4, a5, a6, a7, b0, b1, b2, b3, b4, b5, b6, b7, c0, c1, c2, c3, c4, c5, c6, c7]
  clear a0 a1 a2 a3 a4 a5 a6 a7 b0 b1 b2 b3 b4 b5 b6 b7 c0 c1 c2 c3 c4 c5 c6 c7
  obtain ⟨q0, q1, q2, q3⟩ := groups a b c h0 h1 h2
  subst hn
  rw [← q0, ← q1, ← q2, ← q3]
  refine ⟨?_, ?_, ?_, ?_⟩
  · have := hi6 a h0; omega
  · have := lo2 a; have := hi4 b h1; omega
  · have := lo4 b; have := hi2 c h2; omega
  · have := lo6 c; omega

def enN (l : List UInt8) : List Int := l.map fun b => (b.toNat : Int)
theorem enN_app (a b : List UInt8) : enN (a ++ b) = enN a ++ enN b := by simp [enN]
theorem nums_enN (l : List UInt8) : strOfNums (enN l) = (⟨l.toArray⟩ : ByteArray) := by
  apply L_ext; rw [L_nums, L_mk, enN, List.map_map]; simp [Function.comp_def]
theorem refEnc_loop (s : ByteArray) (hs : s.size ≤ 100000) : ∀ (d g : Nat) (acc : List Int), s.size ≤ 3 * g + 3 * d → acc.length = 4 * g → 3 * g ≤ s.size + 2 →
    Ev (fun k => rollbookref14_Encode.l0 k s acc ((24 * g : Nat) : Int)) (strOfNums (acc ++ enN (encL ((L s).drop (3 * g))))) := by
  have hl := L_len s
  intro d
  induction d with
  | zero =>
    intro g acc h1 h2 h3
    refine enc_end s hs _ (by omega) acc _ ?_
    have hn : (L s).drop (3 * g) = [] := List.drop_eq_nil_of_le (by omega)
    rw [hn]
    simpa [encL, enN] using pad_done acc (by omega)
  | succ d ih =>
    intro g acc h1 h2 h3
    have hg : ∀ j, 3 * g + j < s.size → (L s).drop (3 * g + j) = (L s).getD (3 * g + j) 0 :: (L s).drop (3 * g + (j + 1)) := by
      intro j hj
      rw [List.drop_eq_getElem_cons (by omega), List.getD_eq_getElem?_getD, List.getElem?_eq_getElem (by omega)]; rfl
    obtain ⟨v0, v1, v2, v3⟩ := six_val s g (fun j _ => byN_le _ _) _ rfl
    by_cases c0 : 3 * g < s.size
    · have d0 := hg 0 (by omega)
      simp only [Nat.add_zero, Nat.zero_add] at d0
      refine enc_round s hs _ (by omega) acc (by omega) _ (enc_round s hs _ (by omega) _ (by simp; omega) _ ?_)
      by_cases c1 : 3 * g + 1 < s.size
      · have d1 := hg 1 (by omega)
        refine enc_round s hs _ (by omega) _ (by simp; omega) _ ?_
        by_cases c2 : 3 * g + 2 < s.size
        · have d2 := hg 2 (by omega)
          refine enc_round s hs _ (by omega) _ (by simp; omega) _ ?_
          have := ih (g + 1) (acc ++ enN (grp (val3 (byN s (3 * g)) (byN s (3 * g + 1)) (byN s (3 * g + 2))) 3)) (by omega) (by simp [enN, grp]; omega) (by omega)
          rw [d0, d1, d2, encL, enN_app, ← List.append_assoc]
          rw [show 24 * (g + 1) = 24 * g + 6 + 6 + 6 + 6 by omega, show 3 * (g + 1) = 3 * g + (2 + 1) by omega] at this
          simpa [v0, v1, v2, v3, enN, grp, byN, Nat.add_assoc] using this
        · have d2 : (L s).drop (3 * g + (1 + 1)) = [] := List.drop_eq_nil_of_le (by omega)
          refine enc_end s hs _ (by omega) _ _ (pad_one _ (by simp; omega) (by simp; omega) _ ?_)
          have := pad_done (acc ++ enN (grp (val3 (byN s (3 * g)) (byN s (3 * g + 1)) 0) 2)) (by simp [enN, grp]; omega)
          have z2 : byN s (3 * g + 2) = 0 := byN_out _ _ (by omega)
          rw [z2] at v0 v1 v2
          rw [d0, d1, d2, encL]
          simpa [v0, v1, v2, enN, grp, byN, Nat.add_assoc] using this
      · have d1 : (L s).drop (3 * g + 1) = [] := List.drop_eq_nil_of_le (by omega)
        refine enc_end s hs _ (by omega) _ _ (pad_one _ (by simp; omega) (by simp; omega) _ (pad_one _ (by simp; omega) (by simp; omega) _ ?_))
        have := pad_done (acc ++ enN (grp (val3 (byN s (3 * g)) 0 0) 1)) (by simp [enN, grp]; omega)
        have z1 : byN s (3 * g + 1) = 0 := byN_out _ _ (by omega)
        have z2 : byN s (3 * g + 2) = 0 := byN_out _ _ (by omega)
        rw [z1, z2] at v0 v1
        rw [d0, d1, encL]
        simpa [v0, v1, enN, grp, byN, Nat.add_assoc] using this
    · refine enc_end s hs _ (by omega) acc _ ?_
      have hn : (L s).drop (3 * g) = [] := List.drop_eq_nil_of_le (by omega)
      rw [hn]
      simpa [encL, enN] using pad_done acc (by omega)
theorem refEnc_ev (s : ByteArray) (hs : s.size ≤ 100000) : Ev (fun k => rollbookref14_Encode.f k s) (⟨(encL (L s)).toArray⟩ : ByteArray) := by
  have := refEnc_loop s hs s.size 0 [] (by omega) rfl (by omega)
  rw [List.nil_append, nums_enN] at this
  exact this
end Go.Proofs.Ytlifgoafmpkibaa.Pure
