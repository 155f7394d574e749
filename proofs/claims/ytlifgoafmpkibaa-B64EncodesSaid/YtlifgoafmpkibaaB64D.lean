/- The program's Decode: it answers with the bytes whose letters these are, or with none. -/
import Derived.Test.YtlifgoafmpkibaaB64
import Derived.Lib.Hide
set_option linter.unusedVariables false
set_option linter.unusedSimpArgs false
namespace Go.Proofs.Ytlifgoafmpkibaa.Pure
open Go.RowKit Go.Proofs.Ytlifgoafmpkibaa.Q Go.Proofs.YtlifgoafmpkibaaW.PrintWords Go.Proofs.YtlifgoafmpkibaaW.PrintLast Go.Proofs.YtlifgoafmpkibaaW.PrintMore Go.Proofs.Ytlifgoafmpkibaa.Pl
open Bld (encL grp val3 letter)

/-- a letter's number -/
def nv (c : Nat) : Int := if 65 ≤ c ∧ c ≤ 90 then c - 65 else if 97 ≤ c ∧ c ≤ 122 then c - 71 else if 48 ≤ c ∧ c ≤ 57 then c + 4 else if c = 43 then 62 else if c = 47 then 63 else -1
theorem index_all : ∀ c : Fin 256, strings_IndexByte.f (⟨#[65, 66, 67, 68, 69, 70, 71, 72, 73, 74, 75, 76, 77, 78, 79, 80, 81, 82, 83, 84, 85, 86, 87, 88, 89, 90, 97, 98, 99, 100, 101, 102, 103, 104, 105, 106, 107, 108, 109, 110, 111, 112, 113, 114, 115, 116, 117, 118, 119, 120, 121, 122, 48, 49, 50, 51, 52, 53, 54, 55, 56, 57, 43, 47]⟩ : ByteArray) (c.1 : Int) = some (nv c.1) := by decide +kernel
theorem index_at (c : UInt8) : strings_IndexByte.f (⟨#[65, 66, 67, 68, 69, 70, 71, 72, 73, 74, 75, 76, 77, 78, 79, 80, 81, 82, 83, 84, 85, 86, 87, 88, 89, 90, 97, 98, 99, 100, 101, 102, 103, 104, 105, 106, 107, 108, 109, 110, 111, 112, 113, 114, 115, 116, 117, 118, 119, 120, 121, 122, 48, 49, 50, 51, 52, 53, 54, 55, 56, 57, 43, 47]⟩ : ByteArray) (c.toNat : Int) = some (nv c.toNat) := index_all ⟨c.toNat, c.toNat_lt⟩
theorem nv_range (c : Nat) : -1 ≤ nv c ∧ nv c ≤ 63 := by
  unfold nv; repeat' split
  all_goals omega
theorem nv_letter : ∀ n : Fin 64, nv (letter n.1).toNat = n.1 ∧ (letter n.1).toNat ≠ 61 := by decide
theorem nv_letter' (n : Nat) (h : n < 64) : nv (letter n).toNat = n ∧ (letter n).toNat ≠ 61 := nv_letter ⟨n, h⟩

def step4 (x : Option (Nat × Nat)) (c : UInt8) : Option (Nat × Nat) := x.bind fun x => if c.toNat = 61 then some (x.1 * 64, x.2 + 1) else if nv c.toNat < 0 then none else if 0 < x.2 then none else some (x.1 * 64 + (nv c.toNat).toNat, x.2)
def out3 (x : Nat × Nat) : Option (List Int) := if 2 < x.2 then none else some (([((x.1 / 65536 % 256 : Nat) : Int), ((x.1 / 256 % 256 : Nat) : Int), ((x.1 % 256 : Nat) : Int)] : List Int).take (3 - x.2))
def four4 (a b c d : UInt8) : Option (List Int) := (step4 (step4 (step4 (step4 (some (0, 0)) a) b) c) d).bind out3
def told4 (acc : List Int) : Option (List Int) → List Int × Bool
  | some l => (acc ++ l, true)
  | none => (([] : List Int), false)

theorem or64 {n : Nat} {v : Int} (hn : n < 16777216) (h0 : 0 ≤ v) (h1 : v ≤ 63) : Go.bits .or .i64 (wrap64 ((n : Int) * 64)) v = ((n * 64 + v.toNat : Nat) : Int) := by
  have e := bits_join .i64 62 (by decide) (fun n h0 h1 => by rw [IntKind.wrap_i64]; omega) 6 ((n : Int) * 64) v (by omega) (by omega) (by omega) (by omega) (by omega) (by omega)
  rw [w64 (by omega) (by omega), e]; omega

/-- what is left of a four, from place i on -/
def rest4 (l : List UInt8) (x : Option (Nat × Nat)) : Option (List Int) := (l.foldl step4 x).bind out3
theorem rest4_none (l : List UInt8) : rest4 l none = none := by
  have : l.foldl step4 none = none := by induction l with
    | nil => rfl
    | cons a l ih => exact ih
  simp [rest4, this]
theorem w3 (p : Nat) (h : p ≤ 2) : wrap64 (3 - (p : Int)) = ((3 - p : Nat) : Int) := by rw [w64 (by omega) (by omega)]; omega
theorem wS (p : Nat) (h : p ≤ 1000000) : wrap64 ((p : Int) + 1) = ((p + 1 : Nat) : Int) := by rw [w64 (by omega) (by omega)]; omega
theorem four_loop (s : ByteArray) (acc : List Int) (hs : s.size = 4) (ha : acc.length ≤ 1000000) : ∀ (d i n p : Nat), i + d = 4 → n < 64 ^ i → p ≤ i →
    Ev (fun k => b64_four.l0 k s acc (n : Int) (p : Int) (i : Int)) (told4 acc (rest4 ((L s).drop i) (some (n, p)))) := by
  have hl := L_len s
  intro d
  induction d with
  | zero =>
    intro i n p hi hn hp
    have hnil : (L s).drop i = [] := List.drop_eq_nil_of_le (by omega)
    rw [hnil]
    obtain rfl : i = 4 := by omega
    have hn2 : n < 16777216 := by simpa using hn
    by_cases h2 : 2 < p
    · refine Ev.step (f := fun k => some (([] : List Int), false)) (fun k => ?_) (by simpa [rest4, out3, h2, told4] using Ev.now _)
      simp only [b64_four.l0]
      rw [if_neg (by omega), if_pos (by omega)]
    · have g0 : ¬ ((4 : Nat) : Int) < 4 := by omega
      have g1 : ¬ (p : Int) > 2 := by omega
      have g2 : (0 : Int) ≤ ((3 - p : Nat) : Int) := by omega
      have g3 : ((3 - p : Nat) : Int) ≤ (([((n / 65536 % 256 : Nat) : Int), ((n / 256 % 256 : Nat) : Int), ((n % 256 : Nat) : Int)] : List Int).length : Int) := by simp only [List.length_cons, List.length_nil]; omega
      have g4 : acc.length + (([((n / 65536 % 256 : Nat) : Int), ((n / 256 % 256 : Nat) : Int), ((n % 256 : Nat) : Int)] : List Int).take (3 - p)).length < 140737488355328 := by simp only [List.length_take, List.length_cons, List.length_nil]; omega
      have e1 : ((n : Int) / 65536) % 256 = ((n / 65536 % 256 : Nat) : Int) := by omega
      have e2 : ((n : Int) / 256) % 256 = ((n / 256 % 256 : Nat) : Int) := by omega
      have e3 : (n : Int) % 256 = ((n % 256 : Nat) : Int) := by omega
      have hw : wrap64 (3 - (p : Int)) = ((3 - p : Nat) : Int) := w3 p (by omega)
      refine Ev.step (f := fun k => some (told4 acc (out3 (n, p)))) (fun k => ?_) (Ev.now _)
      simp only [b64_four.l0]
      rw [if_neg g0, if_neg g1, e1, e2, e3, hw]
      simp only [Option.bind_some, Int.toNat_natCast]
      rw [if_pos g2, if_pos g3, if_pos g4]
      simp [told4, out3, h2]
  | succ d ih =>
    intro i n p hi hn hp
    have hn2 : n < 262144 := Nat.lt_of_lt_of_le hn (Nat.le_trans (Nat.pow_le_pow_right (by decide) (show i ≤ 3 by omega)) (by decide))
    obtain ⟨c, hd, hb⟩ : ∃ c, (L s).drop i = c :: (L s).drop (i + 1) ∧ bt s (i : Int) = (c.toNat : Int) :=
      ⟨(L s)[i], by rw [List.drop_eq_getElem_cons (by omega)], by rw [bt_get, List.getD_eq_getElem?_getD, List.getElem?_eq_getElem (by omega)]; rfl⟩
    have hv := nv_range c.toNat
    have g1 : (i : Int) < 4 := by omega
    have g2 : (0 : Int) ≤ (i : Int) := by omega
    have g3 : (i : Int) < (s.size : Int) := by omega
    have hpow : 64 ^ (i + 1) = 64 ^ i * 64 := Nat.pow_succ ..
    have p1 : ((p + 1 : Nat) : Int) > 0 := by omega
    have hwI := Lib.hid (wS i (by omega))
    have hwP := Lib.hid (wS p (by omega))
    rw [hd]
    by_cases h61 : c.toNat = 61
    · have hih := ih (i + 1) (n * 64) (p + 1) (by omega) (by omega) (by omega)
      have q61 : (c.toNat : Int) = 61 := by omega
      have ho := or64 (n := n) (v := 0) (by omega) (by omega) (by omega)
      have e : rest4 (c :: (L s).drop (i + 1)) (some (n, p)) = rest4 ((L s).drop (i + 1)) (some (n * 64, p + 1)) := by simp [rest4, step4, h61]
      rw [e]
      refine Ev.step (fun k => ?_) hih
      simp only [b64_four.l0]
      rw [if_pos g1, if_pos g2, if_pos g3, hb, index_at]
      simp only [Option.bind_some]
      rw [if_pos q61, hwP.out, if_pos p1, ho, hwI.out]
      simp
    · have q61 : ¬ (c.toNat : Int) = 61 := by omega
      by_cases hneg : nv c.toNat < 0
      · have e : rest4 (c :: (L s).drop (i + 1)) (some (n, p)) = none := by
          have : rest4 (c :: (L s).drop (i + 1)) (some (n, p)) = rest4 ((L s).drop (i + 1)) none := by simp [rest4, step4, h61, hneg]
          rw [this, rest4_none]
        rw [e]
        refine Ev.step (f := fun k => some (([] : List Int), false)) (fun k => ?_) (Ev.now _)
        simp only [b64_four.l0]
        rw [if_pos g1, if_pos g2, if_pos g3, hb, index_at]
        simp only [Option.bind_some]
        rw [if_neg q61, if_pos hneg]
      · by_cases hp0 : 0 < p
        · have e : rest4 (c :: (L s).drop (i + 1)) (some (n, p)) = none := by
            have : rest4 (c :: (L s).drop (i + 1)) (some (n, p)) = rest4 ((L s).drop (i + 1)) none := by simp [rest4, step4, h61, hneg, hp0]
            rw [this, rest4_none]
          rw [e]
          refine Ev.step (f := fun k => some (([] : List Int), false)) (fun k => ?_) (Ev.now _)
          simp only [b64_four.l0]
          rw [if_pos g1, if_pos g2, if_pos g3, hb, index_at]
          simp only [Option.bind_some]
          rw [if_neg q61, if_neg hneg, if_pos (show (p : Int) > 0 by omega)]
        · have hih := ih (i + 1) (n * 64 + (nv c.toNat).toNat) p (by omega) (by omega) (by omega)
          have q0 : ¬ (p : Int) > 0 := by omega
          have ho := or64 (n := n) (v := nv c.toNat) (by omega) (by omega) (by omega)
          have e : rest4 (c :: (L s).drop (i + 1)) (some (n, p)) = rest4 ((L s).drop (i + 1)) (some (n * 64 + (nv c.toNat).toNat, p)) := by simp [rest4, step4, h61, hneg, hp0]
          rw [e]
          refine Ev.step (fun k => ?_) hih
          simp only [b64_four.l0]
          rw [if_pos g1, if_pos g2, if_pos g3, hb, index_at]
          simp only [Option.bind_some]
          rw [if_neg q61, if_neg hneg, if_neg q0, ho, hwI.out]
theorem four_ev (s : ByteArray) (acc : List Int) (a b c d : UInt8) (h : L s = [a, b, c, d]) (ha : acc.length ≤ 1000000) : Ev (fun k => b64_four.f k s acc) (told4 acc (four4 a b c d)) := by
  have hs : s.size = 4 := by rw [← L_len, h]; rfl
  have := four_loop s acc hs ha 4 0 0 0 (by omega) (by simp) (by omega)
  rw [h] at this
  exact this
theorem four4_len (a b c d : UInt8) (l : List Int) (h : four4 a b c d = some l) : l.length ≤ 3 := by
  unfold four4 at h
  cases hx : step4 (step4 (step4 (step4 (some (0, 0)) a) b) c) d with
  | none => rw [hx] at h; cases h
  | some x =>
    rw [hx] at h
    simp only [Option.bind_some, out3] at h
    split at h
    · cases h
    · obtain rfl := Option.some.inj h
      simp only [List.length_take, List.length_cons, List.length_nil]; omega

def decP : List UInt8 → Option (List Int)
  | [] => some []
  | a :: b :: c :: d :: r => (four4 a b c d).bind fun x => (decP r).map fun y => x ++ y
  | _ => none
/-- what is told at the end: the bytes, if their letters are these -/
def fin (s : ByteArray) (acc : List Int) : Option (List Int) → ByteArray × Int
  | none => ((⟨#[]⟩ : ByteArray), 4)
  | some l => if encL (L (strOfNums (acc ++ l))) = L s then (strOfNums (acc ++ l), 0) else ((⟨#[]⟩ : ByteArray), 4)
theorem fin_map (s : ByteArray) (acc x : List Int) (o : Option (List Int)) : fin s acc (o.map fun y => x ++ y) = fin s (acc ++ x) o := by
  cases o <;> simp [fin]
theorem dec_loop (s : ByteArray) (hs : s.size ≤ 100000) : ∀ (d i : Nat) (acc : List Int), i + 4 * d = s.size → acc.length + 3 * d ≤ 300000 →
    Ev (fun k => b64_Decode.l0 k s acc (i : Int)) (fin s acc (decP ((L s).drop i))) := by
  have hl := L_len s
  intro d
  induction d with
  | zero =>
    intro i acc hi ha
    have hnil : (L s).drop i = [] := List.drop_eq_nil_of_le (by omega)
    rw [hnil]
    have he := encode_f (strOfNums acc) (by rw [size_nums]; omega)
    refine Ev.step (f := fun k => some (fin s acc (some []))) (fun k => ?_) (Ev.now _)
    simp only [b64_Decode.l0]
    rw [if_neg (by omega), he]
    simp only [Option.bind_some, toL, L_mk, fin, List.append_nil]
    exact (apply_ite some _ _ _).symm
  | succ d ih =>
    intro i acc hi ha
    obtain ⟨a, b, c, e, h4⟩ : ∃ a b c e, (L s).drop i = a :: b :: c :: e :: (L s).drop (i + 4) := by
      refine ⟨(L s)[i], (L s)[i + 1], (L s)[i + 2], (L s)[i + 3], ?_⟩
      rw [List.drop_eq_getElem_cons (show i < (L s).length by omega), List.drop_eq_getElem_cons (show i + 1 < (L s).length by omega), List.drop_eq_getElem_cons (show i + 1 + 1 < (L s).length by omega), List.drop_eq_getElem_cons (show i + 1 + 1 + 1 < (L s).length by omega)]
    have hcut : L (s.extract i (i + 4)) = [a, b, c, e] := by
      rw [L_cut, List.drop_take, h4, show i + 4 - i = 4 by omega]; rfl
    have hw : wrap64 ((i : Int) + 4) = ((i + 4 : Nat) : Int) := by rw [w64 (by omega) (by omega)]; omega
    have hstep : ∀ k, b64_Decode.l0 (k + 1) s acc (i : Int) = (b64_four.f k (s.extract i (i + 4)) acc).bind fun bt165 => (if bt165.2 = true then (b64_Decode.l0 k s bt165.1 ((i + 4 : Nat) : Int)) else (some ((⟨#[]⟩ : ByteArray), 4))) := by
      intro k
      simp only [b64_Decode.l0]
      rw [if_pos (by omega), if_pos (by omega), hw, if_pos (by omega), if_pos (by omega)]
      rfl
    refine Ev.step hstep ?_
    refine Ev.bind (four_ev _ acc a b c e hcut (by omega)) ?_
    rw [h4, decP]
    cases hf : four4 a b c e with
    | none => simpa [told4, fin] using Ev.now _
    | some x =>
      simp only [told4, if_true, Option.bind_some, fin_map]
      have := four4_len _ _ _ _ _ hf
      exact ih (i + 4) (acc ++ x) (by omega) (by simp; omega)
/-- the program's answer -/
def decR (s : ByteArray) : ByteArray × Int := if s.size % 4 = 0 then fin s [] (decP (L s)) else ((⟨#[]⟩ : ByteArray), 4)
theorem dec_ev (s : ByteArray) (hs : s.size ≤ 100000) : Ev (fun k => b64_Decode.f k s) (decR s) := by
  unfold decR
  by_cases h : s.size % 4 = 0
  · rw [if_pos h]
    refine Ev.congr (fun k => ?_) (dec_loop s hs (s.size / 4) 0 [] (by omega) (by simp; omega))
    unfold b64_Decode.f
    rw [if_pos (by omega)]; rfl
  · rw [if_neg h]
    refine Ev.congr (fun k => ?_) (Ev.now _)
    unfold b64_Decode.f
    rw [if_neg (by omega)]

/-! the letters of bytes are read as these bytes -/
theorem step_letter (n : Nat) (h : n < 64) (x : Nat) : step4 (some (x, 0)) (letter n) = some (x * 64 + n, 0) := by
  obtain ⟨h1, h2⟩ := nv_letter' n h
  simp [step4, h1, h2]
theorem step_pad (x p : Nat) : step4 (some (x, p)) 61 = some (x * 64, p + 1) := by simp [step4]
theorem four_grp3 (a b c : UInt8) (r : List UInt8) : decP (grp (val3 a.toNat b.toNat c.toNat) 3 ++ r) = (decP r).map fun y => enN [a, b, c] ++ y := by
  have ha := a.toNat_lt; have hb := b.toNat_lt; have hc := c.toNat_lt
  simp only [grp, List.cons_append, List.nil_append, decP]
  rw [if_neg (by omega), if_neg (by omega)]
  unfold four4
  rw [step_letter _ (by omega), step_letter _ (by omega), step_letter _ (by omega), step_letter _ (by omega)]
  simp only [Option.bind_some, out3]
  have e1 : (((0 * 64 + val3 a.toNat b.toNat c.toNat / 262144 % 64) * 64 + val3 a.toNat b.toNat c.toNat / 4096 % 64) * 64 + val3 a.toNat b.toNat c.toNat / 64 % 64) * 64 + val3 a.toNat b.toNat c.toNat % 64 = val3 a.toNat b.toNat c.toNat := by unfold val3; omega
  rw [e1, if_neg (by omega)]
  have e2 : val3 a.toNat b.toNat c.toNat / 65536 % 256 = a.toNat := by unfold val3; omega
  have e3 : val3 a.toNat b.toNat c.toNat / 256 % 256 = b.toNat := by unfold val3; omega
  have e4 : val3 a.toNat b.toNat c.toNat % 256 = c.toNat := by unfold val3; omega
  rw [e2, e3, e4]; rfl
theorem four_grp2 (a b : UInt8) : decP (grp (val3 a.toNat b.toNat 0) 2) = some (enN [a, b]) := by
  have ha := a.toNat_lt; have hb := b.toNat_lt
  simp only [grp, decP]
  rw [if_neg (by omega), if_pos (by omega)]
  unfold four4
  rw [step_letter _ (by omega), step_letter _ (by omega), step_letter _ (by omega), step_pad]
  simp only [Option.bind_some, out3]
  have e1 : (((0 * 64 + val3 a.toNat b.toNat 0 / 262144 % 64) * 64 + val3 a.toNat b.toNat 0 / 4096 % 64) * 64 + val3 a.toNat b.toNat 0 / 64 % 64) * 64 = val3 a.toNat b.toNat 0 := by unfold val3; omega
  rw [e1, if_neg (by omega)]
  have e2 : val3 a.toNat b.toNat 0 / 65536 % 256 = a.toNat := by unfold val3; omega
  have e3 : val3 a.toNat b.toNat 0 / 256 % 256 = b.toNat := by unfold val3; omega
  rw [e2, e3]; rfl
theorem four_grp1 (a : UInt8) : decP (grp (val3 a.toNat 0 0) 1) = some (enN [a]) := by
  have ha := a.toNat_lt
  simp only [grp, decP]
  rw [if_pos (by omega), if_pos (by omega)]
  unfold four4
  rw [step_letter _ (by omega), step_letter _ (by omega), step_pad, step_pad]
  simp only [Option.bind_some, out3]
  have e1 : ((0 * 64 + val3 a.toNat 0 0 / 262144 % 64) * 64 + val3 a.toNat 0 0 / 4096 % 64) * 64 * 64 = val3 a.toNat 0 0 := by unfold val3; omega
  rw [e1, if_neg (by omega)]
  have e2 : val3 a.toNat 0 0 / 65536 % 256 = a.toNat := by unfold val3; omega
  rw [e2]; rfl
theorem decP_enc : ∀ (n : Nat) (l : List UInt8), l.length ≤ n → decP (encL l) = some (enN l) := by
  intro n
  induction n with
  | zero => intro l h; obtain rfl : l = [] := List.eq_nil_of_length_eq_zero (by omega); rfl
  | succ n ih =>
    intro l h
    match l, h with
    | [], _ => rfl
    | [a], _ => exact four_grp1 a
    | [a, b], _ => exact four_grp2 a b
    | a :: b :: c :: r, h =>
      rw [encL, four_grp3, ih r (by simp at h; omega)]
      rfl
theorem encL_len4 : ∀ (n : Nat) (l : List UInt8), l.length ≤ n → (encL l).length % 4 = 0 := by
  intro n
  induction n with
  | zero => intro l h; obtain rfl : l = [] := List.eq_nil_of_length_eq_zero (by omega); rfl
  | succ n ih =>
    intro l h
    match l, h with
    | [], _ => rfl
    | [a], _ => simp [encL, grp]
    | [a, b], _ => simp [encL, grp]
    | a :: b :: c :: r, h =>
      have := ih r (by simp at h; omega)
      rw [encL, List.length_append]
      simp only [grp, List.length_cons, List.length_nil]; omega
theorem encL_le : ∀ (n : Nat) (l : List UInt8), l.length ≤ n → (encL l).length ≤ 4 * l.length := by
  intro n
  induction n with
  | zero => intro l h; obtain rfl : l = [] := List.eq_nil_of_length_eq_zero (by omega); simp [encL]
  | succ n ih =>
    intro l h
    match l, h with
    | [], _ => simp [encL]
    | [a], _ => simp [encL, grp]
    | [a, b], _ => simp [encL, grp]
    | a :: b :: c :: r, h =>
      have := ih r (by simp at h; omega)
      rw [encL, List.length_append]
      simp only [grp, List.length_cons, List.length_nil]; omega
open Classical in
/-- the one answer: bytes whose letters these are, or none -/
noncomputable def ans (s : ByteArray) : ByteArray × Int := if h : ∃ b, encL b = L s then ((⟨(Classical.choose h).toArray⟩ : ByteArray), 0) else ((⟨#[]⟩ : ByteArray), 4)
theorem fin_ans (s : ByteArray) (o : Option (List Int)) (ho : ∀ b, encL b = L s → o = some (enN b)) : fin s [] o = ans s := by
  unfold ans
  split
  · rename_i h
    have hb := Classical.choose_spec h
    rw [ho _ hb]
    simp only [fin, List.nil_append, nums_enN, L_mk, hb, if_true]
  · rename_i h
    cases o with
    | none => rfl
    | some l =>
      simp only [fin]
      rw [if_neg fun e => h ⟨_, e⟩]
theorem decR_ans (s : ByteArray) : decR s = ans s := by
  unfold decR
  split
  · exact fin_ans s _ fun b hb => by rw [← hb]; exact decP_enc _ b (Nat.le_refl _)
  · rename_i h
    unfold ans
    rw [dif_neg]
    rintro ⟨b, hb⟩
    have := encL_len4 _ b (Nat.le_refl _)
    rw [hb, L_len] at this
    exact h this
theorem decR_enc (s : ByteArray) : decR (⟨(encL (L s)).toArray⟩ : ByteArray) = (s, 0) := by
  unfold decR
  rw [size_mk, if_pos (encL_len4 _ _ (Nat.le_refl _)), L_mk (encL (L s)), decP_enc _ _ (Nat.le_refl _)]
  simp only [fin, List.nil_append, nums_enN, mk_L, L_mk (encL (L s)), if_true]
end Go.Proofs.Ytlifgoafmpkibaa.Pure
