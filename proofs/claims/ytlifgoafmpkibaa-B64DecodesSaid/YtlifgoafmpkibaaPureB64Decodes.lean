/- B64Decodes holds: any signs are the letters of bytes, or of none: the program and the document say the same. -/
import Derived.Test.YtlifgoafmpkibaaQ5
import Derived.Test.YtlifgoafmpkibaaB64D
set_option linter.unusedVariables false
set_option linter.unusedSimpArgs false
namespace Go.Proofs.Ytlifgoafmpkibaa.Pure
open Go.RowKit Go.Proofs.Ytlifgoafmpkibaa.Q Go.Proofs.YtlifgoafmpkibaaW.PrintWords Go.Proofs.YtlifgoafmpkibaaW.PrintLast Go.Proofs.YtlifgoafmpkibaaW.PrintMore Go.Proofs.Ytlifgoafmpkibaa.Pl
open Bld (encL grp val3 letter)

theorem number_all : ∀ c : Fin 256, rollbookref14_Number.f 70 (c.1 : Int) = some (nv c.1) := by decide +kernel
theorem number_ev (c : UInt8) : Ev (fun k => rollbookref14_Number.f k (c.toNat : Int)) (nv c.toNat) := Ev.of (fun k => rollbookref14_Number.mono _ k) (number_all ⟨c.toNat, c.toNat_lt⟩)

/-- the document's reading, letter by letter: n holds b bits -/
def refP : List UInt8 → Nat → Nat → Option (List Int)
  | [], _, _ => some []
  | c :: r, n, b => if c.toNat = 61 then some [] else if nv c.toNat < 0 then none else
      if 8 ≤ b + 6 then (refP r ((n * 64 + (nv c.toNat).toNat) % 2 ^ (b + 6 - 8)) (b + 6 - 8)).map fun l => (((n * 64 + (nv c.toNat).toNat) / 2 ^ (b + 6 - 8) % 256 : Nat) : Int) :: l
      else refP r (n * 64 + (nv c.toNat).toNat) (b + 6)
theorem fin_cons (s : ByteArray) (acc : List Int) (x : Int) (o : Option (List Int)) : fin s acc (o.map fun y => x :: y) = fin s (acc ++ [x]) o := by
  cases o <;> simp [fin]

theorem wA (i : Nat) (h : i ≤ 1000000) : wrap64 ((i : Int) + 1) = ((i + 1 : Nat) : Int) := by rw [w64 (by omega) (by omega)]; omega
theorem wB (b : Nat) (h : b ≤ 1000) : wrap64 ((b : Int) + 6) = ((b + 6 : Nat) : Int) := by rw [w64 (by omega) (by omega)]; omega
theorem wC (n : Nat) (v : Int) (h : n ≤ 1000) (h0 : 0 ≤ v) (h1 : v ≤ 63) : wrap64 (wrap64 ((n : Int) * 64) + v) = ((n * 64 + v.toNat : Nat) : Int) := by
  rw [w64 (x := (n : Int) * 64) (by omega) (by omega), w64 (by omega) (by omega)]; omega
theorem wD (p : Nat) (h : p ≤ 1000) : wrap64 ((p : Int) * 2) = ((p * 2 : Nat) : Int) := by rw [w64 (by omega) (by omega)]; omega
theorem wE (b : Nat) (h : b ≤ 1000) (h8 : 8 ≤ b) : wrap64 ((b : Int) - 8) = ((b - 8 : Nat) : Int) := by rw [w64 (by omega) (by omega)]; omega
theorem wF (n p : Nat) (h : n ≤ 100000) (hp : 0 < p) : wrap64 (Int.tdiv (n : Int) (p : Int)) % 256 = ((n / p % 256 : Nat) : Int) := by
  have h1 : n / p ≤ n := Nat.div_le_self _ _
  have h2 : Int.tdiv (n : Int) (p : Int) = ((n / p : Nat) : Int) := by rw [Int.tdiv_eq_ediv_of_nonneg (by omega)]; rfl
  rw [h2]; clear h2; generalize n / p = q at *; rw [w64 (by omega) (by omega)]; rfl
theorem wG (n p : Nat) : Int.tmod (n : Int) (p : Int) = ((n % p : Nat) : Int) := by rw [Int.tmod_eq_emod_of_nonneg (by omega)]; rfl

theorem power_loop (s : ByteArray) (acc : List Int) (ha : acc.length ≤ 1000000) (n b i : Nat) (hn : n ≤ 100000) (hb : b ≤ 13) (hi : i ≤ 100000) (r : ByteArray × Int)
    (hr : 8 ≤ b → Ev (fun k => rollbookref14_Decode.l0 k s (acc ++ [((n / 2 ^ (b - 8) % 256 : Nat) : Int)]) ((n % 2 ^ (b - 8) : Nat) : Int) ((b - 8 : Nat) : Int) ((i + 1 : Nat) : Int)) r) :
    ∀ (d j : Nat), j + d = b → 8 ≤ j → Ev (fun k => rollbookref14_Decode.l1 k s acc (n : Int) (b : Int) (i : Int) ((2 ^ (j - 8) : Nat) : Int) (j : Int)) r := by
  intro d
  induction d with
  | zero =>
    intro j hj h8
    obtain rfl : j = b := by omega
    have hp : 0 < 2 ^ (j - 8) := Nat.two_pow_pos _
    have g1 : ¬ (j : Int) < (j : Int) := by omega
    have g2 : ¬ ((2 ^ (j - 8) : Nat) : Int) = 0 := by omega
    have g3 : acc.length < 140737488355328 := by omega
    refine Ev.step (fun k => ?_) (hr h8)
    simp only [rollbookref14_Decode.l1]
    rw [if_neg g1, if_neg g2, if_pos g3, wF n _ hn hp, wG, wE j (by omega) h8, wA i (by omega)]
  | succ d ih =>
    intro j hj h8
    have hp : 2 ^ (j - 8) ≤ 32 := Nat.le_trans (Nat.pow_le_pow_right (by decide) (show j - 8 ≤ 5 by omega)) (by decide)
    have g1 : (j : Int) < (b : Int) := by omega
    have h := ih (j + 1) (by omega) (by omega)
    rw [show j + 1 - 8 = (j - 8) + 1 by omega, Nat.pow_succ] at h
    refine Ev.step (fun k => ?_) h
    simp only [rollbookref14_Decode.l1]
    rw [if_pos g1, wD _ (by omega), wA j (by omega)]

theorem ref_end (s : ByteArray) (acc : List Int) (hacc : acc.length ≤ 100000) (n b i : Nat) : Ev (fun k => rollbookref14_Decode.j1 k s acc (n : Int) (b : Int) (i : Int) false) (fin s acc (some [])) := by
  refine Ev.step (f := fun k => (rollbookref14_Encode.f k (strOfNums acc)).bind fun t190 => (if t190.toList = s.toList then (some (strOfNums acc, 0)) else (some ((⟨#[]⟩ : ByteArray), 4)))) (fun k => by simp only [rollbookref14_Decode.j1]; rw [if_neg (by simp)]) ?_
  refine Ev.bind (refEnc_ev (strOfNums acc) (by rw [size_nums]; exact hacc)) ?_
  simp only [toL, L_mk (encL (L (strOfNums acc))), fin, List.append_nil]
  by_cases h : encL (L (strOfNums acc)) = L s
  · simp only [if_pos h]; exact Ev.now _
  · simp only [if_neg h]; exact Ev.now _

theorem ref_loop (s : ByteArray) (hs : s.size ≤ 90000) : ∀ (d i n b : Nat) (acc : List Int), i + d = s.size → n < 2 ^ b → b ≤ 7 → acc.length ≤ i →
    Ev (fun k => rollbookref14_Decode.l0 k s acc (n : Int) (b : Int) (i : Int)) (fin s acc (refP ((L s).drop i) n b)) := by
  have hl := L_len s
  intro d
  induction d with
  | zero =>
    intro i n b acc hi hn hb ha
    have hnil : (L s).drop i = [] := List.drop_eq_nil_of_le (by omega)
    have g1 : ¬ (i : Int) < (s.size : Int) := by omega
    rw [hnil]
    refine Ev.step (fun k => ?_) (ref_end s acc (by omega) n b i)
    simp only [rollbookref14_Decode.l0]
    rw [if_neg g1]
  | succ d ih =>
    intro i n b acc hi hn hb ha
    have hn2 : n < 128 := Nat.lt_of_lt_of_le hn (Nat.le_trans (Nat.pow_le_pow_right (by decide) hb) (by decide))
    obtain ⟨c, hd, hbt⟩ : ∃ c, (L s).drop i = c :: (L s).drop (i + 1) ∧ bt s (i : Int) = (c.toNat : Int) :=
      ⟨(L s)[i], by rw [List.drop_eq_getElem_cons (by omega)], by rw [bt_get, List.getD_eq_getElem?_getD, List.getElem?_eq_getElem (by omega)]; rfl⟩
    have hv := nv_range c.toNat
    have g1 : (i : Int) < (s.size : Int) := by omega
    have g2 : (0 : Int) ≤ (i : Int) := by omega
    rw [hd]
    refine Ev.step (f := fun k => rollbookref14_Decode.j1 k s acc (n : Int) (b : Int) (i : Int) ((c.toNat : Int) != 61)) (fun k => ?_) ?_
    · simp only [rollbookref14_Decode.l0]
      rw [if_pos g1, if_pos g2, hbt]
    · by_cases h61 : c.toNat = 61
      · have e1 : ((c.toNat : Int) != 61) = false := by rw [bne_eq_false_iff_eq]; omega
        simp only [refP, if_pos h61, e1]
        exact ref_end s acc (by omega) n b i
      · have e1 : ((c.toNat : Int) != 61) = true := by rw [bne_iff_ne]; omega
        simp only [refP, if_neg h61, e1]
        refine Ev.step (f := fun k => (rollbookref14_Number.f k (c.toNat : Int)).bind fun t191 => (if t191 < 0 then (some ((⟨#[]⟩ : ByteArray), 4)) else (if (wrap64 ((b : Int) + 6)) ≥ 8 then (rollbookref14_Decode.l1 k s acc (wrap64 ((wrap64 ((n : Int) * 64)) + t191)) (wrap64 ((b : Int) + 6)) (i : Int) 1 8) else (rollbookref14_Decode.l0 k s acc (wrap64 ((wrap64 ((n : Int) * 64)) + t191)) (wrap64 ((b : Int) + 6)) (wrap64 ((i : Int) + 1)))))) (fun k => ?_) ?_
        · simp only [rollbookref14_Decode.j1]
          rw [if_pos trivial, if_pos g2, if_pos g1, hbt]
        · refine Ev.bind (number_ev c) ?_
          by_cases hneg : nv c.toNat < 0
          · simp only [if_pos hneg]
            exact Ev.now _
          · simp only [if_neg hneg]
            rw [wB b (by omega), wC n _ (by omega) (by omega) (by omega), wA i (by omega)]
            have hm : n * 64 + (nv c.toNat).toNat < 2 ^ (b + 6) := by rw [Nat.pow_add]; omega
            generalize n * 64 + (nv c.toNat).toNat = m at *
            have hm2 : m < 8192 := Nat.lt_of_lt_of_le hm (Nat.le_trans (Nat.pow_le_pow_right (by decide) (show b + 6 ≤ 13 by omega)) (by decide))
            by_cases h8 : 8 ≤ b + 6
            · simp only [if_pos h8, if_pos (show ((b + 6 : Nat) : Int) ≥ 8 by omega)]
              rw [fin_cons]
              have hp : 0 < 2 ^ (b + 6 - 8) := Nat.two_pow_pos _
              exact power_loop s acc (by omega) m (b + 6) i (by omega) (by omega) (by omega) _
                (fun _ => ih (i + 1) _ (b + 6 - 8) _ (by omega) (Nat.mod_lt _ hp) (by omega) (by simp; omega)) (b + 6 - 8) 8 (by omega) (by omega)
            · simp only [if_neg h8, if_neg (show ¬ ((b + 6 : Nat) : Int) ≥ 8 by omega)]
              exact ih (i + 1) m (b + 6) acc (by omega) hm (by omega) (by omega)

/-! the letters of bytes, read by the document -/
theorem refP_letter (x : Nat) (h : x < 64) (r : List UInt8) (n b : Nat) : refP (letter x :: r) n b = if 8 ≤ b + 6 then (refP r ((n * 64 + x) % 2 ^ (b + 6 - 8)) (b + 6 - 8)).map fun l => (((n * 64 + x) / 2 ^ (b + 6 - 8) % 256 : Nat) : Int) :: l else refP r (n * 64 + x) (b + 6) := by
  obtain ⟨h1, h2⟩ := nv_letter' x h
  simp only [refP]
  rw [if_neg h2, if_neg (by omega), h1]
  simp
theorem refP_pad (r : List UInt8) (n b : Nat) : refP (61 :: r) n b = some [] := by simp [refP]
theorem refP_enc : ∀ (n : Nat) (l : List UInt8), l.length ≤ n → refP (encL l) 0 0 = some (enN l) := by
  intro n
  induction n with
  | zero => intro l h; obtain rfl : l = [] := List.eq_nil_of_length_eq_zero (by omega); rfl
  | succ n ih =>
    intro l h
    match l, h with
    | [], _ => rfl
    | [a], _ =>
      have ha := a.toNat_lt
      simp only [encL, grp]
      rw [if_pos (by omega), refP_letter _ (by omega), if_neg (by omega), refP_letter _ (by omega), if_pos (by omega), refP_pad]
      simp only [Option.map_some, enN, List.map_cons, List.map_nil]
      congr 2
      unfold val3; simp only [Nat.reduceAdd, Nat.reduceSub, Nat.reducePow]; omega
    | [a, b], _ =>
      have ha := a.toNat_lt; have hb := b.toNat_lt
      simp only [encL, grp]
      rw [if_neg (by omega), if_pos (by omega), refP_letter _ (by omega), if_neg (by omega), refP_letter _ (by omega), if_pos (by omega), refP_letter _ (by omega), if_pos (by omega), refP_pad]
      simp only [Option.map_some, enN, List.map_cons, List.map_nil]
      unfold val3; simp only [Nat.reduceAdd, Nat.reduceSub, Nat.reducePow]
      congr 2
      · omega
      · congr 1; omega
    | a :: b :: c :: r, h =>
      have ha := a.toNat_lt; have hb := b.toNat_lt; have hc := c.toNat_lt
      simp only [encL, grp, List.cons_append, List.nil_append]
      rw [if_neg (by omega), if_neg (by omega), refP_letter _ (by omega), if_neg (by omega), refP_letter _ (by omega), if_pos (by omega), refP_letter _ (by omega), if_pos (by omega), refP_letter _ (by omega), if_pos (by omega)]
      simp only [Nat.reduceAdd, Nat.reduceSub, Nat.reducePow, Nat.mod_one]
      rw [ih r (by simp at h; omega)]
      simp only [Option.map_some, enN, List.map_cons]
      unfold val3
      congr 2
      · omega
      · congr 1
        · omega
        · congr 1; omega

theorem B64Decodes : rollbooklaw14_B64Decodes.Pure := by
  intro s hs0
  refine ev_out ?_
  unfold rollbooklaw14_B64Decodes.f
  rw [awake_b64]
  simp only [Option.bind_some, if_true]
  by_cases hs : (s.size : Int) > 3000
  · simp only [if_pos hs]; exact Ev.now true
  · simp only [if_neg hs]
    refine Ev.bind (dec_ev s (by omega)) (Ev.bind (a := fin s [] (refP (L s) 0 0)) (ref_loop s (by omega) s.size 0 0 0 [] (by omega) (by omega) (by omega) (by simp)) ?_)
    rw [decR_ans, fin_ans s _ fun b hb => by rw [← hb]; exact refP_enc _ b (Nat.le_refl _)]
    simpa using Ev.now true

end Go.Proofs.Ytlifgoafmpkibaa.Pure
