/- B64Hexes holds: any bytes have their digits and are read from them as they were; any signs are read as the document says. -/
import Derived.Test.YtlifgoafmpkibaaQ3
import Derived.Test.YtlifgoafmpkibaaPl
set_option linter.unusedVariables false
set_option linter.unusedSimpArgs false
namespace Go.Proofs.Ytlifgoafmpkibaa.Pure
open Go.RowKit Go.Proofs.Ytlifgoafmpkibaa.Q Go.Proofs.YtlifgoafmpkibaaW.PrintWords Go.Proofs.YtlifgoafmpkibaaW.PrintLast Go.Proofs.YtlifgoafmpkibaaW.PrintMore Go.Proofs.Ytlifgoafmpkibaa.Pl

theorem awake_hex : rollbooklaw14_awake.f = some true := by
  unfold rollbooklaw14_awake.f b64_Encode.f b64_Hex.f
  decide +kernel

/-- a digit's number -/
def dv (c : Nat) : Int := if 48 ≤ c ∧ c ≤ 57 then c - 48 else if 97 ≤ c ∧ c ≤ 102 then c - 87 else if 65 ≤ c ∧ c ≤ 70 then c - 55 else -1
theorem digit_all : ∀ c : Fin 256, b64_digit.f (c.1 : Int) = some (dv c.1) := by decide +kernel
theorem value_all : ∀ c : Fin 256, rollbookref14_Value.f 5 (c.1 : Int) = some (dv c.1) := by decide +kernel
theorem dv_range (c : Nat) : -1 ≤ dv c ∧ dv c ≤ 15 := by
  unfold dv; split
  · omega
  · split
    · omega
    · split <;> omega
theorem digit_at (b : UInt8) : b64_digit.f (b.toNat : Int) = some (dv b.toNat) := digit_all ⟨b.toNat, b.toNat_lt⟩
theorem value_at (b : UInt8) : Ev (fun k => rollbookref14_Value.f k (b.toNat : Int)) (dv b.toNat) := Ev.of (fun k => rollbookref14_Value.mono _ k) (value_all ⟨b.toNat, b.toNat_lt⟩)

def unhexL : List UInt8 → Option (List Int)
  | [] => some []
  | [_] => none
  | a :: b :: r => if dv a.toNat < 0 ∨ dv b.toNat < 0 then none else (unhexL r).map fun l => (16 * dv a.toNat + dv b.toNat) :: l
def told (acc : List Int) : Option (List Int) → ByteArray × Int
  | some l => (strOfNums (acc ++ l), 0)
  | none => ((⟨#[]⟩ : ByteArray), 4)
theorem told_cons (acc : List Int) (x : Int) (o : Option (List Int)) : told acc (o.map fun l => x :: l) = told (acc ++ [x]) o := by
  cases o <;> simp [told]
theorem unhexL_odd : ∀ (n : Nat) (l : List UInt8), l.length = 2 * n + 1 → unhexL l = none := by
  intro n
  induction n with
  | zero => intro l h; match l, h with | [a], _ => rfl
  | succ n ih =>
    intro l h
    match l, h with
    | a :: b :: r, h =>
      simp only [unhexL]
      split
      · rfl
      · rw [ih r (by simp at h; omega)]; rfl

theorem or16 {h l : Int} (h0 : 0 ≤ h) (h1 : h ≤ 15) (l0 : 0 ≤ l) (l1 : l ≤ 15) : (Go.bits .or .i64 (wrap64 (h * 16)) l) % 256 = 16 * h + l := by
  have e := bits_join .i64 62 (by decide) (fun n h0 h1 => by rw [IntKind.wrap_i64]; omega) 4 (h * 16) l (by omega) (by omega) (by omega) (by omega) (by omega) (by omega)
  rw [w64 (by omega) (by omega), e]; omega

theorem cut2 {s : ByteArray} {i : Nat} (h : i + 1 < s.size) : ∃ a b, (L s).drop i = a :: b :: (L s).drop (i + 2) ∧ bt s (i : Int) = (a.toNat : Int) ∧ bt s ((i + 1 : Nat) : Int) = (b.toNat : Int) := by
  have hl := L_len s
  refine ⟨(L s)[i], (L s)[i + 1], ?_, ?_, ?_⟩
  · rw [List.drop_eq_getElem_cons (show i < (L s).length by omega), List.drop_eq_getElem_cons (show i + 1 < (L s).length by omega)]; rfl
  · rw [bt_get, List.getD_eq_getElem?_getD, List.getElem?_eq_getElem (by omega)]; rfl
  · rw [bt_get, List.getD_eq_getElem?_getD, List.getElem?_eq_getElem (by omega)]; rfl

theorem unhex_loop (s : ByteArray) (hs : s.size ≤ 1000000) : ∀ (d i : Nat) (acc : List Int), i + 2 * d = s.size → acc.length + d ≤ 1000000 →
    Ev (fun k => b64_Unhex.l0 k s acc (i : Int)) (told acc (unhexL ((L s).drop i))) := by
  intro d
  induction d with
  | zero =>
    intro i acc hi ha
    have hn : (L s).drop i = [] := List.drop_eq_nil_of_le (by rw [L_len]; omega)
    refine Ev.step (f := fun k => some (strOfNums acc, 0)) (fun k => ?_) (by rw [hn]; simpa [unhexL, told] using Ev.now _)
    simp only [b64_Unhex.l0]
    rw [if_neg (by omega)]
  | succ d ih =>
    intro i acc hi ha
    obtain ⟨a, b, hd, hba, hbb⟩ := cut2 (s := s) (i := i) (by omega)
    have hw1 : wrap64 ((i : Int) + 1) = ((i + 1 : Nat) : Int) := by rw [w64 (by omega) (by omega)]; omega
    have hw2 : wrap64 ((i : Int) + 2) = ((i + 2 : Nat) : Int) := by rw [w64 (by omega) (by omega)]; omega
    have ra := dv_range a.toNat
    have rb := dv_range b.toNat
    have go : ∀ k, b64_Unhex.l0 (k + 1) s acc (i : Int) = (if dv a.toNat < 0 then (some ((⟨#[]⟩ : ByteArray), 4)) else (if dv b.toNat < 0 then (some ((⟨#[]⟩ : ByteArray), 4)) else (if acc.length < 140737488355328 then (b64_Unhex.l0 k s (acc ++ [(Go.bits .or .i64 (wrap64 (dv a.toNat * 16)) (dv b.toNat)) % 256]) ((i + 2 : Nat) : Int)) else (none)))) := by
      intro k
      simp only [b64_Unhex.l0]
      rw [if_pos (by omega), if_pos (by omega), hba, digit_at, hw1, hw2, hbb, digit_at]
      simp only [Option.bind_some]
      rw [if_pos (by omega), if_pos (by omega)]
    rw [hd]
    simp only [unhexL]
    by_cases ha0 : dv a.toNat < 0
    · refine Ev.step (f := fun k => some ((⟨#[]⟩ : ByteArray), 4)) (fun k => ?_) (by rw [if_pos (Or.inl ha0)]; exact Ev.now _)
      rw [go, if_pos ha0]
    · by_cases hb0 : dv b.toNat < 0
      · refine Ev.step (f := fun k => some ((⟨#[]⟩ : ByteArray), 4)) (fun k => ?_) (by rw [if_pos (Or.inr hb0)]; exact Ev.now _)
        rw [go, if_neg ha0, if_pos hb0]
      · rw [if_neg (by omega), told_cons]
        refine Ev.step (fun k => ?_) (ih (i + 2) (acc ++ [16 * dv a.toNat + dv b.toNat]) (by omega) (by simp; omega))
        rw [go, if_neg ha0, if_neg hb0, if_pos (by omega), or16 (by omega) (by omega) (by omega) (by omega)]

theorem unhex_ev (s : ByteArray) (hs : s.size ≤ 1000000) : Ev (fun k => b64_Unhex.f k s) (told [] (unhexL (L s))) := by
  by_cases he : s.size % 2 = 0
  · refine Ev.congr (fun k => ?_) (unhex_loop s hs (s.size / 2) 0 [] (by omega) (by simp; omega))
    unfold b64_Unhex.f
    rw [if_pos (by omega)]; rfl
  · have := unhexL_odd (s.size / 2) (L s) (by rw [L_len]; omega)
    rw [this]
    refine Ev.congr (fun k => ?_) (Ev.now _)
    unfold b64_Unhex.f
    rw [if_neg (by omega)]; rfl

theorem refUnhex_loop (s : ByteArray) (hs : s.size ≤ 1000000) : ∀ (d i : Nat) (acc : List Int), s.size ≤ i + 2 * d → i ≤ s.size + 1 → acc.length + d ≤ 1000000 →
    Ev (fun k => rollbookref14_Unhex.l0 k s acc (i : Int)) (told acc (unhexL ((L s).drop i))) := by
  intro d
  induction d with
  | zero =>
    intro i acc hi hi2 ha
    have hn : (L s).drop i = [] := List.drop_eq_nil_of_le (by rw [L_len]; omega)
    refine Ev.step (f := fun k => some (strOfNums acc, 0)) (fun k => ?_) (by rw [hn]; simpa [unhexL, told] using Ev.now _)
    simp only [rollbookref14_Unhex.l0]
    rw [if_neg (by omega)]
  | succ d ih =>
    intro i acc hi hi2 ha
    by_cases h0 : i < s.size
    · have hw1 : wrap64 ((i : Int) + 1) = ((i + 1 : Nat) : Int) := by rw [w64 (by omega) (by omega)]; omega
      have hw2 : wrap64 ((i : Int) + 2) = ((i + 2 : Nat) : Int) := by rw [w64 (by omega) (by omega)]; omega
      have bad : ∀ k, rollbookref14_Unhex.j1 (k + 1) s acc (i : Int) true = some ((⟨#[]⟩ : ByteArray), 4) := fun k => by simp [rollbookref14_Unhex.j1]
      by_cases h1 : i + 1 < s.size
      · obtain ⟨a, b, hd, hba, hbb⟩ := cut2 (s := s) (i := i) h1
        have ra := dv_range a.toNat
        have rb := dv_range b.toNat
        rw [hd]
        simp only [unhexL]
        refine Ev.step (f := fun k => (rollbookref14_Value.f k (a.toNat : Int)).bind fun t127 => (if t127 < 0 then (rollbookref14_Unhex.j1 k s acc (i : Int) true) else ((rollbookref14_Value.f k (b.toNat : Int)).bind fun t128 => (rollbookref14_Unhex.j1 k s acc (i : Int) (decide (t128 < 0)))))) (fun k => ?_) ?_
        · simp only [rollbookref14_Unhex.l0]
          rw [if_pos (by omega), hw1, if_neg (by omega), if_pos (by omega), hba, hbb, if_pos (by omega), if_pos (by omega)]
        · refine Ev.bind (value_at a) ?_
          by_cases ha0 : dv a.toNat < 0
          · simp only [if_pos ha0]
            rw [if_pos (Or.inl ha0)]
            exact Ev.step (f := fun k => some ((⟨#[]⟩ : ByteArray), 4)) bad (Ev.now _)
          · simp only [if_neg ha0]
            refine Ev.bind (value_at b) ?_
            by_cases hb0 : dv b.toNat < 0
            · rw [if_pos (Or.inr hb0)]
              simp only [hb0, decide_true]
              exact Ev.step (f := fun k => some ((⟨#[]⟩ : ByteArray), 4)) bad (Ev.now _)
            · rw [if_neg (by omega), told_cons]
              simp only [hb0, decide_false]
              refine Ev.step (f := fun k => (rollbookref14_Value.f k (a.toNat : Int)).bind fun t129 => ((rollbookref14_Value.f k (b.toNat : Int)).bind fun t130 => (if acc.length < 140737488355328 then (rollbookref14_Unhex.l0 k s (acc ++ [(wrap64 ((wrap64 (16 * t129)) + t130)) % 256]) ((i + 2 : Nat) : Int)) else (none)))) (fun k => ?_) ?_
              · simp only [rollbookref14_Unhex.j1]
                rw [if_neg (by simp), if_pos (by omega), if_pos (by omega), hw1, hw2, hba, hbb]
                simp only [if_pos (show (0 : Int) ≤ ((i + 1 : Nat) : Int) by omega), if_pos (show ((i + 1 : Nat) : Int) < (s.size : Int) by omega)]
              · refine Ev.bind (value_at a) (Ev.bind (value_at b) ?_)
                simp only [if_pos (show acc.length < 140737488355328 by omega)]
                have hv : (wrap64 ((wrap64 (16 * dv a.toNat)) + dv b.toNat)) % 256 = 16 * dv a.toNat + dv b.toNat := by
                  rw [w64 (x := 16 * dv a.toNat) (by omega) (by omega), w64 (by omega) (by omega)]; omega
                rw [hv]
                exact ih (i + 2) _ (by omega) (by omega) (by simp; omega)
      · have hd : unhexL ((L s).drop i) = none := unhexL_odd 0 _ (by rw [List.length_drop, L_len]; omega)
        rw [hd]
        refine Ev.step (f := fun k => rollbookref14_Unhex.j1 k s acc (i : Int) true) (fun k => ?_) (Ev.step (f := fun k => some ((⟨#[]⟩ : ByteArray), 4)) bad (Ev.now _))
        simp only [rollbookref14_Unhex.l0]
        rw [if_pos (by omega), hw1, if_pos (by omega)]
    · have hn : (L s).drop i = [] := List.drop_eq_nil_of_le (by rw [L_len]; omega)
      refine Ev.step (f := fun k => some (strOfNums acc, 0)) (fun k => ?_) (by rw [hn]; simpa [unhexL, told] using Ev.now _)
      simp only [rollbookref14_Unhex.l0]
      rw [if_neg (by omega)]

/-- the digits by the document -/
theorem digit_ref : ∀ c : Fin 16, rollbookref14_Digit.f (c.1 : Int) = some ((Bld.hexDigit c.1).toNat : Int) := by decide +kernel
theorem digit_ref' (n : Nat) (h : n < 16) : rollbookref14_Digit.f (n : Int) = some ((Bld.hexDigit n).toNat : Int) := digit_ref ⟨n, h⟩
def hexN : List UInt8 → List Int
  | [] => []
  | b :: l => ((Bld.hexDigit (b.toNat / 16)).toNat : Int) :: ((Bld.hexDigit (b.toNat % 16)).toNat : Int) :: hexN l
theorem hexN_L (l : List UInt8) : (hexN l).map (fun n => UInt8.ofNat n.toNat) = Bld.hexL l := by
  induction l with
  | nil => rfl
  | cons b l ih => simp only [hexN, Bld.hexL, List.map_cons, ih, ofNat_toNat]
theorem hexW (i : Nat) (h : i ≤ 1000000) : wrap64 ((i : Int) + 1) = ((i + 1 : Nat) : Int) := by rw [w64 (by omega) (by omega)]; omega
theorem hexB1 (a : UInt8) : a.toNat / 16 < 16 := by have := a.toNat_lt; omega
theorem hexB2 (a : UInt8) : a.toNat % 16 < 16 := by omega
theorem hexE1 {a : UInt8} : wrap64 (Int.tdiv (wrap64 (a.toNat : Int)) 16) = ((a.toNat / 16 : Nat) : Int) := by
  have hlt := a.toNat_lt
  rw [w64 (x := (a.toNat : Int)) (by omega) (by omega), Int.tdiv_eq_ediv_of_nonneg (by omega), w64 (by omega) (by omega)]; omega
theorem hexE2 {a : UInt8} : Int.tmod (wrap64 (a.toNat : Int)) 16 = ((a.toNat % 16 : Nat) : Int) := by
  have hlt := a.toNat_lt
  rw [w64 (x := (a.toNat : Int)) (by omega) (by omega), Int.tmod_eq_emod_of_nonneg (by omega)]; omega
theorem refHex_loop (s : ByteArray) (hs : s.size ≤ 1000000) : ∀ (d i : Nat) (acc : List Int), i + d = s.size → acc.length + 2 * d ≤ 2000000 →
    Ev (fun k => rollbookref14_Hex.l0 k s acc (i : Int)) (strOfNums (acc ++ hexN ((L s).drop i))) := by
  intro d
  induction d with
  | zero =>
    intro i acc hi ha
    have hn : (L s).drop i = [] := List.drop_eq_nil_of_le (by rw [L_len]; omega)
    refine Ev.step (f := fun k => some (strOfNums acc)) (fun k => ?_) (by rw [hn]; simpa [hexN] using Ev.now _)
    simp only [rollbookref14_Hex.l0]
    rw [if_neg (by omega)]
  | succ d ih =>
    intro i acc hi ha
    have hl := L_len s
    obtain ⟨a, hd, hba⟩ : ∃ a, (L s).drop i = a :: (L s).drop (i + 1) ∧ bt s (i : Int) = (a.toNat : Int) :=
      ⟨(L s)[i], by rw [List.drop_eq_getElem_cons (by omega)], by rw [bt_get, List.getD_eq_getElem?_getD, List.getElem?_eq_getElem (by omega)]; rfl⟩
    have h1 : (i : Int) < (s.size : Int) := by omega
    have h2 : (0 : Int) ≤ (i : Int) := by omega
    have h3 : acc.length + ([((Bld.hexDigit (a.toNat / 16)).toNat : Int), ((Bld.hexDigit (a.toNat % 16)).toNat : Int)] : List Int).length < 140737488355328 := by simp only [List.length_cons, List.length_nil]; omega
    have h4 := ih (i + 1) (acc ++ [((Bld.hexDigit (a.toNat / 16)).toNat : Int), ((Bld.hexDigit (a.toNat % 16)).toNat : Int)]) (by omega) (by simp; omega)
    refine Ev.step (fun k => ?_) (f := fun k => rollbookref14_Hex.l0 k s (acc ++ [((Bld.hexDigit (a.toNat / 16)).toNat : Int), ((Bld.hexDigit (a.toNat % 16)).toNat : Int)]) ((i + 1 : Nat) : Int)) ?_
    · simp only [rollbookref14_Hex.l0]
      rw [if_pos h1, if_pos h2, hba, hexE1, hexE2, hexW i (by omega), digit_ref' _ (hexB1 a), digit_ref' _ (hexB2 a)]
      simp only [Option.bind_some]
      rw [if_pos h3]
    · rw [hd, hexN]
      simpa [List.append_assoc] using h4

theorem dv_hex : ∀ n : Fin 16, dv (Bld.hexDigit n.1).toNat = n.1 := by decide
theorem dv_hex' (n : Nat) (h : n < 16) : dv (Bld.hexDigit n).toNat = n := dv_hex ⟨n, h⟩
theorem unhex_hex (l : List UInt8) : unhexL (Bld.hexL l) = some (l.map fun b => (b.toNat : Int)) := by
  induction l with
  | nil => rfl
  | cons b l ih =>
    have hlt := b.toNat_lt
    simp only [Bld.hexL, unhexL, dv_hex' (b.toNat / 16) (by omega), dv_hex' (b.toNat % 16) (by omega), ih]
    rw [if_neg (by omega)]
    simp only [Option.map_some, List.map_cons]
    congr 2; omega

theorem B64Hexes : rollbooklaw14_B64Hexes.Pure := by
  intro s hs0
  refine ev_out ?_
  unfold rollbooklaw14_B64Hexes.f
  rw [awake_hex]
  simp only [Option.bind_some, if_true]
  by_cases hs : (s.size : Int) > 3000
  · simp only [if_pos hs]; exact Ev.now true
  · simp only [if_neg hs]
    have hx : b64_Hex.f s = some (⟨(Bld.hexL (L s)).toArray⟩ : ByteArray) := by unfold b64_Hex.f; rw [if_pos (by omega)]; rfl
    have hxs : (⟨(Bld.hexL (L s)).toArray⟩ : ByteArray).size = 2 * s.size := by rw [size_mk, Bld.hexL_length, L_len]
    simp only [hx, Option.bind_some]
    refine Ev.bind (unhex_ev _ (by omega)) ?_
    refine Ev.bind (unhex_ev s (by omega)) ?_
    refine Ev.bind (a := told [] (unhexL (L s))) (refUnhex_loop s (by omega) s.size 0 [] (by omega) (by omega) (by simp; omega)) ?_
    refine Ev.bind (a := strOfNums ([] ++ hexN (L s))) (refHex_loop s (by omega) s.size 0 [] (by omega) (by simp; omega)) ?_
    have h1 : (⟨(Bld.hexL (L s)).toArray⟩ : ByteArray).toList = (strOfNums ([] ++ hexN (L s))).toList := by
      rw [toL, toL, L_mk, L_nums, List.nil_append, hexN_L]
    have h2 : told [] (unhexL (L (⟨(Bld.hexL (L s)).toArray⟩ : ByteArray))) = (s, 0) := by
      rw [L_mk, unhex_hex]
      simp only [told, List.nil_append, Prod.mk.injEq, and_true]
      apply L_ext
      rw [L_nums, List.map_map]
      simp [Function.comp_def]
    simp only [h1, h2, if_true]
    simpa using Ev.now true

end Go.Proofs.Ytlifgoafmpkibaa.Pure
