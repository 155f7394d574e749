/- B64Wraps holds: the pieces of a width make the text, each is not empty and no longer than the width, and all but the last have it. -/
import Derived.Test.YtlifgoafmpkibaaQ1
import Derived.Test.YtlifgoafmpkibaaPl
set_option linter.unusedVariables false
set_option linter.unusedSimpArgs false
namespace Go.Proofs.Ytlifgoafmpkibaa.Pure
open Go.RowKit Go.Proofs.Ytlifgoafmpkibaa.Q Go.Proofs.YtlifgoafmpkibaaW.PrintWords Go.Proofs.YtlifgoafmpkibaaW.PrintLast Go.Proofs.YtlifgoafmpkibaaW.PrintMore Go.Proofs.Ytlifgoafmpkibaa.Pl

theorem awake_true : rollbooklaw14_awake.f = some true := by
  unfold rollbooklaw14_awake.f b64_Encode.f b64_Hex.f
  decide +kernel

/-- pieces: their bytes together, their sizes -/
def cat (l : List ByteArray) : List UInt8 := l.flatMap L
structure Cut (s : ByteArray) (w : Nat) (l : List ByteArray) : Prop where
  all : cat l = L s
  pos : ∀ x ∈ l, 0 < x.size ∧ x.size ≤ w
  full : ∀ i, i + 1 < l.length → (rdOf ByteArray.empty l (i : Int)).size = w
  one : s.size ≤ w → l.length ≤ 1
theorem rd_cons_succ (x : ByteArray) (l : List ByteArray) (i : Nat) : rdOf ByteArray.empty (x :: l) ((i + 1 : Nat) : Int) = rdOf ByteArray.empty l (i : Int) := by
  simp [rdOf]

theorem wrap_cuts (w : Nat) (hw : 0 < w) (hw2 : (w : Int) ≤ 9223372036854775807) : ∀ (n : Nat) (s : ByteArray) (acc : List ByteArray), s.size ≤ n → n + acc.length ≤ 3000 →
    ∃ l, Cut s w l ∧ l.length ≤ n ∧ Ev (fun k => b64_Wrap.l0 k s (w : Int) acc) (acc ++ l) := by
  intro n
  induction n with
  | zero =>
    intro s acc hs ha
    have hz : s.toList = ([] : List UInt8) := by rw [toL]; exact List.eq_nil_of_length_eq_zero (by rw [L_len]; omega)
    have hL : L s = [] := by rw [← toL]; exact hz
    refine ⟨[], ⟨by rw [hL]; rfl, by simp, by simp, by simp⟩, by simp, ?_⟩
    refine Ev.step (f := fun k => some acc) (fun k => ?_) (by simpa using Ev.now acc)
    simp only [b64_Wrap.l0]
    rw [if_pos hz]
  | succ n ih =>
    intro s acc hs ha
    by_cases h0 : s.size = 0
    · obtain ⟨l, h1, h2, h3⟩ := ih s acc (by omega) (by omega)
      exact ⟨l, h1, by omega, h3⟩
    · have hz : ¬ s.toList = ([] : List UInt8) := by
        rw [toL]; intro h; have := L_len s; rw [h] at this; simp at this; omega
      have hm : mn (w : Int) (s.size : Int) = ((min w s.size : Nat) : Int) := by unfold mn; split <;> omega
      obtain ⟨l, hc, hl, he⟩ := ih (s.extract (min w s.size) s.size) (acc ++ [s.extract 0 (min w s.size)]) (by simp; omega) (by simp; omega)
      refine ⟨s.extract 0 (min w s.size) :: l, ⟨?_, ?_, ?_, ?_⟩, by simp; omega, ?_⟩
      · have := hc.all
        rw [L_from] at this
        simp only [cat, List.flatMap_cons] at this ⊢
        rw [this, L_to, List.take_append_drop]
      · intro x hx
        simp only [List.mem_cons] at hx
        rcases hx with rfl | hx
        · simp only [size_cut]; omega
        · exact hc.pos x hx
      · intro i hi
        match i with
        | 0 =>
          simp only [List.length_cons] at hi
          have h1 : ¬ s.size ≤ w := by
            intro hsw
            have := hc.one (by simp only [size_cut]; omega)
            have h2 : l = [] := by
              have h4 := hc.all
              have h5 : L (s.extract (min w s.size) s.size) = [] := List.eq_nil_of_length_eq_zero (by rw [L_len, size_cut]; omega)
              rw [h5] at h4
              cases l with
              | nil => rfl
              | cons y r =>
                have h6 := (hc.pos y (by simp)).1
                simp only [cat, List.flatMap_cons, List.append_eq_nil_iff] at h4
                have := L_len y; rw [h4.1] at this; simp at this; omega
            rw [h2] at hi; simp at hi
          simp only [rdOf]
          show (s.extract 0 (min w s.size)).size = w
          rw [size_cut]; omega
        | i + 1 => rw [rd_cons_succ]; exact hc.full i (by simpa using hi)
      · intro hsw
        have h4 := hc.all
        have h5 : L (s.extract (min w s.size) s.size) = [] := List.eq_nil_of_length_eq_zero (by rw [L_len, size_cut]; omega)
        rw [h5] at h4
        cases l with
        | nil => simp
        | cons y r =>
          have h6 := (hc.pos y (by simp)).1
          simp only [cat, List.flatMap_cons, List.append_eq_nil_iff] at h4
          have := L_len y; rw [h4.1] at this; simp at this; omega
      · refine Ev.step (fun k => ?_) (by rw [List.append_assoc] at he; exact he)
        simp only [b64_Wrap.l0]
        rw [if_neg hz, hm, if_pos (by omega), if_pos (by omega), if_pos (by omega)]
        rfl

theorem cat_take_succ (l : List ByteArray) (i : Nat) (h : i < l.length) : cat (l.take (i + 1)) = cat (l.take i) ++ L (rdOf ByteArray.empty l (i : Int)) := by
  rw [List.take_succ_eq_append_getElem h]
  simp only [cat, List.flatMap_append, List.flatMap_cons, List.flatMap_nil, List.append_nil]
  congr 2
  simp [rdOf, List.getD_eq_getElem?_getD, List.getElem?_eq_getElem h]
theorem cat_take_le (l : List ByteArray) (i : Nat) : (cat (l.take i)).length ≤ (cat l).length := by
  conv => rhs; rw [← List.take_append_drop i l]
  simp only [cat, List.flatMap_append, List.length_append]; omega

theorem wraps_true (s : ByteArray) (hs : s.size ≤ 3000) (w : Int) (l : List ByteArray) (hall : cat l = L s) (hpos : ∀ x ∈ l, 0 < x.size)
    (hle : 1 ≤ w → ∀ x ∈ l, (x.size : Int) ≤ w) (hfull : 1 ≤ w → ∀ i, i + 1 < l.length → ((rdOf ByteArray.empty l (i : Int)).size : Int) = w) (hone : ¬ 1 ≤ w → l.length ≤ 1) (hll : l.length ≤ 3000) :
    ∀ (d i : Nat) (x : ByteArray), i + d = l.length → L x = cat (l.take i) → Ev (fun k => rollbooklaw14_B64Wraps.l0 k s w l x (i : Int)) true := by
  intro d
  induction d with
  | zero =>
    intro i x hi hx
    refine Ev.step (f := fun k => some true) (fun k => ?_) (Ev.now true)
    simp only [rollbooklaw14_B64Wraps.l0]
    have hxs : x.toList = s.toList := by rw [toL, toL, hx, ← hall, List.take_of_length_le (by omega)]
    rw [if_neg (by omega), if_pos hxs]
    by_cases hw : 1 ≤ w
    · rw [if_pos hw]
    · rw [if_neg hw]
      have := hone hw
      simp; omega
  | succ d ih =>
    intro i x hi hx
    have hil : i < l.length := by omega
    have hmem : rdOf ByteArray.empty l (i : Int) ∈ l := by
      simp only [rdOf, Int.toNat_natCast, List.getD_eq_getElem?_getD, List.getElem?_eq_getElem hil, Option.getD_some]
      exact List.getElem_mem hil
    have hx2 : L (x ++ rdOf ByteArray.empty l (i : Int)) = cat (l.take (i + 1)) := by rw [L_app, hx, cat_take_succ l i hil]
    have hsum : x.size + (rdOf ByteArray.empty l (i : Int)).size ≤ 3000 := by
      have h1 := cat_take_le l (i + 1)
      rw [← hx2, hall, L_len, L_len, ByteArray.size_append] at h1
      omega
    have hw1 : wrap64 ((i : Int) + 1) = ((i + 1 : Nat) : Int) := by rw [w64 (by omega) (by omega)]; omega
    refine Ev.step (fun k => ?_) (ih (i + 1) (x ++ rdOf ByteArray.empty l (i : Int)) (by omega) hx2)
    simp only [rollbooklaw14_B64Wraps.l0]
    have hp := hpos _ hmem
    rw [if_pos (by omega), if_pos (by omega), if_neg (by omega), hw1]
    by_cases hw : 1 ≤ w
    · have h2 := hle hw _ hmem
      rw [if_pos hw, if_neg (by omega)]
      by_cases h3 : i + 1 < l.length
      · rw [if_pos (by omega), if_pos (hfull hw i h3), if_pos (by omega)]
      · rw [if_neg (by omega), if_pos (by omega)]
    · rw [if_neg hw, if_pos (by omega)]

theorem B64Wraps : rollbooklaw14_B64Wraps.Pure := by
  intro s w _ hwf
  have hwr : -9223372036854775808 ≤ w ∧ w ≤ 9223372036854775807 := by
    simp only [Lit.wf, IntKind.min, IntKind.max, IntKind.signed, IntKind.bits, Bool.and_eq_true, decide_eq_true_eq] at hwf
    constructor <;> have := hwf.1 <;> have := hwf.2 <;> simp at * <;> omega
  refine ev_out ?_
  unfold rollbooklaw14_B64Wraps.f
  rw [awake_true]
  simp only [Option.bind_some, if_true]
  by_cases hs : (s.size : Int) > 3000
  · simp only [if_pos hs]; exact Ev.now true
  · simp only [if_neg hs]
    by_cases hw : w < 1
    · have hm : mx 1 (s.size : Int) = ((max 1 s.size : Nat) : Int) := by unfold mx; split <;> omega
      obtain ⟨l, hc, hl, he⟩ := wrap_cuts (max 1 s.size) (by omega) (by omega) s.size s [] (Nat.le_refl _) (by simp; omega)
      refine Ev.bind (a := l) ?_ ?_
      · unfold b64_Wrap.f
        simp only [if_pos hw, hm]
        exact Ev.step (f := fun k => b64_Wrap.l0 k s ((max 1 s.size : Nat) : Int) []) (fun k => by simp only [b64_Wrap.j0]) (by simpa using he)
      · exact wraps_true s (by omega) w l hc.all (fun x hx => (hc.pos x hx).1) (fun h => by omega) (fun h => by omega) (fun _ => hc.one (by omega)) (by omega) l.length 0 _ (by omega) rfl
    · obtain ⟨n, rfl⟩ := Int.eq_ofNat_of_zero_le (show 0 ≤ w by omega)
      obtain ⟨l, hc, hl, he⟩ := wrap_cuts n (by omega) (by omega) s.size s [] (Nat.le_refl _) (by simp; omega)
      refine Ev.bind (a := l) ?_ ?_
      · unfold b64_Wrap.f
        simp only [if_neg hw]
        exact Ev.step (f := fun k => b64_Wrap.l0 k s (n : Int) []) (fun k => by simp only [b64_Wrap.j0]) (by simpa using he)
      · exact wraps_true s (by omega) n l hc.all (fun x hx => (hc.pos x hx).1) (fun h x hx => by have := (hc.pos x hx).2; omega) (fun h i hi => by rw [hc.full i hi]) (fun h => by omega) (by omega) l.length 0 _ (by omega) rfl

end Go.Proofs.Ytlifgoafmpkibaa.Pure
