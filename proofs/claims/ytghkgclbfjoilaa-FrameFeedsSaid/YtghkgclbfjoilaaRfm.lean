/- The document's framer at this program: what Byte and Feed do. -/
import Derived.Test.YtghkgclbfjoilaaRunF
import Derived.Test.YtghkgclbfjoilaaF4
import Derived.Outline
set_option linter.unusedVariables false
set_option linter.unusedSimpArgs false
namespace Go.Proofs.Ytghkgclbfjoilaa.PureF
open Go.RowKit Go.Proofs.Ytghkgclbfjoilaa.F Go.Proofs.YtghkgclbfjoilaaW.PrintWords Go.Proofs.YtghkgclbfjoilaaW.PrintLast Go.Proofs.YtghkgclbfjoilaaW.PrintMore Go.Proofs.Ytghkgclbfjoilaa.Pl

theorem info5' : (Try.prog.info? 5).map (fun i => (i.zero, i.size, i.bytes)) = some (some (.int .u8 0), 1, 1) := by kernel_rfl
def ints (l : List UInt8) : List Int := l.map fun b => (b.toNat : Int)
theorem ints_app (a b : List UInt8) : ints (a ++ b) = ints a ++ ints b := by simp [ints]
theorem ints_len (a : List UInt8) : (ints a).length = a.length := by simp [ints]
theorem str_ints (l : List UInt8) : strOfNums (ints l) = (⟨l.toArray⟩ : ByteArray) := by
  apply L_ext; rw [L_nums, L_mk, ints, List.map_map]; simp [Function.comp_def]

/-- the framer of the document in block g: the bytes at hand, and whether the stream is broken -/
def RF (B : Nat) (W : World) (g : Nat) (l : List UInt8) (b : Bool) : Prop :=
  B ≤ g ∧ ∃ v, W.heap[g]? = some (.cells #[v, .bool b] 29 (0, 0)) ∧ W.ownsRow B 5 1 v l.length (nums .u8 (ints l))
/-- what is neither that block nor a row of bytes stays -/
def KeptU (g : Nat) (w W : World) : Prop := w.heap.size ≤ W.heap.size ∧ ∀ i, i < w.heap.size → i ≠ g → (∀ cs fr, w.heap[i]? ≠ some (.cells cs 5 fr)) → W.heap[i]? = w.heap[i]?
theorem KeptU.refl (g : Nat) (w : World) : KeptU g w w := ⟨Nat.le_refl _, fun _ _ _ _ => rfl⟩
theorem KeptU.trans {g : Nat} {w w1 w2 : World} (h : KeptU g w w1) (k : KeptU g w1 w2) : KeptU g w w2 :=
  ⟨Nat.le_trans h.1 k.1, fun i hi hg hu => (k.2 i (Nat.lt_of_lt_of_le hi h.1) hg (by rw [h.2 i hi hg hu]; exact hu)).trans (h.2 i hi hg hu)⟩
theorem KeptU.below {g : Nat} {w W : World} (h : Below w.heap.size w W) : KeptU g w W := ⟨h.size, fun i hi _ _ => h.block i hi⟩
theorem KeptU.grown {g : Nat} {w W : World} {B e s n : Nat} {v : Value} {xs : List Value} (h : w.grownBy W v.ownBlock) (ho : w.ownsRow B e s v n xs) (he : e = 5) : KeptU g w W :=
  ⟨h.size, fun i hi _ hu => h.block i hi (fun hv => by
    subst he
    obtain ⟨cs, hc⟩ := own_typed ho i hv.symm
    exact hu _ _ hc)⟩
theorem KeptU.set (g : Nat) (w : World) (j : Nat) (u : Value) : KeptU g w (w.setCell ⟨g, j, none⟩ u) :=
  ⟨by simp [World.setCell], fun i hi hg _ => Below.heap_setCell w ⟨g, j, none⟩ u i (fun e => hg e)⟩

theorem RF.cells {B g : Nat} {W : World} {l : List UInt8} {b : Bool} (h : RF B W g l b) : ∃ v, W.cell? ⟨g, 0, none⟩ = some v ∧ W.cell? ⟨g, 1, none⟩ = some (.bool b) ∧ (∀ j, W.frozen? ⟨g, j, none⟩ = false) ∧ W.ownsRow B 5 1 v l.length (nums .u8 (ints l)) ∧ W.heap[g]? = some (.cells #[v, .bool b] 29 (0, 0)) := by
  obtain ⟨hB, v, hb, ho⟩ := h
  exact ⟨v, by simp [World.cell?, hb], by simp [World.cell?, hb], fun j => by simp [World.frozen?, hb], ho, hb⟩
theorem own_far {W : World} {B g : Nat} {l : List UInt8} {v : Value} {cs : Array Value} (ho : W.ownsRow B 5 1 v l.length (nums .u8 (ints l))) (hb : W.heap[g]? = some (.cells cs 29 (0, 0))) : v.ownBlock ≠ some g := by
  intro hv
  obtain ⟨cs', hc⟩ := own_typed ho g hv
  rw [hb] at hc; simp at hc
theorem RF.put {B g : Nat} {W : World} {v v' : Value} {b : Bool} {l : List UInt8} (hB : B ≤ g) (hb : W.heap[g]? = some (.cells #[v, .bool b] 29 (0, 0))) (ho : W.ownsRow B 5 1 v' l.length (nums .u8 (ints l))) : RF B (W.setCell ⟨g, 0, none⟩ v') g l b := by
  refine ⟨hB, v', by simp [World.setCell, Array.getElem?_modify, hb], ?_⟩
  exact own_move ho fun k hk => Below.heap_setCell W ⟨g, 0, none⟩ v' k (fun e => own_far ho hb (by rw [hk, e]))
theorem RF.set1 {B g : Nat} {W : World} {b b' : Bool} {l : List UInt8} (h : RF B W g l b) : RF B (W.setCell ⟨g, 1, none⟩ (.bool b')) g l b' := by
  obtain ⟨hB, v, hb, ho⟩ := h
  refine ⟨hB, v, by simp [World.setCell, Array.getElem?_modify, hb], ?_⟩
  exact own_move ho fun k hk => Below.heap_setCell W ⟨g, 1, none⟩ (.bool b') k (fun e => own_far ho hb (by rw [hk, e]))
theorem RF.nil {B g : Nat} {W : World} {b : Bool} {l : List UInt8} (h : RF B W g l b) : RF B (W.setCell ⟨g, 0, none⟩ (.slice none 0 0)) g [] b := by
  obtain ⟨hB, v, hb, ho⟩ := h
  exact RF.put (l := []) hB hb (own_nil W B 5 1)
theorem RF.lt {B g : Nat} {W : World} {l : List UInt8} {b : Bool} (h : RF B W g l b) : g < W.heap.size := by
  obtain ⟨hB, v, hb, ho⟩ := h
  exact (Array.getElem?_eq_some_iff.1 hb).1
theorem RF.kept {B g : Nat} {W W1 : World} {l : List UInt8} {b : Bool} (h : RF B W g l b) (hk : ∀ i, i < W.heap.size → (i = g ∨ ∃ cs fr, W.heap[i]? = some (.cells cs 5 fr)) → W1.heap[i]? = W.heap[i]?) : RF B W1 g l b := by
  have hlt := h.lt
  obtain ⟨hB, v, hb, ho⟩ := h
  refine ⟨hB, v, (hk g hlt (.inl rfl)).trans hb, own_move ho fun k hv => ?_⟩
  obtain ⟨cs, hc⟩ := own_typed ho k hv
  exact hk k (Array.getElem?_eq_some_iff.1 hc).1 (.inr ⟨cs, _, hc⟩)
theorem RF.drewN {B g : Nat} {W : World} {l : List UInt8} {b : Bool} (h : RF B W g l b) (n : Nat) : RF B (W.drewN n) g l b := h

/-- one byte more: a value that is whole now, whether all is right, and the bytes at hand -/
def byteR (l : List UInt8) (c : UInt8) : List UInt8 × Bool × List UInt8 :=
  match nx (l ++ [c]) with
  | .bad => ([], false, [])
  | .take n => if n = (l ++ [c]).length then (l ++ [c], true, []) else ([], true, l ++ [c])
  | .wait => ([], true, l ++ [c])

theorem byteR_eq (l : List UInt8) (c a : UInt8) (r : List UInt8) (h : l ++ [c] = a :: r) : byteR l c =
    if a.toNat = 48 then (if (totL (l ++ [c])).2 = 0 then (if (totL (l ++ [c])).1 = l.length + 1 then (l ++ [c], true, []) else ([], true, l ++ [c])) else if (totL (l ++ [c])).2 = 3 then ([], true, l ++ [c]) else ([], false, [])) else ([], false, []) := by
  have hL : (l ++ [c]).length = l.length + 1 := by simp
  unfold byteR nx
  rw [hL]
  rw [h] at hL ⊢
  simp only
  by_cases ha : a.toNat = 48
  · rw [if_neg (by omega), if_pos ha]
    by_cases h0 : (totL (a :: r)).2 = 0
    · rw [if_pos h0, if_pos h0]
      by_cases hn : (totL (a :: r)).1 = l.length + 1
      · rw [if_pos (by omega), if_pos hn]; simp only [hn, if_true]
      · by_cases hle : (totL (a :: r)).1 ≤ (a :: r).length
        · rw [if_pos hle, if_neg hn]; simp only [if_neg hn]
        · rw [if_neg hle, if_neg hn]
    · rw [if_neg h0, if_neg h0]
      by_cases h3 : (totL (a :: r)).2 = 3
      · rw [if_pos h3, if_pos h3]
      · rw [if_neg h3, if_neg h3]
  · rw [if_pos ha, if_neg ha]

set_option maxHeartbeats 4000000 in
set_option maxRecDepth 100000 in
theorem byte_any (B g : Nat) (l : List UInt8) (c : UInt8) (w : World) (hRF : RF B w g l false) (hl : l.length ≤ 100000) (hBw : B ≤ w.heap.size) :
    Calls Try.prog 35 #[.pointer (some ⟨g, 0, none⟩), .int .u8 (c.toNat : Int)] w fun e w' => e = .returned (.tuple #[.string ⟨(byteR l c).1.toArray⟩, .bool (byteR l c).2.1]) ∧ RF B w' g (byteR l c).2.2 (!(byteR l c).2.1) ∧ Below B w w' ∧ KeptU g w w' := by
  have hlt := hRF.lt
  obtain ⟨v, c0, c1, hfz, hown, hblk⟩ := hRF.cells
  have hB := hRF.1
  have hz0 := hfz 0
  have hz1 := hfz 1
  obtain ⟨i0, hi, hzz0, hzz1, hzz2⟩ := info_parts info5'
  clear hfz
  have HRF := Aside0.mk hRF
  clear hRF
  go_enter Try.func35, Try.ntmps35
  go_wp2_with (at_builtin; refine print_append_num (w0 := w) B rfl (.tmp 13) (.tmp 15) 27 5 .u8 1 rfl Try.underlying27 info5' (by decide) v (ints l) (c.toNat : Int) rfl rfl ?hO ?hB ?hb ?hl ?_)
  case hO => rw [ints_len]; exact hown
  case hB => exact Below.refl _ _
  case hb => exact hBw
  case hl => rw [ints_len]; omega
  intro v1 w1 hown1 hbel1 hgr1 _
  have e1 : ints l ++ [(c.toNat : Int)] = ints (l ++ [c]) := by simp [ints]
  have hL : (l ++ [c]).length = l.length + 1 := by simp
  rw [e1, ints_len] at hown1
  have hown1' : w1.ownsRow B 5 1 v1 (l ++ [c]).length (nums .u8 (ints (l ++ [c]))) := by rw [hL]; exact hown1
  have hb1 : w1.heap[g]? = some (.cells #[v, .bool false] 29 (0, 0)) := by rw [hgr1.block g hlt (fun e => own_far hown hblk e.symm)]; exact hblk
  have hRF2 := RF.put (b := false) hB hb1 hown1'
  have hk1 : KeptU g w w1 := KeptU.grown hgr1 hown rfl
  obtain ⟨gb, cap, hv1, _, _⟩ := hown1.form (by omega)
  clear hown1'
  subst hv1
  have hz0' : w1.frozen? ⟨g, 0, none⟩ = false := by simp [World.frozen?, hb1]
  have hc0' : w1.cell? ⟨g, 0, none⟩ = some v := by simp [World.cell?, hb1]
  have hlt1 : g < w1.heap.size := Nat.lt_of_lt_of_le hlt hgr1.size
  have hbel2 : Below B w (w1.setCell ⟨g, 0, none⟩ (.slice (some ⟨gb, 0, none⟩) (l.length + 1) cap)) := hbel1.setCell (p := ⟨g, 0, none⟩) hB _
  have hk2 : KeptU g w (w1.setCell ⟨g, 0, none⟩ (.slice (some ⟨gb, 0, none⟩) (l.length + 1) cap)) := hk1.trans (KeptU.set g w1 0 _)
  clear hbel1 hk1 hgr1 hown hblk c0 hz0
  obtain ⟨v2, d0, d1, dfz, down, dblk⟩ := hRF2.cells
  obtain rfl : v2 = (.slice (some ⟨gb, 0, none⟩) (l.length + 1) cap) := by
    have := hRF2.2; obtain ⟨v3, h3, _⟩ := this
    rw [dblk] at h3; simp at h3
    have h4 : (w1.setCell ⟨g, 0, none⟩ (.slice (some ⟨gb, 0, none⟩) (l.length + 1) cap)).cell? ⟨g, 0, none⟩ = some (.slice (some ⟨gb, 0, none⟩) (l.length + 1) cap) := by
      simp [World.cell?, World.setCell, Array.getElem?_modify, hb1]
    rw [d0] at h4; exact Option.some.inj h4
  have hcv : (convert 27 9 (.slice (some ⟨gb, 0, none⟩) (l.length + 1) cap)).run Try.prog (w1.setCell ⟨g, 0, none⟩ (.slice (some ⟨gb, 0, none⟩) (l.length + 1) cap)) = .ok (.string ⟨(l ++ [c]).toArray⟩) (w1.setCell ⟨g, 0, none⟩ (.slice (some ⟨gb, 0, none⟩) (l.length + 1) cap)) := by
    rw [← str_ints]; exact own_string Try.underlying27 Try.underlying5 Try.underlying9 (by rw [hL] at down; exact down)
  have hcvN : ∀ n, (convert 27 9 (.slice (some ⟨gb, 0, none⟩) (l.length + 1) cap)).run Try.prog ((w1.setCell ⟨g, 0, none⟩ (.slice (some ⟨gb, 0, none⟩) (l.length + 1) cap)).drewN n) = .ok (.string ⟨(l ++ [c]).toArray⟩) ((w1.setCell ⟨g, 0, none⟩ (.slice (some ⟨gb, 0, none⟩) (l.length + 1) cap)).drewN n) := by
    intro n
    rw [← str_ints]; exact own_string Try.underlying27 Try.underlying5 Try.underlying9 (by rw [hL] at down; exact down)
  obtain ⟨kt, ht⟩ := (total_ev (⟨(l ++ [c]).toArray⟩ : ByteArray) (by rw [size_mk]; simp; omega)).rounds
  rw [L_mk] at ht
  have HT := Aside0.mk (show rollbookref25_Total.f kt (⟨(l ++ [c]).toArray⟩ : ByteArray) = some (((totL (l ++ [c])).1 : Int), ((totL (l ++ [c])).2 : Int)) from ht)
  clear ht
  obtain ⟨a, r, hal⟩ : ∃ a r, l ++ [c] = a :: r := by cases l with
    | nil => exact ⟨_, _, rfl⟩
    | cons x y => exact ⟨_, _, rfl⟩
  have e0 : (w1.setCell ⟨g, 0, none⟩ (.slice (some ⟨gb, 0, none⟩) (l.length + 1) cap)).cell? ⟨gb, 0, none⟩ = some (.int .u8 (a.toNat : Int)) := by
    have h0 := down.cells (g := gb) rfl 0 (.int .u8 (a.toNat : Int)) (by rw [hal]; rfl)
    rwa [add_plain] at h0
  have HRF2 := Aside0.mk hRF2
  have HB2 := Aside0.mk hbel2
  have HK2 := Aside0.mk hk2
  have HAL := Aside0.mk hal
  have HLL := Aside0.mk hL
  have hlt2 : g < (w1.setCell ⟨g, 0, none⟩ (.slice (some ⟨gb, 0, none⟩) (l.length + 1) cap)).heap.size := hRF2.lt
  clear hRF2 hbel2 hk2 hal hL hb1 down dblk hlt2 hown1 e1 c1
  have hf0 := dfz 0
  have hf1 := dfz 1
  clear dfz hz1
  go_wp2_with fail
  refine (rollbookref25_Total.calls kt _ _ _ _ HT.out).mono ?_
  rintro e w' ⟨rfl, ⟨nd, rfl⟩⟩
  generalize w1.setCell ⟨g, 0, none⟩ (.slice (some ⟨gb, 0, none⟩) (l.length + 1) cap) = W2 at *
  clear hcv HT hz0' hlt1 HRF hlt
  have HR := Lib.hid (byteR_eq l c a r HAL.out)
  generalize (totL (l ++ [c])).1 = t1 at *
  generalize (totL (l ++ [c])).2 = t2 at *
  have hlen : (l.length : Int) ≤ 100000 := by omega
  have hlen2 : (((l.length + 1 : Nat)) : Int) = (l.length : Int) + 1 := by omega
  have HL2 := Lib.hid hlen2
  clear hlen2
  have HN3 := Lib.hid (rfl : l.length + 1 = l.length + 1)
  by_cases ha : a.toNat = 48
  · have ha0 : ((a.toNat : Int) != 48) = false := by rw [bne_eq_false_iff_eq]; omega
    by_cases h0 : t2 = 0
    · have h00 : ((t2 : Int) != 0) = false := by rw [bne_eq_false_iff_eq]; omega
      have h01 : ((t2 : Int) == 0) = true := by rw [beq_iff_eq]; omega
      by_cases hn : t1 = l.length + 1
      · have hn1 : ((t1 : Int) == ((l.length : Int) + 1)) = true := by rw [beq_iff_eq]; omega
        have HE := Lib.hid (HR.out.trans (by rw [if_pos ha, if_pos h0, if_pos hn]))
        clear hn ha h0 HR
        go_wp2
        go_ret2
        rw [HE.out]
        exact ⟨rfl, (HRF2.out.drewN nd).nil, (pw_below_drewN HB2.out nd).setCell (p := ⟨g, 0, none⟩) hB _, KeptU.trans (w1 := W2.drewN nd) ⟨HK2.out.1, HK2.out.2⟩ (KeptU.set g _ 0 _)⟩
      · have hn1 : ((t1 : Int) == ((l.length : Int) + 1)) = false := by rw [beq_eq_false_iff_ne]; omega
        have HE := Lib.hid (HR.out.trans (by rw [if_pos ha, if_pos h0, if_neg hn]))
        clear hn ha h0 HR
        go_wp2
        go_ret2
        rw [HE.out]
        exact ⟨rfl, HRF2.out.drewN _, pw_below_drewN HB2.out _, ⟨HK2.out.1, HK2.out.2⟩⟩
    · have h00 : ((t2 : Int) != 0) = true := by rw [bne_iff_ne]; omega
      have h01 : ((t2 : Int) == 0) = false := by rw [beq_eq_false_iff_ne]; omega
      by_cases h3 : t2 = 3
      · have h30 : ((t2 : Int) != 3) = false := by rw [bne_eq_false_iff_eq]; omega
        have HE := Lib.hid (HR.out.trans (by rw [if_pos ha, if_neg h0, if_pos h3]))
        clear ha h0 h3 HR
        go_wp2
        go_ret2
        rw [HE.out]
        exact ⟨rfl, HRF2.out.drewN _, pw_below_drewN HB2.out _, ⟨HK2.out.1, HK2.out.2⟩⟩
      · have h30 : ((t2 : Int) != 3) = true := by rw [bne_iff_ne]; omega
        have HE := Lib.hid (HR.out.trans (by rw [if_pos ha, if_neg h0, if_neg h3]))
        clear ha h0 h3 HR
        go_wp2
        go_ret2
        rw [HE.out]
        exact ⟨rfl, (HRF2.out.drewN nd).set1.nil, ((pw_below_drewN HB2.out nd).setCell (p := ⟨g, 1, none⟩) hB _).setCell (p := ⟨g, 0, none⟩) hB _, (KeptU.trans (w1 := W2.drewN nd) ⟨HK2.out.1, HK2.out.2⟩ (KeptU.set g _ 1 _)).trans (KeptU.set g _ 0 _)⟩
  · have ha0 : ((a.toNat : Int) != 48) = true := by rw [bne_iff_ne]; omega
    have HE := Lib.hid (HR.out.trans (by rw [if_neg ha]))
    clear ha HR
    go_wp2
    go_ret2
    rw [HE.out]
    exact ⟨rfl, (HRF2.out.drewN nd).set1.nil, ((pw_below_drewN HB2.out nd).setCell (p := ⟨g, 1, none⟩) hB _).setCell (p := ⟨g, 0, none⟩) hB _, (KeptU.trans (w1 := W2.drewN nd) ⟨HK2.out.1, HK2.out.2⟩ (KeptU.set g _ 1 _)).trans (KeptU.set g _ 0 _)⟩
end Go.Proofs.Ytghkgclbfjoilaa.PureF
