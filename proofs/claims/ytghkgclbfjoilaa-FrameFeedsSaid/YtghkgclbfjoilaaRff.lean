/- The document's framer at this program: Feed, byte by byte; and that it tells what the program's framer tells. -/
import Derived.Test.YtghkgclbfjoilaaRfm
set_option linter.unusedVariables false
set_option linter.unusedSimpArgs false
namespace Go.Proofs.Ytghkgclbfjoilaa.PureF
open Go.RowKit Go.Proofs.Ytghkgclbfjoilaa.F Go.Proofs.YtghkgclbfjoilaaW.PrintWords Go.Proofs.YtghkgclbfjoilaaW.PrintLast Go.Proofs.YtghkgclbfjoilaaW.PrintMore Go.Proofs.Ytghkgclbfjoilaa.Pl

def feedS : List UInt8 → List UInt8 → List (List UInt8) × Bool × List UInt8
  | l, [] => ([], false, l)
  | l, c :: s => if (byteR l c).2.1 = true then (if (byteR l c).1 = [] then feedS (byteR l c).2.2 s else ((byteR l c).1 :: (feedS (byteR l c).2.2 s).1, (feedS (byteR l c).2.2 s).2)) else ([], true, (byteR l c).2.2)

theorem headL_cut (m : List UInt8) (k : Nat) (h0 : (headL m).2.2 = 0) (hk : (headL m).1 ≤ k) (hm : k ≤ m.length) : headL (m.take k) = headL m := by
  match m with
  | [] => cases h0
  | [a] =>
    simp only [headL] at h0
    split at h0 <;> cases h0
  | a :: b :: q =>
    have hb := b.toNat_lt
    simp only [headL] at h0 hk
    split at h0
    · cases h0
    · rename_i ha
      rw [if_neg ha] at hk
      split at h0
      · rename_i hb1
        rw [if_pos hb1] at hk
        obtain ⟨k', rfl⟩ : ∃ k', k = k' + 2 := ⟨k - 2, by omega⟩
        show headL (a :: b :: q.take k') = _
        simp only [headL, if_neg ha, if_pos hb1]
      · rename_i hb1
        rw [if_neg hb1] at hk
        split at h0
        · cases h0
        · rename_i hk1
          rw [if_neg hk1] at hk
          split at h0
          · cases h0
          · rename_i hq
            rw [if_neg hq] at hk
            have hk' : 2 + (b.toNat - 128) ≤ k := hk
            obtain ⟨k', rfl⟩ : ∃ k', k = k' + 2 := ⟨k - 2, by omega⟩
            show headL (a :: b :: q.take k') = _
            simp only [headL, if_neg ha, if_neg hb1, if_neg hk1, if_neg hq]
            rw [if_neg (by rw [List.length_take]; simp at hm; omega), List.take_take, show min (b.toNat - 128) k' = b.toNat - 128 by omega]
theorem nx_first {l : List UInt8} {c : UInt8} {n : Nat} (hw : nx l = .wait) (ht : nx (l ++ [c]) = .take n) : n = l.length + 1 := by
  obtain ⟨h1, h2, h3, h4⟩ := nx_take ht
  have hL : (l ++ [c]).length = l.length + 1 := by simp
  rw [hL] at h2
  rcases Nat.lt_or_ge l.length n with h | h
  · omega
  · exfalso
    have h40 : (totL (l ++ [c])).2 = 0 := by rw [h4]
    obtain ⟨e0, e1, _, _⟩ := totL_zero h40
    have e2 : (totL (l ++ [c])).1 = n := by rw [h4]
    have hc := headL_cut (l ++ [c]) l.length e0 (by omega) (by omega)
    rw [List.take_left] at hc
    have ht2 : totL l = (n, 0) := by unfold totL at h4 ⊢; rw [hc]; exact h4
    cases l with
    | nil => simp at h; omega
    | cons a r =>
      simp only [nx] at hw
      split at hw
      · rename_i ha
        simp only [List.cons_append, nx, if_pos ha] at ht
        cases ht
      · rw [ht2] at hw
        simp only [if_true] at hw
        rw [if_pos h] at hw
        cases hw
theorem feedS_runs : ∀ (s l : List UInt8) (ms : List (List UInt8)) (b : Bool) (r : List UInt8), nx l = .wait → Runs (l ++ s) ms b r → feedS l s = (ms, b, r) := by
  intro s
  induction s with
  | nil =>
    intro l ms b r hw hr
    rw [List.append_nil] at hr
    obtain ⟨rfl, rfl, rfl⟩ := runs_det hr (.wait hw)
    rfl
  | cons c s ih =>
    intro l ms b r hw hr
    have e : l ++ c :: s = (l ++ [c]) ++ s := by simp
    rw [e] at hr
    simp only [feedS]
    cases hx : nx (l ++ [c]) with
    | bad =>
      have hb : byteR l c = ([], false, []) := by unfold byteR; rw [hx]
      obtain ⟨rfl, rfl, rfl⟩ := runs_det hr (.bad (nx_more_bad hx s))
      simp [hb]
    | wait =>
      have hb : byteR l c = ([], true, l ++ [c]) := by unfold byteR; rw [hx]
      simp only [hb, if_true]
      exact ih _ _ _ _ hx hr
    | take n =>
      have hn := nx_first hw hx
      have hL : (l ++ [c]).length = l.length + 1 := by simp
      have hb : byteR l c = (l ++ [c], true, []) := by unfold byteR; rw [hx]; simp only [hL, hn, if_true]
      have ht := nx_more_take hx s
      cases hr with
      | wait h => rw [ht] at h; cases h
      | bad h => rw [ht] at h; cases h
      | take h h2 =>
        rw [ht] at h; injection h with h; subst h
        have e1 : ((l ++ [c]) ++ s).drop n = s := by rw [hn, ← hL, List.drop_left]
        have e2 : ((l ++ [c]) ++ s).take n = l ++ [c] := by rw [hn, ← hL, List.take_left]
        rw [e1] at h2
        have := ih [] _ _ _ rfl (by simpa using h2)
        simp only [hb, if_true]
        rw [if_neg (by simp), this, e2]

theorem R_keptU {α : Type} {d : Kd α} {e base : Nat} {ok : Nat → Prop} {W W1 : World} {v : Value} {xs : List α} {B g : Nat} {l : List UInt8} {b : Bool} (h : d.R e W base ok v xs) (hk : KeptU g W W1) (hg : RF B W g l b) (he : ∀ q, q ∈ e :: d.E → q ≠ 29 ∧ q ≠ 5) : d.R e W1 base ok v xs := by
  refine Kd.R_mono (Kd.R_step (Kd.R_bound h) fun k hk1 hlt => ?_) (fun k hk => hk.1)
  obtain ⟨_, _, _, q, hq, cells, hc⟩ := hk1
  obtain ⟨hB, v', hb, _⟩ := hg
  refine hk.2 k hlt (fun hkg => ?_) (fun cs fr hcs => ?_)
  · subst hkg; rw [hb] at hc; simp at hc; exact (he q hq).1 hc.2.symm
  · rw [hcs] at hc; simp at hc; exact (he q hq).2 hc.2.1.symm
theorem KeptU.grow {g : Nat} {w W W1 : World} {row : Option Nat} (h : KeptU g w W) (hg : W.grownBy W1 row) (hr : ∀ k, row = some k → w.heap.size ≤ k) : KeptU g w W1 :=
  ⟨Nat.le_trans h.1 hg.size, fun i hi hne hu => (hg.block i (Nat.lt_of_lt_of_le hi h.1) (fun e => by have := hr i e.symm; omega)).trans (h.2 i hi hne hu)⟩
theorem RF.grow {B g : Nat} {W W1 : World} {l : List UInt8} {b : Bool} {α : Type} {d : Kd α} {e base : Nat} {ok : Nat → Prop} {v : Value} {xs : List α} (h : RF B W g l b) (hg : W.grownBy W1 v.ownBlock) (ho : d.R e W base ok v xs) (he : e ≠ 29 ∧ e ≠ 5) : RF B W1 g l b := by
  obtain ⟨inner, hown⟩ := Kd.R_own ho
  refine h.kept fun i hi hc => hg.block i hi fun hv => ?_
  obtain ⟨cs', hcs⟩ := own_typed hown i hv.symm
  rcases hc with rfl | ⟨cs, fr, hc⟩
  · obtain ⟨_, v', hb, _⟩ := h
    rw [hb] at hcs; simp at hcs; exact he.1 hcs.2.symm
  · rw [hc] at hcs; simp at hcs; exact he.2 hcs.2.1.symm
theorem info9' : (Try.prog.info? 9).map (fun i => (i.zero, i.size, i.bytes)) = some (some (.string ⟨#[]⟩), 1, 16) := by kernel_rfl

theorem own_lit_str (w : World) : (w.alloc (.cells #[] 9)).ownsRow w.heap.size 9 1 (.slice (some ⟨w.heap.size, 0, none⟩) 0 0) (strs []).length (encs Value.string (strs [])) := by
  have h := World.ownsRow_lit (base := w.heap.size) (e := 9) (size := 1) w #[] 0 (Nat.le_refl _) (by simp [maxLen]) (by simp)
  simpa [strs, encs] using h
theorem byteR_len (l : List UInt8) (c : UInt8) : (byteR l c).2.2.length ≤ l.length + 1 := by
  unfold byteR
  split
  · simp
  · split <;> simp
  · simp
def FeedPost (B g : Nat) (l : List UInt8) (s : ByteArray) (w : World) (e : Ending) (w' : World) : Prop :=
  ∃ v0 : Value, e = .returned (.tuple #[v0, .int .i64 (if (feedS l (L s)).2.1 = true then 4 else 0)]) ∧ Kd.string.R 9 w' w.heap.size (fun _ => True) v0 (strs (feedS l (L s)).1) ∧ RF B w' g (feedS l (L s)).2.2 (feedS l (L s)).2.1 ∧ Below B w w' ∧ KeptU g w w'
theorem feedPost_mk {B g : Nat} {l : List UInt8} {s : ByteArray} {w w' : World} {ms : List (List UInt8)} {b : Bool} {r : List UInt8} (h : feedS l (L s) = (ms, b, r)) {v0 : Value} {n : Int} (hn : n = if b = true then 4 else 0) (hR : Kd.string.R 9 w' w.heap.size (fun _ => True) v0 (strs ms)) (hF : RF B w' g r b) (hB : Below B w w') (hK : KeptU g w w') :
    FeedPost B g l s w (.returned (.tuple #[v0, .int .i64 n])) w' := by
  unfold FeedPost
  rw [h]
  exact ⟨v0, by rw [hn], hR, hF, hB, hK⟩
set_option maxHeartbeats 4000000 in
set_option maxRecDepth 100000 in
theorem refFeed_any (B g : Nat) (l : List UInt8) (s : ByteArray) (w : World) (hRF : RF B w g l false) (hl : l.length + s.size ≤ 50000) (hBw : B ≤ w.heap.size) :
    Calls Try.prog 13 #[.pointer (some ⟨g, 0, none⟩), .string s] w (FeedPost B g l s w) := by
  obtain ⟨v, c0, c1, hfz, hown, hblk⟩ := hRF.cells
  have hlt := hRF.lt
  have HRF := Aside0.mk hRF
  clear hRF hown hblk c0 hfz
  go_enter Try.func13, Try.ntmps13
  go_wp2_with fail
  go_loopw [6, 7] (fun v6 i wr => ∃ (k : Nat) (lc : List UInt8) (acc : List (List UInt8)), k ≤ s.size ∧ i = .int .i64 k ∧ Aside0 (Kd.string.R 9 wr w.heap.size (fun _ => True) v6 (strs acc)) ∧ Aside0 (RF B wr g lc false) ∧ Aside0 (Below B w wr) ∧ Aside0 (KeptU g w wr) ∧ Aside0 (feedS l (L s) = (acc ++ (feedS lc ((L s).drop k)).1, (feedS lc ((L s).drop k)).2)) ∧ lc.length ≤ l.length + k ∧ acc.length ≤ k) (fun _ i _ => s.size - (intOf i).toNat)
  case atStart =>
    refine ⟨0, l, [], Nat.zero_le _, rfl, ⟨Kd.R_of_own (own_lit_str w) (fun _ _ => trivial)⟩, ⟨HRF.out.kept fun i hi _ => heap_alloc_old w _ hi⟩, ⟨(Below.refl _ _).alloc hBw _⟩, ⟨KeptU.below ((Below.refl _ _).alloc (Nat.le_refl _) _)⟩, ⟨by simp⟩, by simp, by simp⟩
  case round =>
    obtain ⟨k, lc, acc, hk, rfl, HO, HF, HB, HK, HE, hlc, hacc⟩ := hrel
    by_cases hkt : k < s.size
    · have hd : (L s).drop k = s[k] :: (L s).drop (k + 1) := by
        rw [List.drop_eq_getElem_cons (by rw [L_len]; exact hkt)]; rfl
      have HE2 := Aside0.mk (show feedS l (L s) = (acc ++ (feedS lc (s[k] :: (L s).drop (k + 1))).1, (feedS lc (s[k] :: (L s).drop (k + 1))).2) by rw [← hd]; exact HE.out)
      obtain ⟨c, hc⟩ : ∃ c : UInt8, c = s[k] := ⟨_, rfl⟩
      rw [← hc] at HE2
      have hcc : ∀ h : k < s.size, (s[k]'h).toNat = c.toNat := fun _ => by rw [hc]
      clear hd hc HE
      have hsz := HK.out.1
      go_wp2_with fail
      refine (byte_any B g lc c wr HF.out (by omega) (Nat.le_trans hBw hsz)).mono ?_
      rintro e w1 ⟨rfl, hF1, hB1, hK1⟩
      have HF1 := Aside0.mk hF1; have HB1 := Aside0.mk hB1; have HK1 := Aside0.mk hK1
      clear hF1 hB1 hK1
      have HO1 := Aside0.mk (R_keptU HO.out HK1.out HF.out (by intro q hq; simp [Kd.string, Kd.scalar] at hq; subst hq; decide))
      have hsz1 := HK1.out.1
      have hlb : (byteR lc c).2.2.length ≤ lc.length + 1 := byteR_len lc c
      cases hok : (byteR lc c).2.1 with
      | false =>
        have HR := Aside0.mk (show feedS l (L s) = (acc, true, (byteR lc c).2.2) by rw [HE2.out]; simp only [feedS, hok]; simp)
        clear HE2
        rw [hok] at HF1
        obtain ⟨A, cp, hv6⟩ := Kd.R_slice HO1.out
        subst hv6
        go_wp2
        go_ret2
        exact feedPost_mk HR.out rfl HO1.out HF1.out (HB.out.trans HB1.out) (HK.out.trans HK1.out)
      | true =>
        rw [hok] at HF1
        by_cases ht : (byteR lc c).1 = []
        · have HR := Aside0.mk (show feedS l (L s) = (acc ++ (feedS (byteR lc c).2.2 ((L s).drop (k + 1))).1, (feedS (byteR lc c).2.2 ((L s).drop (k + 1))).2) by rw [HE2.out]; simp only [feedS, hok, ht, if_true])
          have hte : (⟨(byteR lc c).1.toArray⟩ : ByteArray).toList = [] := by rw [toL, L_mk, ht]
          have hte2 : (⟨(byteR lc c).1.toArray⟩ : ByteArray).toList.isEmpty = true := by rw [hte]; rfl
          clear HE2 ht
          go_wp2
          go_roundw
          case rel => exact ⟨k + 1, (byteR lc c).2.2, acc, by omega, by go_num, HO1, HF1, ⟨HB.out.trans HB1.out⟩, ⟨HK.out.trans HK1.out⟩, HR, by omega, by omega⟩
          case measure => simp [intOf]; omega
        · have HR := Aside0.mk (show feedS l (L s) = ((acc ++ [(byteR lc c).1]) ++ (feedS (byteR lc c).2.2 ((L s).drop (k + 1))).1, (feedS (byteR lc c).2.2 ((L s).drop (k + 1))).2) by rw [HE2.out]; simp only [feedS, hok, if_true, if_neg ht, List.append_assoc, List.cons_append, List.nil_append])
          have hte : ¬ (⟨(byteR lc c).1.toArray⟩ : ByteArray).toList = [] := by rw [toL, L_mk]; exact ht
          have hte2 : (⟨(byteR lc c).1.toArray⟩ : ByteArray).toList.isEmpty = false := by
            cases hq : (⟨(byteR lc c).1.toArray⟩ : ByteArray).toList with
            | nil => exact absurd hq hte
            | cons _ _ => rfl
          have hte3 : (byteR lc c).1.isEmpty = false := by simpa using ht
          clear HE2 ht
          have hal : (strs acc).length ≤ 100000 := by rw [strs_len]; omega
          go_wp2_with (at_builtin; refine Kd.R_append Kd.string w.heap.size rfl (.tmp 34) (.tmp 36) 22 9 (.string ⟨#[]⟩) 16 rfl Try.underlying22 info9' rfl (by decide) (by omega) u6 (strs acc) (⟨(byteR lc c).1.toArray⟩ : ByteArray) [.string (⟨(byteR lc c).1.toArray⟩ : ByteArray)] (fun _ => True) (fun _ => False) rfl rfl ?aP (fun _ hk => hk.elim) ?aF ?aO (Below.refl _ _) ?aS ?aL ?_)
          case aP => exact rfl
          case aF => exact fun _ _ => trivial
          case aO => exact HO1.out
          case aS => omega
          case aL => omega
          intro v2 w2 hO2 hB2 hg2 _
          have e2 : strs acc ++ [(⟨(byteR lc c).1.toArray⟩ : ByteArray)] = strs (acc ++ [(byteR lc c).1]) := by simp [strs]
          rw [e2] at hO2
          have HO2 := Aside0.mk hO2
          have HF2 := Aside0.mk (HF1.out.grow hg2 HO1.out (by decide))
          have hown2 := Kd.R_own HO1.out
          have HK2 := Aside0.mk ((HK.out.trans HK1.out).grow hg2 (fun q hq => by obtain ⟨inner, ho⟩ := hown2; exact own_base ho q hq))
          have HB2 := Aside0.mk ((HB.out.trans HB1.out).grown hg2 (by omega) (fun q hq => by obtain ⟨inner, ho⟩ := hown2; exact Nat.le_trans hBw (own_base ho q hq)))
          clear hO2 hB2 hg2 hown2 e2
          go_wp2
          go_roundw
          case rel => exact ⟨k + 1, (byteR lc c).2.2, acc ++ [(byteR lc c).1], by omega, by go_num, HO2, HF2, HB2, HK2, HR, by omega, by simp; omega⟩
          case measure => simp [intOf]; omega
    · have hd : (L s).drop k = [] := List.drop_eq_nil_of_le (by rw [L_len]; omega)
      have HR := Aside0.mk (show feedS l (L s) = (acc, false, lc) by rw [HE.out, hd]; simp [feedS])
      clear HE hd
      obtain ⟨A, cp, hv6⟩ := Kd.R_slice HO.out
      subst hv6
      go_wp2
      go_ret2
      exact feedPost_mk HR.out rfl HO.out HF.out HB.out HK.out
end Go.Proofs.Ytghkgclbfjoilaa.PureF
