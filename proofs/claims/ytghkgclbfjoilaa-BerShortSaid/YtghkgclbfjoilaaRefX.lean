/- rollbookref25.Value at this program: the walk, function 41, against what ber.value computes. -/
import Derived.Test.YtghkgclbfjoilaaDecX
import Derived.Test.YtghkgclbfjoilaaR16
set_option linter.unusedVariables false
set_option linter.unusedSimpArgs false
namespace Go.Proofs.Ytghkgclbfjoilaa.Dec
open Go.RowKit Go.Proofs.YtghkgclbfjoilaaW.PrintWords Go.Proofs.YtghkgclbfjoilaaW.PrintLast Go.Proofs.YtghkgclbfjoilaaW.PrintMore Go.Proofs.Ytghkgclbfjoilaa.Pl Go.Proofs.Ytghkgclbfjoilaa.R Go.Proofs.Ytghkgclbfjoilaa.PureR

def vr : Sum Nat S44 → S44 × Nat
  | .inl c => (z44, c)
  | .inr t => (t, 0)
def RPost (r : S44 × Nat) (w : World) (e : Ending) (w' : World) : Prop := Below w.heap.size w w' ∧ ∃ v4, e = .returned (.tuple #[.agg #[.int .i64 r.1.f0, .bool r.1.f1, .int .i64 r.1.f2, .string r.1.f3, v4], .int .i64 (r.2 : Int)]) ∧ Kd.R k44 44 w' w.heap.size (fun _ => True) v4 r.1.f4
theorem refhead_calls (s : ByteArray) (hs : s.size ≤ 1000000) (w : World) : Calls Try.prog 43 #[.string s] w fun e w' => e = .returned (.tuple #[.int .i64 ((headL (L s)).1 : Nat), .int .i64 ((headL (L s)).2.1 : Nat), .int .i64 ((headL (L s)).2.2 : Nat)]) ∧ Below w.heap.size w w' := by
  obtain ⟨k, hk⟩ := ev_out (refHead_ev s (by omega))
  refine (rollbookref25_Head.calls k s _ _ _ w hk).mono ?_
  rintro e w1 ⟨rfl, h⟩
  exact ⟨rfl, h.below⟩

theorem kidsL_err {F : ByteArray → Sum Nat S44} {top : Bool} (hF : ∀ s c, F s = .inl c → c ≠ 0) : ∀ (m : Nat) (s : ByteArray) (acc : List S44) (c : Nat), kidsL F top m s acc = .inl c → c ≠ 0 := by
  intro m
  induction m with
  | zero => intro s acc c h; cases h
  | succ m ih =>
    intro s acc c h
    simp only [kidsL] at h
    split at h
    · cases h
    · split at h
      · cases h; decide
      · split at h
        · split at h
          · rename_i c' hc'
            cases h
            exact hF _ _ hc'
          · exact ih _ _ _ h
        · cases h; decide
theorem valL_err : ∀ (j : Nat) (s : ByteArray) (c : Nat), valL j s = .inl c → c ≠ 0 := by
  intro j
  induction j with
  | zero => intro s c h; cases h; decide
  | succ j ih =>
    intro s c h
    rw [valL_succ] at h
    split at h
    · split at h
      · split at h
        · rename_i c' hc'
          cases h
          exact kidsL_err ih _ _ _ _ hc'
        · cases h
      · cases h
    · cases h; decide
theorem ref_end {R : Ending → World → Prop} {tm : Array Value} {W : World} {gR : Nat} {t0 t1 t2 t3 t4 : Value} {x : Int} (hT : W.heap[gR]? = some (.cells #[t0, t1, t2, t3, t4] 44 (0, 0)))
    (p4 : tm.getD 4 undef = .pointer (some ⟨gR, 0, none⟩)) (p5 : tm.getD 5 undef = .int .i64 x) (h : R (.returned (.tuple #[.agg #[t0, t1, t2, t3, t4], .int .i64 x])) W) :
    bodyPost Try.prog Try.f41 R .ret { tmps := tm, defers := [] } W := by
  refine bodyPost_ret (results_ct (p := 4) (u := 5) (ty := 44) rfl tm W gR 44 #[t0, t1, t2, t3, t4] (0, 0) _ p4 hT Try.underlying44 rfl (by kernel_rfl)) rfl ?_
  rw [p5]
  exact h

set_option maxHeartbeats 1000000 in
set_option maxRecDepth 100000 in
theorem refvalue_level (j d : Nat) (hjd : d + j = 16) (hd1 : 1 ≤ d) (ih : 1 ≤ j → ∀ (s : ByteArray) (w : World), s.size ≤ 20000 → Calls Try.prog 41 #[.string s, .int .i64 ((d + 1 : Nat) : Int)] w (fun e w' => RPost (vr (valL j s)) w e w')) :
    ∀ (s : ByteArray) (w : World), s.size ≤ 20000 → Calls Try.prog 41 #[.string s, .int .i64 (d : Int)] w (fun e w' => RPost (vr (valL (j + 1) s)) w e w') := by
  intro s w hs
  have hb := headL_bound (L s)
  have HH := Aside0.mk (refhead_calls s (by omega))
  obtain ⟨V, hV⟩ : ∃ V : Sum Nat S44, V = valL (j + 1) s := ⟨_, rfl⟩
  rw [← hV]
  replace hV := hV.trans (valL_succ j s)
  have hsz : (headL (L s)).2.2 = 0 → 0 < s.size := by
    intro h
    rcases Nat.eq_zero_or_pos s.size with h0 | h0
    · rw [← L_len] at h0
      rw [List.eq_nil_of_length_eq_zero h0] at h
      cases h
    · exact h0
  generalize (headL (L s)).1 = a at *
  generalize (headL (L s)).2.1 = n at *
  generalize (headL (L s)).2.2 = c at *
  have hu44 := Try.underlying44
  have hw64 : wrap64 ((a : Int) + (n : Int)) = (a : Int) + (n : Int) := w64 (by omega) (by omega)
  by_cases hok : c = 0 ∧ a + n = s.size
  case neg =>
    rw [if_neg hok] at hV
    subst hV
    have hd : ((c : Int) != 0) = true ∨ c = 0 ∧ ((a : Int) + (n : Int) != (s.size : Int)) = true := by
      by_cases hc : c = 0
      · right
        refine ⟨hc, ?_⟩
        simp
        omega
      · left; simpa using hc
    go_enter Try.func41, Try.ntmps41
    go_upto_region 2 with (first | ((with_reducible refine gate_dst (N := 4) rfl ?_); refine box_event ?hg (N := 4) ?hd (cs := #[.int .i64 0, .bool false, .int .i64 0, .string (⟨#[]⟩ : ByteArray), .slice none 0 0]) (t := 44) ?hr ?_; (case hd => rfl); (case hg => rfl); (case hr => first | (go_simp; done) | (go_simp; rfl)); intro gR hg w2 hbox hb2; have HG := Aside0.mk hg; have BK := Aside0.mk hbox; have HB := Aside0.mk hb2; clear hg hbox hb2) | (go_at_call 43; refine (HH.out _).mono ?_; rintro e w1 ⟨rfl, hbb⟩; have BK1 := Aside0.mk (blk_below BK.out hbb); have HB1 := Aside0.mk (below_step HB.out hbb); clear BK HB hbb))
    have hR0 : w1.cell? ⟨gR, 0, none⟩ = some (.int .i64 0) := (blk_cell BK1.out 0).trans rfl
    have hR1 : w1.cell? ⟨gR, 1, none⟩ = some (.bool false) := (blk_cell BK1.out 1).trans rfl
    have hR2 : w1.cell? ⟨gR, 2, none⟩ = some (.int .i64 0) := (blk_cell BK1.out 2).trans rfl
    have hR3 : w1.cell? ⟨gR, 3, none⟩ = some (.string (⟨#[]⟩ : ByteArray)) := (blk_cell BK1.out 3).trans rfl
    have hR4 : w1.cell? ⟨gR, 4, none⟩ = some (.slice none 0 0) := (blk_cell BK1.out 4).trans rfl
    have fR0 := blk_frozen BK1.out 0
    have fR1 := blk_frozen BK1.out 1
    have fR2 := blk_frozen BK1.out 2
    have fR3 := blk_frozen BK1.out 3
    have fR4 := blk_frozen BK1.out 4
    have hgR : w.heap.size ≤ gR := Nat.le_of_eq HG.out.symm
    have HE := Aside0.mk (⟨below_set (below_set (below_set (below_set (below_set HB1.out hgR) hgR) hgR) hgR) hgR, _, rfl, Kd.R_nil _ _ _ _ _⟩ : RPost (z44, 4) w (.returned (.tuple #[.agg #[.int .i64 0, .bool false, .int .i64 0, .string (⟨#[]⟩ : ByteArray), .slice none 0 0], .int .i64 ((4 : Nat) : Int)])) (((((w1.setCell ⟨gR, 0, none⟩ (.int .i64 0)).setCell ⟨gR, 1, none⟩ (.bool false)).setCell ⟨gR, 2, none⟩ (.int .i64 0)).setCell ⟨gR, 3, none⟩ (.string (⟨#[]⟩ : ByteArray))).setCell ⟨gR, 4, none⟩ (.slice none 0 0)))
    rcases hd with hd | ⟨rfl, hd⟩
    all_goals (
      go_wp2_with fail
      refine ref_end (put5 BK1.out) rfl rfl ?_
      exact HE.out)
  rw [if_pos hok] at hV
  obtain ⟨rfl, hn⟩ := hok
  have hs0 := hsz rfl
  have hd : ((a : Int) + (n : Int) != (s.size : Int)) = false := by simp; omega
  have hbyte := b0_get s hs0
  have hb256 := b0_lt s
  generalize b0 s = z at *
  have HV := Aside0.mk hV
  clear hV
  go_enter Try.func41, Try.ntmps41
  go_upto_region 4 with (first | ((with_reducible refine gate_dst (N := 4) rfl ?_); refine box_event ?hg (N := 4) ?hd (cs := #[.int .i64 0, .bool false, .int .i64 0, .string (⟨#[]⟩ : ByteArray), .slice none 0 0]) (t := 44) ?hr ?_; (case hd => rfl); (case hg => rfl); (case hr => first | (go_simp; done) | (go_simp; rfl)); intro gR hg w2 hbox hb2; have HG := Aside0.mk hg; have BK := Aside0.mk hbox; have HB := Aside0.mk hb2; clear hg hbox hb2) | (go_at_call 43; refine (HH.out _).mono ?_; rintro e w1 ⟨rfl, hbb⟩; have BK1 := Aside0.mk (blk_below BK.out hbb); have HB1 := Aside0.mk (below_step HB.out hbb); clear BK HB hbb))

  clear hsz
  have ha := hb.1
  clear hb
  by_cases hcb : z / 32 % 2 = 1
  · have hV := HV.out
    rw [if_pos hcb] at hV
    replace HV := Aside0.mk hV
    clear hV
    have h32 : ((z : Int) / 32 % 2 == 1) = true := by rw [beq_iff_eq]; omega
    go_region
    obtain ⟨o, ho⟩ : ∃ o : Obj, o = .cells #[.int .i64 ((z : Int) / 64), .bool true, .int .i64 ((z : Int) % 32), .string (⟨#[]⟩ : ByteArray), .slice none 0 0] 44 (0, 0) := ⟨_, rfl⟩
    rw [← ho]
    have BT0 : (w1.alloc o).drew.heap[w1.heap.size]? = some o := heap_alloc_new w1 o
    have BR0 : (w1.alloc o).drew.heap[gR]? = _ := blk_below BK1.out (below_alloc (Below.refl _ w1) o).drew
    have HB0 : Below w.heap.size w (w1.alloc o).drew := (below_alloc HB1.out o).drew
    have hne : gR ≠ w1.heap.size := Nat.ne_of_lt (blk_lt BK1.out)
    have hge : w.heap.size ≤ w1.heap.size := HB1.out.size
    clear BK1 HB1 HH h32 hbyte
    generalize (w1.alloc o).drew = w3 at *
    generalize w1.heap.size = gT at *
    subst ho
    have BT := Aside0.mk BT0
    have BR := Aside0.mk BR0
    have HB := Aside0.mk HB0
    have hgR : w.heap.size ≤ gR := Nat.le_of_eq HG.out.symm
    clear BT0 BR0 HB0 w1 w2 HG
    have hT1 : w3.cell? ⟨gT, 1, none⟩ = some (.bool true) := (blk_cell BT.out 1).trans rfl
    go_wp2_with fail
    have ha2 : (a : Int) ≤ (s.size : Int) := by omega
    have HK := Aside0.mk (Kd.R_nil k44 44 w3 w.heap.size (fun k_ => k_ ≠ gT ∧ k_ ≠ gR))
    obtain ⟨K0, hK0⟩ : ∃ K0, kidsL (valL j) (j == 0) s.size (s.extract a s.size) [] = K0 := ⟨_, rfl⟩
    have HKL := Aside0.mk hK0
    have HV2 := Aside0.mk (hK0 ▸ HV.out)
    clear hK0 HV hT1
    go_loopw [6] (fun v6 wr => ∃ (p : Nat) (acc : List S44) (kv : Value) (m : Nat), v6 = .int .i64 (p : Int) ∧ p ≤ s.size ∧ s.size - p ≤ m ∧ m + acc.length ≤ 20000 ∧ Aside0 (kidsL (valL j) (j == 0) m (s.extract p s.size) acc = K0) ∧ Aside0 (wr.heap[gT]? = some (.cells #[.int .i64 ((z : Int) / 64), .bool true, .int .i64 ((z : Int) % 32), .string (⟨#[]⟩ : ByteArray), kv] 44 (0, 0))) ∧ Aside0 (wr.heap[gR]? = some (.cells #[.int .i64 0, .bool false, .int .i64 0, .string (⟨#[]⟩ : ByteArray), .slice none 0 0] 44 (0, 0))) ∧ Aside0 (Kd.R k44 44 wr w.heap.size (fun k_ => k_ ≠ gT ∧ k_ ≠ gR) kv acc) ∧ Aside0 (Below w.heap.size w wr)) (fun v _ => s.size - (intOf v).toNat)
    case atStart => exact ⟨a, [], _, s.size, rfl, by omega, by omega, by simpa using hs, HKL, BT, BR, HK, HB⟩
    case round =>
      clear HKL BT BR HK HB
      obtain ⟨p, acc, kv, m, rfl, hp, hm, hma, HKL, BT4, BR4, HK4, HB4⟩ := hrel
      have hrs : (s.extract p s.size).size = s.size - p := by rw [size_cut]; omega
      by_cases hz0 : s.size ≤ p
      · have hend : K0 = .inr acc := by
          rw [← HKL.out]
          cases m with
          | zero => rfl
          | succ m => simp only [kidsL]; rw [if_pos (by omega)]
        have HE := Aside0.mk hend
        clear hend HKL
        have hlt : decide ((p : Int) < (s.size : Int)) = false := decide_eq_false (by omega)
        obtain ⟨Ak, ck, ek⟩ := Kd.R_slice HK4.out
        subst ek
        have hT0 : wr.cell? ⟨gT, 0, none⟩ = some (.int .i64 ((z : Int) / 64)) := (blk_cell BT4.out 0).trans rfl
        have hT1 : wr.cell? ⟨gT, 1, none⟩ = some (.bool true) := (blk_cell BT4.out 1).trans rfl
        have hT2 : wr.cell? ⟨gT, 2, none⟩ = some (.int .i64 ((z : Int) % 32)) := (blk_cell BT4.out 2).trans rfl
        have hT3 : wr.cell? ⟨gT, 3, none⟩ = some (.string (⟨#[]⟩ : ByteArray)) := (blk_cell BT4.out 3).trans rfl
        have hT4 : wr.cell? ⟨gT, 4, none⟩ = some (.slice Ak acc.length ck) := (blk_cell BT4.out 4).trans rfl
        have hR0 : wr.cell? ⟨gR, 0, none⟩ = some (.int .i64 0) := (blk_cell BR4.out 0).trans rfl
        have hR1 : wr.cell? ⟨gR, 1, none⟩ = some (.bool false) := (blk_cell BR4.out 1).trans rfl
        have hR2 : wr.cell? ⟨gR, 2, none⟩ = some (.int .i64 0) := (blk_cell BR4.out 2).trans rfl
        have hR3 : wr.cell? ⟨gR, 3, none⟩ = some (.string (⟨#[]⟩ : ByteArray)) := (blk_cell BR4.out 3).trans rfl
        have hR4 : wr.cell? ⟨gR, 4, none⟩ = some (.slice none 0 0) := (blk_cell BR4.out 4).trans rfl
        have fR0 := blk_frozen BR4.out 0
        have fR1 := blk_frozen BR4.out 1
        have fR2 := blk_frozen BR4.out 2
        have fR3 := blk_frozen BR4.out 3
        have fR4 := blk_frozen BR4.out 4
        have hne2 := hne.symm
        go_wp2_with fail
        have hVe : V = .inr ⟨(z / 64 : Nat), true, (z % 32 : Nat), ⟨#[]⟩, acc⟩ := by rw [HV2.out, HE.out]
        rw [hVe]
        refine ref_end (put5 BR4.out) rfl rfl ?_
        exact ⟨by repeat (with_reducible first | exact HB4.out | refine below_set ?_ hgR), _, rfl, Kd.R_mono (far5 HK4.out (fun k_ hk => hk.2)) (fun _ _ => trivial)⟩
      · have hlt : decide ((p : Int) < (s.size : Int)) = true := decide_eq_true (by omega)
        obtain ⟨m, rfl⟩ : ∃ m', m = m' + 1 := ⟨m - 1, by omega⟩
        have hk1 := HKL.out
        simp only [kidsL] at hk1
        rw [if_neg (show ¬ (s.extract p s.size).size = 0 by omega)] at hk1
        clear HKL
        by_cases htop : j = 0
        · subst htop
          rw [if_pos (by decide : ((0 : Nat) == 0) = true)] at hk1
          have HE := Aside0.mk hk1.symm
          clear hk1
          have hd16 : ((d : Int) == 16) = true := by rw [beq_iff_eq]; omega
          have hR0 : wr.cell? ⟨gR, 0, none⟩ = some (.int .i64 0) := (blk_cell BR4.out 0).trans rfl
          have hR1 : wr.cell? ⟨gR, 1, none⟩ = some (.bool false) := (blk_cell BR4.out 1).trans rfl
          have hR2 : wr.cell? ⟨gR, 2, none⟩ = some (.int .i64 0) := (blk_cell BR4.out 2).trans rfl
          have hR3 : wr.cell? ⟨gR, 3, none⟩ = some (.string (⟨#[]⟩ : ByteArray)) := (blk_cell BR4.out 3).trans rfl
          have hR4 : wr.cell? ⟨gR, 4, none⟩ = some (.slice none 0 0) := (blk_cell BR4.out 4).trans rfl
          have fR0 := blk_frozen BR4.out 0
          have fR1 := blk_frozen BR4.out 1
          have fR2 := blk_frozen BR4.out 2
          have fR3 := blk_frozen BR4.out 3
          have fR4 := blk_frozen BR4.out 4
          go_wp2_with fail
          have hVe : V = .inl 13 := by rw [HV2.out, HE.out]
          rw [hVe]
          refine ref_end (put5 BR4.out) rfl rfl ?_
          exact ⟨by repeat (with_reducible first | exact HB4.out | refine below_set ?_ hgR), _, rfl, Kd.R_nil _ _ _ _ _⟩
        · have hj1 : 1 ≤ j := by omega
          rw [if_neg (by simpa using htop)] at hk1
          have hd16 : ((d : Int) == 16) = false := by rw [beq_eq_false_iff_ne]; omega
          have HH := Aside0.mk (refhead_calls (s.extract p s.size) (by omega))
          have hbw := headL_bound (L (s.extract p s.size))
          have hp2 : (p : Int) ≤ (s.size : Int) := by omega
          go_upto_region 12 with (go_at_call 43; refine (HH.out _).mono ?_; rintro e w4 ⟨rfl, hb4⟩; have BT5 := Aside0.mk (blk_below BT4.out hb4); have BR5 := Aside0.mk (blk_below BR4.out hb4); have HB5 := Aside0.mk (below_step HB4.out hb4); have HK5 := Aside0.mk (Kd.R_below HK4.out hb4); clear BT4 BR4 HB4 HK4 hb4; have BT4 := BT5; have BR4 := BR5; have HB4 := HB5; have HK4 := HK5; clear BT5 BR5 HB5 HK5)
          by_cases hw : okW (L (s.extract p s.size))
          case neg =>
            rw [if_neg hw] at hk1
            have HE := Aside0.mk hk1.symm
            clear hk1
            unfold okW at hw
            rw [L_len, hrs] at hw
            generalize (headL (L (s.extract p s.size))).1 = a2 at *
            generalize (headL (L (s.extract p s.size))).2.1 = n2 at *
            generalize (headL (L (s.extract p s.size))).2.2 = c2 at *
            have hd2 : ((c2 : Int) != 0) = true ∨ c2 = 0 ∧ decide ((s.size : Int) < (p : Int) + (a2 : Int) + (n2 : Int)) = true := by
              by_cases hc : c2 = 0
              · right
                refine ⟨hc, decide_eq_true ?_⟩
                omega
              · left; simpa using hc
            clear hw
            have hR0 : w4.cell? ⟨gR, 0, none⟩ = some (.int .i64 0) := (blk_cell BR4.out 0).trans rfl
            have hR1 : w4.cell? ⟨gR, 1, none⟩ = some (.bool false) := (blk_cell BR4.out 1).trans rfl
            have hR2 : w4.cell? ⟨gR, 2, none⟩ = some (.int .i64 0) := (blk_cell BR4.out 2).trans rfl
            have hR3 : w4.cell? ⟨gR, 3, none⟩ = some (.string (⟨#[]⟩ : ByteArray)) := (blk_cell BR4.out 3).trans rfl
            have hR4 : w4.cell? ⟨gR, 4, none⟩ = some (.slice none 0 0) := (blk_cell BR4.out 4).trans rfl
            have fR0 := blk_frozen BR4.out 0
            have fR1 := blk_frozen BR4.out 1
            have fR2 := blk_frozen BR4.out 2
            have fR3 := blk_frozen BR4.out 3
            have fR4 := blk_frozen BR4.out 4
            have hVe : V = .inl 4 := by rw [HV2.out, HE.out]
            have HVe := Aside0.mk hVe
            clear hVe
            have HE2 := Aside0.mk (⟨below_set (below_set (below_set (below_set (below_set HB4.out hgR) hgR) hgR) hgR) hgR, _, rfl, Kd.R_nil _ _ _ _ _⟩ : RPost (z44, 4) w (.returned (.tuple #[.agg #[.int .i64 0, .bool false, .int .i64 0, .string (⟨#[]⟩ : ByteArray), .slice none 0 0], .int .i64 ((4 : Nat) : Int)])) (((((w4.setCell ⟨gR, 0, none⟩ (.int .i64 0)).setCell ⟨gR, 1, none⟩ (.bool false)).setCell ⟨gR, 2, none⟩ (.int .i64 0)).setCell ⟨gR, 3, none⟩ (.string (⟨#[]⟩ : ByteArray))).setCell ⟨gR, 4, none⟩ (.slice none 0 0)))
            rcases hd2 with hd2 | ⟨rfl, hd2⟩
            all_goals (
              go_wp2_with fail
              refine ref_end (put5 BR4.out) rfl rfl ?_
              rw [HVe.out]
              exact HE2.out)
          rw [if_pos hw] at hk1
          have hw2 := hw
          unfold okW at hw2
          rw [L_len, hrs] at hw2
          have hnw := whole_bounds hw
          rw [L_len, hrs] at hnw
          unfold lenW at hnw hk1
          clear hw
          generalize (headL (L (s.extract p s.size))).1 = a2 at *
          generalize (headL (L (s.extract p s.size))).2.1 = n2 at *
          generalize (headL (L (s.extract p s.size))).2.2 = c2 at *
          obtain ⟨rfl, hw3⟩ := hw2
          have hgt : decide ((s.size : Int) < (p : Int) + (a2 : Int) + (n2 : Int)) = false := decide_eq_false (by omega)
          have hle1 : (p : Int) ≤ (p : Int) + (a2 : Int) + (n2 : Int) := by omega
          have hle2 : (p : Int) + (a2 : Int) + (n2 : Int) ≤ (s.size : Int) := by omega
          have hc1 : (s.extract p s.size).extract 0 (a2 + n2) = s.extract p (p + a2 + n2) := by
            apply L_ext
            rw [L_to, L_cut, L_cut, ← L_len, List.take_length, List.take_drop, Nat.add_assoc]
          have hc2 : (s.extract p s.size).extract (a2 + n2) (s.extract p s.size).size = s.extract (p + a2 + n2) s.size := by
            apply L_ext
            rw [L_from, L_from, L_from, List.drop_drop, Nat.add_assoc]
          rw [hc1, hc2] at hk1
          clear hc1 hc2
          have HK1 := Aside0.mk hk1
          clear hk1
          have ed : ((d + 1 : Nat) : Int) = (d : Int) + 1 := by omega
          have HC := Aside0.mk (fun x : World => (show Calls Try.prog 41 #[.string (s.extract p (p + a2 + n2)), .int .i64 ((d : Int) + 1)] x (fun e w' => RPost (vr (valL j (s.extract p (p + a2 + n2)))) x e w') from by rw [← ed]; exact ih hj1 (s.extract p (p + a2 + n2)) x (by rw [size_cut]; omega)))
          clear ed
          cases hv : valL j (s.extract p (p + a2 + n2)) with
          | inl c =>
            have hk1 := HK1.out
            rw [hv] at hk1
            have HE := Aside0.mk hk1.symm
            have HIH := Aside0.mk (fun x : World => (show Calls Try.prog 41 #[.string (s.extract p (p + a2 + n2)), .int .i64 ((d : Int) + 1)] x (fun e w' => Below x.heap.size x w' ∧ ∃ A5 c5, e = .returned (.tuple #[.agg #[.int .i64 0, .bool false, .int .i64 0, .string (⟨#[]⟩ : ByteArray), .slice A5 0 c5], .int .i64 (c : Int)])) from (HC.out x).mono (by
              rintro e w' ⟨h1, v4, rfl, h2⟩
              rw [hv] at h2 ⊢
              obtain ⟨A5, c5, ev5⟩ := Kd.R_slice h2
              subst ev5
              exact ⟨h1, A5, c5, rfl⟩)))
            have hc0 : ((c : Int) != 0) = true := by simpa using valL_err j _ c hv
            clear hk1 hv HC HK1
            have hVe : V = .inl c := by
              have e1 := HE.out
              have e2 := HV2.out
              rw [e1] at e2
              exact e2
            have HVe := Aside0.mk hVe
            clear hVe
            go_wp2_with (go_at_call 41; refine (HIH.out _).mono ?_; rintro e w5 ⟨hb5, A5, c5, rfl⟩; have BR5 := Aside0.mk (blk_alloc (blk_below BR4.out hb5) (.cells #[.int .i64 0, .bool false, .int .i64 0, .string (⟨#[]⟩ : ByteArray), .slice A5 0 c5] 44 (0, 0))); have HB5 := Aside0.mk (below_alloc (below_step HB4.out hb5) (.cells #[.int .i64 0, .bool false, .int .i64 0, .string (⟨#[]⟩ : ByteArray), .slice A5 0 c5] 44 (0, 0))); clear hb5; have hR0 : (w5.alloc (.cells #[.int .i64 0, .bool false, .int .i64 0, .string (⟨#[]⟩ : ByteArray), .slice A5 0 c5] 44 (0, 0))).cell? ⟨gR, 0, none⟩ = some (.int .i64 0) := (blk_cell BR5.out 0).trans rfl; have hR1 : (w5.alloc (.cells #[.int .i64 0, .bool false, .int .i64 0, .string (⟨#[]⟩ : ByteArray), .slice A5 0 c5] 44 (0, 0))).cell? ⟨gR, 1, none⟩ = some (.bool false) := (blk_cell BR5.out 1).trans rfl; have hR2 : (w5.alloc (.cells #[.int .i64 0, .bool false, .int .i64 0, .string (⟨#[]⟩ : ByteArray), .slice A5 0 c5] 44 (0, 0))).cell? ⟨gR, 2, none⟩ = some (.int .i64 0) := (blk_cell BR5.out 2).trans rfl; have hR3 : (w5.alloc (.cells #[.int .i64 0, .bool false, .int .i64 0, .string (⟨#[]⟩ : ByteArray), .slice A5 0 c5] 44 (0, 0))).cell? ⟨gR, 3, none⟩ = some (.string (⟨#[]⟩ : ByteArray)) := (blk_cell BR5.out 3).trans rfl; have hR4 : (w5.alloc (.cells #[.int .i64 0, .bool false, .int .i64 0, .string (⟨#[]⟩ : ByteArray), .slice A5 0 c5] 44 (0, 0))).cell? ⟨gR, 4, none⟩ = some (.slice none 0 0) := (blk_cell BR5.out 4).trans rfl; have fR0 := blk_frozen BR5.out 0; have fR1 := blk_frozen BR5.out 1; have fR2 := blk_frozen BR5.out 2; have fR3 := blk_frozen BR5.out 3; have fR4 := blk_frozen BR5.out 4)
            refine ref_end (put5 BR5.out) rfl rfl ?_
            rw [HVe.out]
            exact ⟨by repeat (with_reducible first | exact HB5.out | refine below_set ?_ hgR), _, rfl, Kd.R_nil _ _ _ _ _⟩
          | inr t =>
            have hk1 := HK1.out
            rw [hv] at hk1
            have HE := Aside0.mk hk1
            have HIH := Aside0.mk (fun x : World => (show Calls Try.prog 41 #[.string (s.extract p (p + a2 + n2)), .int .i64 ((d : Int) + 1)] x (fun e w' => Below x.heap.size x w' ∧ ∃ A5 c5, e = .returned (.tuple #[.agg #[.int .i64 t.f0, .bool t.f1, .int .i64 t.f2, .string t.f3, .slice A5 t.f4.length c5], .int .i64 0]) ∧ Kd.R k44 44 w' x.heap.size (fun _ => True) (.slice A5 t.f4.length c5) t.f4) from (HC.out x).mono (by
              rintro e w' ⟨h1, v4, rfl, h2⟩
              rw [hv] at h2 ⊢
              obtain ⟨A5, c5, ev5⟩ := Kd.R_slice h2
              subst ev5
              exact ⟨h1, A5, c5, rfl, h2⟩)))
            clear hk1 hv HC HK1
            obtain ⟨Ak, ck, ek⟩ := Kd.R_slice HK4.out
            subst ek
            go_wp2_with (first | (go_at_call 41; refine (HIH.out _).mono ?_; rintro e w5 ⟨hb5, A5, c5, rfl, hR5⟩; have BT5 := Aside0.mk (blk_alloc (blk_below BT4.out hb5) (.cells #[.int .i64 t.f0, .bool t.f1, .int .i64 t.f2, .string t.f3, .slice A5 t.f4.length c5] 44 (0, 0))); have BR5 := Aside0.mk (blk_alloc (blk_below BR4.out hb5) (.cells #[.int .i64 t.f0, .bool t.f1, .int .i64 t.f2, .string t.f3, .slice A5 t.f4.length c5] 44 (0, 0))); have HB5 := Aside0.mk (below_alloc (below_step HB4.out hb5) (.cells #[.int .i64 t.f0, .bool t.f1, .int .i64 t.f2, .string t.f3, .slice A5 t.f4.length c5] 44 (0, 0))); have HK5 := Aside0.mk (Kd.R_alloc (Kd.R_below HK4.out hb5) (.cells #[.int .i64 t.f0, .bool t.f1, .int .i64 t.f2, .string t.f3, .slice A5 t.f4.length c5] 44 (0, 0))); have HR5 := Aside0.mk (Kd.R_alloc (child_own hR5 HK4.out BT4.out BR4.out HB4.out.size) (.cells #[.int .i64 t.f0, .bool t.f1, .int .i64 t.f2, .string t.f3, .slice A5 t.f4.length c5] 44 (0, 0))); have hT54 : (w5.alloc (.cells #[.int .i64 t.f0, .bool t.f1, .int .i64 t.f2, .string t.f3, .slice A5 t.f4.length c5] 44 (0, 0))).cell? ⟨gT, 4, none⟩ = some (.slice Ak acc.length ck) := (blk_cell BT5.out 4).trans rfl; clear hb5 hR5) | (at_builtin; refine Kd.R_append k44 (w0 := w) w.heap.size rfl (.tmp 100) (.tmp 102) 42 44 (.agg #[(.int .i64 0), (.bool false), (.int .i64 0), (.string ⟨#[]⟩), (.slice none 0 0)]) 64 rfl Try.underlying42 info44 rfl (by decide) (by omega) (.slice Ak acc.length ck) acc t [.int .i64 t.f0, .bool t.f1, .int .i64 t.f2, .string t.f3, .slice A5 t.f4.length c5] (fun k_ => k_ ≠ gT ∧ k_ ≠ gR) (fun k_ => (k_ ≠ gT ∧ k_ ≠ gR) ∧ some k_ ≠ (Value.slice Ak acc.length ck).ownBlock) rfl ?aX ?aP (fun _ hk => hk) ?aF ?aO ?aB ?aS ?aL ?_; (case aX => exact congrArg (fun q => Value.slice (some ⟨q, 0, none⟩) 1 1) (by simp)); (case aP => exact k44_mkM _ _ _ t HR5.out); (case aF => exact (fun k_ hk => ⟨fun he => absurd (blk_lt BT5.out) (by omega), fun he => absurd (blk_lt BR5.out) (by omega)⟩)); (case aO => exact HK5.out); (case aB => exact HB5.out); (case aS => exact HB5.out.size); (case aL => omega); intro v6 w6 ho6 hb6 hg6 hat6; obtain ⟨A6, c6, e6⟩ := Kd.R_slice ho6; subst e6; have BT6 := Aside0.mk (blk_grown BT5.out hg6 (Kd.R_away HK5.out (fun _ hk => hk.1))); have BR6 := Aside0.mk (blk_grown BR5.out hg6 (Kd.R_away HK5.out (fun _ hk => hk.2))); have HB6 := Aside0.mk hb6; have HK6 := Aside0.mk ho6; clear ho6 hb6 hg6 hat6; have hT64 : w6.cell? ⟨gT, 4, none⟩ = some (.slice Ak acc.length ck) := (blk_cell BT6.out 4).trans rfl; have fT64 := blk_frozen BT6.out 4))
            go_roundw
            case measure => simp [intOf]; omega
            case rel => exact ⟨p + a2 + n2, acc ++ [t], _, m, by go_num, by omega, by omega, by rw [List.length_append]; simp; omega, ⟨HE.out⟩, ⟨blk_put BT6.out 4 _ rfl⟩, ⟨blk_far BR6.out hne _⟩, ⟨by have hh := Kd.R_far (p := ⟨gT, 4, none⟩) HK6.out (fun _ hk => hk.1) (.slice A6 (acc.length + 1) c6); rw [List.length_append] at hh; exact hh⟩, ⟨below_set HB6.out hge⟩⟩
  · have hV := HV.out
    rw [if_neg hcb] at hV
    have HVV := Aside0.mk hV
    clear hV
    have h32 : ((z : Int) / 32 % 2 == 1) = false := by rw [beq_eq_false_iff_ne]; omega
    go_region
    obtain ⟨o, ho⟩ : ∃ o : Obj, o = .cells #[.int .i64 ((z : Int) / 64), .bool false, .int .i64 ((z : Int) % 32), .string (⟨#[]⟩ : ByteArray), .slice none 0 0] 44 (0, 0) := ⟨_, rfl⟩
    rw [← ho]
    have BT0 : (w1.alloc o).drew.heap[w1.heap.size]? = some o := heap_alloc_new w1 o
    have BR0 : (w1.alloc o).drew.heap[gR]? = _ := blk_below BK1.out (below_alloc (Below.refl _ w1) o).drew
    have HB0 : Below w.heap.size w (w1.alloc o).drew := (below_alloc HB1.out o).drew
    have hne : gR ≠ w1.heap.size := Nat.ne_of_lt (blk_lt BK1.out)
    have hge : w.heap.size ≤ w1.heap.size := HB1.out.size
    clear BK1 HB1 HH h32 hbyte HV
    generalize (w1.alloc o).drew = w3 at *
    generalize w1.heap.size = gT at *
    subst ho
    have BT := Aside0.mk BT0
    have BR := Aside0.mk BR0
    have HB := Aside0.mk HB0
    have hgR : w.heap.size ≤ gR := Nat.le_of_eq HG.out.symm
    clear BT0 BR0 HB0 w1 w2 HG
    have hT0 : w3.cell? ⟨gT, 0, none⟩ = some (.int .i64 ((z : Int) / 64)) := (blk_cell BT.out 0).trans rfl
    have hT1 : w3.cell? ⟨gT, 1, none⟩ = some (.bool false) := (blk_cell BT.out 1).trans rfl
    have hT2 : w3.cell? ⟨gT, 2, none⟩ = some (.int .i64 ((z : Int) % 32)) := (blk_cell BT.out 2).trans rfl
    have hT3 : w3.cell? ⟨gT, 3, none⟩ = some (.string (⟨#[]⟩ : ByteArray)) := (blk_cell BT.out 3).trans rfl
    have hT4 : w3.cell? ⟨gT, 4, none⟩ = some (.slice none 0 0) := (blk_cell BT.out 4).trans rfl
    have fT3 := blk_frozen BT.out 3
    have hR0 : w3.cell? ⟨gR, 0, none⟩ = some (.int .i64 0) := (blk_cell BR.out 0).trans rfl
    have hR1 : w3.cell? ⟨gR, 1, none⟩ = some (.bool false) := (blk_cell BR.out 1).trans rfl
    have hR2 : w3.cell? ⟨gR, 2, none⟩ = some (.int .i64 0) := (blk_cell BR.out 2).trans rfl
    have hR3 : w3.cell? ⟨gR, 3, none⟩ = some (.string (⟨#[]⟩ : ByteArray)) := (blk_cell BR.out 3).trans rfl
    have hR4 : w3.cell? ⟨gR, 4, none⟩ = some (.slice none 0 0) := (blk_cell BR.out 4).trans rfl
    have fR0 := blk_frozen BR.out 0
    have fR1 := blk_frozen BR.out 1
    have fR2 := blk_frozen BR.out 2
    have fR3 := blk_frozen BR.out 3
    have fR4 := blk_frozen BR.out 4
    have hne2 := hne.symm
    have ha2 : (a : Int) ≤ (s.size : Int) := by omega
    go_wp2_with fail
    refine ref_end (put5 (blk_far BR.out hne _)) rfl rfl ?_
    rw [HVV.out]
    exact ⟨by repeat (with_reducible first | exact HB.out | refine below_set ?_ hgR | refine below_set ?_ hge), _, rfl, Kd.R_nil _ _ _ _ _⟩
theorem refvalue_walk : ∀ (j d : Nat), d + j = 16 → 1 ≤ d → ∀ (s : ByteArray) (w : World), s.size ≤ 20000 → Calls Try.prog 41 #[.string s, .int .i64 (d : Int)] w (fun e w' => RPost (vr (valL (j + 1) s)) w e w') := by
  intro j
  induction j with
  | zero => intro d hd h1; exact refvalue_level 0 d hd h1 (fun h => absurd h (by decide))
  | succ j ih => intro d hd h1; exact refvalue_level (j + 1) d hd h1 (fun _ => ih (d + 1) (by omega) (by omega))
end Go.Proofs.Ytghkgclbfjoilaa.Dec
