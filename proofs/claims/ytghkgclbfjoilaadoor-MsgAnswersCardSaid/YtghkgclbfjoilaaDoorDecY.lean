/- ber.Decode at this program: the walk, function 29. -/
import Derived.Test.YtghkgclbfjoilaaDoorDecX
import Derived.Test.YtghkgclbfjoilaaDoorDecC
set_option linter.unusedVariables false
set_option linter.unusedSimpArgs false
namespace Go.Proofs.YtghkgclbfjoilaaDoor.Dec
open Go.RowKit Go.Proofs.YtghkgclbfjoilaaDoorW.PrintWords Go.Proofs.YtghkgclbfjoilaaDoorW.PrintLast Go.Proofs.YtghkgclbfjoilaaDoorW.PrintMore Go.Proofs.YtghkgclbfjoilaaDoor.Pl Go.Proofs.YtghkgclbfjoilaaDoor.R Go.Proofs.YtghkgclbfjoilaaDoor.PureR

def decG (s : ByteArray) (n c : Nat) : S44 × Nat × Nat :=
  if c ≠ 0 then (z44, 0, c) else if s.size < n then (z44, 0, 3) else match valL 16 (s.extract 0 n) with
    | .inl c => (z44, 0, c)
    | .inr t => (t, n, 0)
def decF (s : ByteArray) : S44 × Nat × Nat := decG s (PureR.totL (L s)).1 (PureR.totL (L s)).2
def DPost (r : S44 × Nat × Nat) (w : World) (e : Ending) (w' : World) : Prop := Below w.heap.size w w' ∧ ∃ v4, e = .returned (.tuple #[.agg #[.int .i64 r.1.f0, .bool r.1.f1, .int .i64 r.1.f2, .string r.1.f3, v4], .int .i64 (r.2.1 : Int), .int .i64 (r.2.2 : Int)]) ∧ Kd.R k44 44 w' w.heap.size (fun _ => True) v4 r.1.f4
theorem length_calls (s : ByteArray) (hs : s.size ≤ 1000000) (w : World) : Calls Tryd.prog 45 #[.string s] w fun e w' => e = .returned (.tuple #[.int .i64 ((PureR.totL (L s)).1 : Nat), .int .i64 ((PureR.totL (L s)).2 : Nat)]) ∧ Below w.heap.size w w' := by
  obtain ⟨k, hk⟩ := ev_out (PureR.length_ev s (by omega))
  refine (ber_Length.calls k s _ _ w hk).mono ?_
  rintro e w1 ⟨rfl, h⟩
  exact ⟨rfl, h.below⟩

theorem far5b {W : World} {g b : Nat} {cs : Array Value} {t : TypeId} (h : W.heap[b]? = some (.cells cs t (0, 0))) (hne : g ≠ b) (u0 u1 u2 u3 u4 : Value) :
    (((((W.setCell ⟨g, 0, none⟩ u0).setCell ⟨g, 1, none⟩ u1).setCell ⟨g, 2, none⟩ u2).setCell ⟨g, 3, none⟩ u3).setCell ⟨g, 4, none⟩ u4).heap[b]? = some (.cells cs t (0, 0)) :=
  blk_far (blk_far (blk_far (blk_far (blk_far h hne.symm _) hne.symm _) hne.symm _) hne.symm _) hne.symm _
theorem leaves_congr {P : Program} {fn : Func} {tm tm' : Array Value} {R : Ending → World → Prop} (h : results fn tm = results fn tm') : ∀ (ds : List Deferred) (u : FrameMode) (w : World), Leaves P fn tm R ds u w → Leaves P fn tm' R ds u w := by
  intro ds
  induction ds with
  | nil =>
    intro u w hl
    cases u with
    | run => exact hl
    | returning => unfold Leaves at hl ⊢; rw [← h]; exact hl
    | panicking ch => exact hl
  | cons d ds ih =>
    intro u w hl
    unfold Leaves at hl ⊢
    obtain ⟨h1, fv, cap, f, args, h2, h3, h4⟩ := hl
    refine ⟨h1, fv, cap, f, args, h2, h3, h4.mono ?_⟩
    intro e u' w' hh
    cases e with
    | returned v => exact ih _ _ hh
    | panicked ch => exact ih _ _ hh
    | outgrown => exact hh
theorem dec_put {R : Ending → World → Prop} {K : Act → World → Prop} {N : Nat} {v : Value} (hN : 4 < N) (c : List PanicEntry) (a : Act) (w : World) (h : Exit.then K (bodyPostD Tryd.prog Tryd.f23 R) (.panic c) (a.put (some N) v) w) :
    Exit.then K (bodyPostD Tryd.prog Tryd.f23 R) (.panic c) a w := by
  have h' : Leaves Tryd.prog Tryd.f23 (a.tmps.setIfInBounds N v) R a.defers (.panicking c) w := h
  have hr : Tryd.f23.results = #[.cell 2 44, .cell 3 3, .cell 4 33] := rfl
  have e : ∀ i, i ≤ 4 → (a.tmps.setIfInBounds N v)[i]?.getD undef = a.tmps[i]?.getD undef := by
    intro i hi
    rw [Array.getElem?_setIfInBounds_ne (by omega)]
  refine leaves_congr ?_ _ _ _ h'
  simp [results, hr, e]
theorem dec_results {tm : Array Value} {W : World} {gT gN gE : Nat} {t0 t1 t2 t3 t4 : Value} {n x : Int}
    (hT : W.heap[gT]? = some (.cells #[t0, t1, t2, t3, t4] 44 (0, 0))) (hN : W.heap[gN]? = some (.cells #[.int .i64 n] 3 (0, 0))) (hE : W.heap[gE]? = some (.cells #[.int .i64 x] 33 (0, 0)))
    (p2 : tm[2]?.getD undef = .pointer (some ⟨gT, 0, none⟩)) (p3 : tm[3]?.getD undef = .pointer (some ⟨gN, 0, none⟩)) (p4 : tm[4]?.getD undef = .pointer (some ⟨gE, 0, none⟩)) :
    (results Tryd.f23 tm).run Tryd.prog W = .ok (.tuple #[.agg #[t0, t1, t2, t3, t4], .int .i64 n, .int .i64 x]) W := by
  have hT0 : W.cell? ⟨gT, 0, none⟩ = some t0 := (blk_cell hT 0).trans rfl
  have hT1 : W.cell? ⟨gT, 1, none⟩ = some t1 := (blk_cell hT 1).trans rfl
  have hT2 : W.cell? ⟨gT, 2, none⟩ = some t2 := (blk_cell hT 2).trans rfl
  have hT3 : W.cell? ⟨gT, 3, none⟩ = some t3 := (blk_cell hT 3).trans rfl
  have hT4 : W.cell? ⟨gT, 4, none⟩ = some t4 := (blk_cell hT 4).trans rfl
  have hN0 : W.cell? ⟨gN, 0, none⟩ = some (.int .i64 n) := (blk_cell hN 0).trans rfl
  have hE0 : W.cell? ⟨gE, 0, none⟩ = some (.int .i64 x) := (blk_cell hE 0).trans rfl
  have hr : Tryd.f23.results = #[.cell 2 44, .cell 3 3, .cell 4 33] := rfl
  simp [results, hr, p2, p3, p4, asAddr, go_sem, hT0, hT1, hT2, hT3, hT4, hN0, hE0]
theorem dec_leaves {R : Ending → World → Prop} {tm : Array Value} {W : World} {gT gN gE : Nat} {t0 t1 t2 t3 t4 : Value} {n x : Int}
    (hT : W.heap[gT]? = some (.cells #[t0, t1, t2, t3, t4] 44 (0, 0))) (hN : W.heap[gN]? = some (.cells #[.int .i64 n] 3 (0, 0))) (hE : W.heap[gE]? = some (.cells #[.int .i64 x] 33 (0, 0)))
    (p2 : tm[2]?.getD undef = .pointer (some ⟨gT, 0, none⟩)) (p3 : tm[3]?.getD undef = .pointer (some ⟨gN, 0, none⟩)) (p4 : tm[4]?.getD undef = .pointer (some ⟨gE, 0, none⟩))
    (h : R (.returned (.tuple #[.agg #[t0, t1, t2, t3, t4], .int .i64 n, .int .i64 x])) W) : Leaves Tryd.prog Tryd.f23 tm R [] .returning W :=
  ⟨_, dec_results hT hN hE p2 p3 p4, h⟩
theorem dec_end {R : Ending → World → Prop} {tm : Array Value} {W : World} {gT gN gE : Nat} {t0 t1 t2 t3 t4 : Value} {n x : Int}
    (hT : W.heap[gT]? = some (.cells #[t0, t1, t2, t3, t4] 44 (0, 0))) (hN : W.heap[gN]? = some (.cells #[.int .i64 n] 3 (0, 0))) (hE : W.heap[gE]? = some (.cells #[.int .i64 x] 33 (0, 0)))
    (p2 : tm[2]?.getD undef = .pointer (some ⟨gT, 0, none⟩)) (p3 : tm[3]?.getD undef = .pointer (some ⟨gN, 0, none⟩)) (p4 : tm[4]?.getD undef = .pointer (some ⟨gE, 0, none⟩))
    (h : R (.returned (.tuple #[.agg #[t0, t1, t2, t3, t4], .int .i64 n, .int .i64 x])) W) : bodyPostD Tryd.prog Tryd.f23 R .ret { tmps := tm, defers := [] } W :=
  dec_leaves hT hN hE p2 p3 p4 h

set_option maxHeartbeats 4000000 in
set_option maxRecDepth 100000 in
theorem decode_walk (s : ByteArray) (hs : s.size ≤ 20000) (w : World) : Calls Tryd.prog 23 #[.string s] w (fun e w' => DPost (decF s) w e w') := by
  have HH := Aside0.mk (length_calls s (by omega))
  unfold decF
  generalize (PureR.totL (L s)).1 = n at *
  generalize (PureR.totL (L s)).2 = c at *
  obtain ⟨V, hV⟩ : ∃ V, V = decG s n c := ⟨_, rfl⟩
  rw [← hV]
  have HV := Aside0.mk hV
  clear hV
  have hu44 := Tryd.underlying44
  have hmf : ∀ (fn : Fn) (first cap : Array Value) (w : World), (Instr.makeFunc fn first cap).run Tryd.prog w = .ok (.func fn first cap) w := fun _ _ _ _ => rfl
  go_enter_defers Tryd.func23, Tryd.ntmps23
  go_upto_region 2 with (first | ((with_reducible refine gate_dst (N := 2) rfl ?_); refine box_event ?hg (N := 2) ?hd (cs := #[.int .i64 0, .bool false, .int .i64 0, .string (⟨#[]⟩ : ByteArray), .slice none 0 0]) (t := 44) ?hr ?_; (case hd => rfl); (case hg => rfl); (case hr => first | (go_simp; done) | (go_simp; rfl)); intro gT hg1 w2 hbox hb2; have BT1 := Aside0.mk hbox; have HB1 := Aside0.mk hb2; have GT := Aside0.mk (Nat.le_of_eq hg1.symm); clear hbox hb2 hg1) | ((with_reducible refine gate_dst (N := 3) rfl ?_); refine box_event ?hg (N := 3) ?hd (cs := #[.int .i64 0]) (t := 3) ?hr ?_; (case hd => rfl); (case hg => rfl); (case hr => first | (go_simp; done) | (go_simp; rfl)); intro gN hg1 w3 hbox hb2; have hTN := (hg1 ▸ Nat.ne_of_lt (blk_lt BT1.out) : gT ≠ gN); have GN := Aside0.mk (hg1 ▸ HB1.out.size : w.heap.size ≤ gN); have BT2 := Aside0.mk (blk_below BT1.out hb2); have BN2 := Aside0.mk hbox; have HB2 := Aside0.mk (below_step HB1.out hb2); clear hbox hb2 hg1 BT1 HB1) | ((with_reducible refine gate_dst (N := 4) rfl ?_); refine box_event ?hg (N := 4) ?hd (cs := #[.int .i64 0]) (t := 33) ?hr ?_; (case hd => rfl); (case hg => rfl); (case hr => first | (go_simp; done) | (go_simp; rfl)); intro gE hg1 w4 hbox hb2; have hTE := (hg1 ▸ Nat.ne_of_lt (blk_lt BT2.out) : gT ≠ gE); have hNE := (hg1 ▸ Nat.ne_of_lt (blk_lt BN2.out) : gN ≠ gE); have GE := Aside0.mk (hg1 ▸ HB2.out.size : w.heap.size ≤ gE); have BT3 := Aside0.mk (blk_below BT2.out hb2); have BN3 := Aside0.mk (blk_below BN2.out hb2); have BE3 := Aside0.mk hbox; have HB3 := Aside0.mk (below_step HB2.out hb2); clear hbox hb2 hg1 BT2 BN2 HB2) | (go_at_call 45; refine (HH.out _).mono ?_; rintro e w5 ⟨rfl, hbb⟩; have BT := Aside0.mk (blk_below BT3.out hbb); have BN := Aside0.mk (blk_below BN3.out hbb); have BE := Aside0.mk (blk_below BE3.out hbb); have HB := Aside0.mk (below_step HB3.out hbb); clear BT3 BN3 BE3 HB3 hbb; have hT0 : w5.cell? ⟨gT, 0, none⟩ = some (.int .i64 0) := (blk_cell BT.out 0).trans rfl; have hT1 : w5.cell? ⟨gT, 1, none⟩ = some (.bool false) := (blk_cell BT.out 1).trans rfl; have hT2 : w5.cell? ⟨gT, 2, none⟩ = some (.int .i64 0) := (blk_cell BT.out 2).trans rfl; have hT3 : w5.cell? ⟨gT, 3, none⟩ = some (.string (⟨#[]⟩ : ByteArray)) := (blk_cell BT.out 3).trans rfl; have hT4 : w5.cell? ⟨gT, 4, none⟩ = some (.slice none 0 0) := (blk_cell BT.out 4).trans rfl; have hN0 : w5.cell? ⟨gN, 0, none⟩ = some (.int .i64 0) := (blk_cell BN.out 0).trans rfl; have hE0 : w5.cell? ⟨gE, 0, none⟩ = some (.int .i64 0) := (blk_cell BE.out 0).trans rfl; have fT0 := blk_frozen BT.out 0; have fT1 := blk_frozen BT.out 1; have fT2 := blk_frozen BT.out 2; have fT3 := blk_frozen BT.out 3; have fT4 := blk_frozen BT.out 4; have fN0 := blk_frozen BN.out 0; have fE0 := blk_frozen BE.out 0; have hNT := hTN.symm; have hET := hTE.symm; have hEN := hNE.symm))
  have BT6 : ((w5.setCell ⟨gN, 0, none⟩ (.int .i64 (n : Int))).setCell ⟨gE, 0, none⟩ (.int .i64 (c : Int))).heap[gT]? = _ := blk_far (blk_far BT.out hTN _) hTE _
  have BN6 : ((w5.setCell ⟨gN, 0, none⟩ (.int .i64 (n : Int))).setCell ⟨gE, 0, none⟩ (.int .i64 (c : Int))).heap[gN]? = some (.cells #[.int .i64 (n : Int)] 3 (0, 0)) := blk_far (blk_put BN.out 0 _ rfl) hNE _
  have BE6 : ((w5.setCell ⟨gN, 0, none⟩ (.int .i64 (n : Int))).setCell ⟨gE, 0, none⟩ (.int .i64 (c : Int))).heap[gE]? = some (.cells #[.int .i64 (c : Int)] 33 (0, 0)) := blk_put (blk_far BE.out hEN _) 0 _ rfl
  have HB6 : Below w.heap.size w ((w5.setCell ⟨gN, 0, none⟩ (.int .i64 (n : Int))).setCell ⟨gE, 0, none⟩ (.int .i64 (c : Int))) := below_set (below_set HB.out GN.out) GE.out
  clear BT BN BE HB hT0 hT1 hT2 hT3 hT4 hN0 hE0 fT0 fT1 fT2 fT3 fT4 fN0 fE0
  generalize (w5.setCell ⟨gN, 0, none⟩ (.int .i64 (n : Int))).setCell ⟨gE, 0, none⟩ (.int .i64 (c : Int)) = w6 at *
  have BT := Aside0.mk BT6
  have BN := Aside0.mk BN6
  have BE := Aside0.mk BE6
  have HB := Aside0.mk HB6
  clear BT6 BN6 BE6 HB6 w5
  have hT0 : w6.cell? ⟨gT, 0, none⟩ = some (.int .i64 0) := (blk_cell BT.out 0).trans rfl
  have hT1 : w6.cell? ⟨gT, 1, none⟩ = some (.bool false) := (blk_cell BT.out 1).trans rfl
  have hT2 : w6.cell? ⟨gT, 2, none⟩ = some (.int .i64 0) := (blk_cell BT.out 2).trans rfl
  have hT3 : w6.cell? ⟨gT, 3, none⟩ = some (.string (⟨#[]⟩ : ByteArray)) := (blk_cell BT.out 3).trans rfl
  have hT4 : w6.cell? ⟨gT, 4, none⟩ = some (.slice none 0 0) := (blk_cell BT.out 4).trans rfl
  have hN0 : w6.cell? ⟨gN, 0, none⟩ = some (.int .i64 (n : Int)) := (blk_cell BN.out 0).trans rfl
  have hE0 : w6.cell? ⟨gE, 0, none⟩ = some (.int .i64 (c : Int)) := (blk_cell BE.out 0).trans rfl
  have fT0 := blk_frozen BT.out 0
  have fT1 := blk_frozen BT.out 1
  have fT2 := blk_frozen BT.out 2
  have fT3 := blk_frozen BT.out 3
  have fT4 := blk_frozen BT.out 4
  have fN0 := blk_frozen BN.out 0
  have fE0 := blk_frozen BE.out 0
  by_cases hc : c = 0
  · subst hc
    by_cases hlt : s.size < n
    · have h1 : decide ((s.size : Int) < (n : Int)) = true := decide_eq_true (by omega)
      go_wp2_with fail
      go_region
      go_wp2_with fail
      all_goals (
        refine dec_end (gT := gT) (gN := gN) (gE := gE) (t0 := .int .i64 0) (t1 := .bool false) (t2 := .int .i64 0) (t3 := .string (⟨#[]⟩ : ByteArray)) (t4 := .slice none 0 0) (n := 0) (x := 3) ?_ ?_ ?_ rfl rfl rfl ?_
        · refine blk_drew ?_
          exact blk_far (blk_far (put5 (blk_far BT.out hTE _)) hTN _) hTE _
        · refine blk_drew ?_
          exact blk_far (blk_put (far5b (blk_far BN.out hNE _) hTN _ _ _ _ _) 0 _ rfl) hNE _
        · refine blk_drew ?_
          exact blk_put (blk_far (far5b (blk_put BE.out 0 _ rfl) hTE _ _ _ _ _) hEN _) 0 _ rfl
        · have hVe : V = (z44, 0, 3) := by rw [HV.out, decG, if_neg (by decide), if_pos hlt]
          rw [hVe]
          refine ⟨?_, _, rfl, Kd.R_nil _ _ _ _ _⟩
          refine Below.drew ?_
          repeat (with_reducible first | exact HB.out | refine below_set ?_ GT.out | refine below_set ?_ GN.out | refine below_set ?_ GE.out))
    · have h1 : decide ((s.size : Int) < (n : Int)) = false := decide_eq_false (by omega)
      go_wp2_with fail
      have HC := Aside0.mk (fun W : World => (show Calls Tryd.prog 47 #[.string (s.extract 0 n), .int .i64 1] W (fun e w' => VPost (valL 16 (s.extract 0 n)) W e w') from value_walk 15 1 rfl (by decide) (s.extract 0 n) W (by rw [size_cut]; omega)))
      have hle2 : (n : Int) ≤ (s.size : Int) := by omega
      have BT7 : Aside0 (w6.drew.heap[gT]? = _) := BT
      have BN7 : Aside0 (w6.drew.heap[gN]? = _) := BN
      have BE7 : Aside0 (w6.drew.heap[gE]? = _) := BE
      have HB7 : Aside0 (Below w.heap.size w w6.drew) := ⟨HB.out.drew⟩
      clear BT BN BE HB hT0 hT1 hT2 hT3 hT4 hN0 hE0 fT0 fT1 fT2 fT3 fT4 fN0 fE0 HH h1
      have BT := BT7
      have BN := BN7
      have BE := BE7
      have HB := HB7
      clear BT7 BN7 BE7 HB7
      cases hv : valL 16 (s.extract 0 n) with
      | inl c1 =>
        have HIH := Aside0.mk (fun W : World => hv ▸ HC.out W)
        have hVe : V = (z44, 0, c1) := by rw [HV.out, decG, if_neg (by decide), if_neg hlt, hv]
        clear HC hv HV
        refine start_ (n := 8) (S := fun w' => w'.cell? ⟨gN, 0, none⟩ = some (.int .i64 (n : Int))) (ds := [7]) #[false, false, false, false, false, false, false, false] (by kernel_rfl) rfl rfl (((blk_cell BN.out 0).trans rfl)) (fun hHeld => ?_)
        refine pure_ (i := 0) (N := some 23) (v := ?_) (a' := ?_) #[true, false, false, false, false, false, false, false] rfl rfl (by kernel_rfl) (fun c a w h => dec_put (N := 23) (by decide) c a w h) (Or.inl ⟨by rfl, ?_⟩) ?_ ?_
        rotate_left
        · intro w'
          go_simp
          with_reducible rfl
        rotate_left
        · simp only [Act.put, List.setIfInBounds_toArray, List.set_cons_zero, List.set_cons_succ, i64_w, i32_w]
          rfl
        refine take_ (i := 1) (N := some 24) (v := ?_) (a' := ?_) #[true, true, false, false, false, false, false, false] rfl rfl (by kernel_rfl) (fun c a w h => dec_put (N := 24) (by decide) c a w h) (Or.inl ⟨by rfl, ?_⟩) hHeld ?_ ?_
        rotate_left
        · intro w' s0
          go_simp
          with_reducible rfl
        rotate_left
        · simp only [Act.put, List.setIfInBounds_toArray, List.set_cons_zero, List.set_cons_succ, i64_w, i32_w]
          rfl
        refine pure_ (i := 2) (N := some 25) (v := ?_) (a' := ?_) #[true, true, true, false, false, false, false, false] rfl rfl (by kernel_rfl) (fun c a w h => dec_put (N := 25) (by decide) c a w h) (Or.inl ⟨by rfl, ?_⟩) ?_ ?_
        rotate_left
        · intro w'
          go_simp
          with_reducible rfl
        rotate_left
        · simp only [Act.put, List.setIfInBounds_toArray, List.set_cons_zero, List.set_cons_succ, i64_w, i32_w]
          rfl
        refine take_ (i := 4) (N := some 27) (v := ?_) (a' := ?_) #[true, true, true, false, true, false, false, false] rfl rfl (by kernel_rfl) (fun c a w h => dec_put (N := 27) (by decide) c a w h) (Or.inl ⟨by rfl, ?_⟩) hHeld ?_ ?_
        rotate_left
        · intro w' s0
          go_simp
          with_reducible rfl
        rotate_left
        · simp only [Act.put, List.setIfInBounds_toArray, List.set_cons_zero, List.set_cons_succ, i64_w, i32_w]
          rfl
        refine one_ (i := 3) (N := some 26) #[true, true, true, true, true, false, false, false] rfl rfl (by kernel_rfl) (by decide) (fun K hK => ?_)
        refine panics_ Tryd.func47 (by kernel_rfl) rfl #[.string (s.extract 0 n), .int .i64 1] (by rfl) rfl rfl (by simp only [List.map_toArray, List.map_cons, List.map_nil]; first | done | rfl) ?_
        with_reducible refine (HIH.out _).mono ?_
        rintro e w8 ⟨hb8, he⟩
        have he2 : e = panics c1 := he
        refine ⟨_, he2, ?_⟩
        
        refine leaves_cons (f := 46) (args := #[.pointer (some ⟨gT, 0, none⟩), .pointer (some ⟨gN, 0, none⟩), .pointer (some ⟨gE, 0, none⟩)]) (by simp) (by simp [go_sem]) ?_
        refine (catch_panicking gT gN gE (c1 : Int) (n : Int) 0 [] w8 hTN hTE hNE (blk_below BT.out hb8) (blk_below BN.out hb8) (blk_below BE.out hb8)).mono ?_
        rintro e1 u1 w9 ⟨rfl, rfl, hT9, hN9, hE9, hb9⟩
        refine dec_leaves hT9 hN9 hE9 rfl rfl rfl ?_
        rw [hVe]
        exact ⟨(below_step HB.out hb8).trans (hb9 _ GT.out GN.out GE.out), _, rfl, Kd.R_nil _ _ _ _ _⟩
      | inr t =>
        have HIH := Aside0.mk (fun W : World => hv ▸ HC.out W)
        have hVe : V = (t, n, 0) := by rw [HV.out, decG, if_neg (by decide), if_neg hlt, hv]
        clear HC hv HV
        refine start_ (n := 8) (S := fun w' => w'.cell? ⟨gN, 0, none⟩ = some (.int .i64 (n : Int))) (ds := [7]) #[false, false, false, false, false, false, false, false] (by kernel_rfl) rfl rfl (((blk_cell BN.out 0).trans rfl)) (fun hHeld => ?_)
        refine pure_ (i := 0) (N := some 23) (v := ?_) (a' := ?_) #[true, false, false, false, false, false, false, false] rfl rfl (by kernel_rfl) (fun c a w h => dec_put (N := 23) (by decide) c a w h) (Or.inl ⟨by rfl, ?_⟩) ?_ ?_
        rotate_left
        · intro w'
          go_simp
          with_reducible rfl
        rotate_left
        · simp only [Act.put, List.setIfInBounds_toArray, List.set_cons_zero, List.set_cons_succ, i64_w, i32_w]
          rfl
        refine take_ (i := 1) (N := some 24) (v := ?_) (a' := ?_) #[true, true, false, false, false, false, false, false] rfl rfl (by kernel_rfl) (fun c a w h => dec_put (N := 24) (by decide) c a w h) (Or.inl ⟨by rfl, ?_⟩) hHeld ?_ ?_
        rotate_left
        · intro w' s0
          go_simp
          with_reducible rfl
        rotate_left
        · simp only [Act.put, List.setIfInBounds_toArray, List.set_cons_zero, List.set_cons_succ, i64_w, i32_w]
          rfl
        refine pure_ (i := 2) (N := some 25) (v := ?_) (a' := ?_) #[true, true, true, false, false, false, false, false] rfl rfl (by kernel_rfl) (fun c a w h => dec_put (N := 25) (by decide) c a w h) (Or.inl ⟨by rfl, ?_⟩) ?_ ?_
        rotate_left
        · intro w'
          go_simp
          with_reducible rfl
        rotate_left
        · simp only [Act.put, List.setIfInBounds_toArray, List.set_cons_zero, List.set_cons_succ, i64_w, i32_w]
          rfl
        refine take_ (i := 4) (N := some 27) (v := ?_) (a' := ?_) #[true, true, true, false, true, false, false, false] rfl rfl (by kernel_rfl) (fun c a w h => dec_put (N := 27) (by decide) c a w h) (Or.inl ⟨by rfl, ?_⟩) hHeld ?_ ?_
        rotate_left
        · intro w' s0
          go_simp
          with_reducible rfl
        rotate_left
        · simp only [Act.put, List.setIfInBounds_toArray, List.set_cons_zero, List.set_cons_succ, i64_w, i32_w]
          rfl
        refine one_ (i := 3) (N := some 26) #[true, true, true, true, true, false, false, false] rfl rfl (by kernel_rfl) (by decide) (fun K hK => ?_)
        refine goes_ Tryd.func47 (by kernel_rfl) rfl #[.string (s.extract 0 n), .int .i64 1] (by rfl) rfl rfl (by simp only [List.map_toArray, List.map_cons, List.map_nil]; first | done | rfl) ?_
        with_reducible refine (HIH.out _).mono ?_
        rintro e w8 ⟨hb8, v5, he5, hR5⟩
        obtain ⟨A5, c5, ev5⟩ := Kd.R_slice hR5
        subst ev5
        subst he5
        refine ⟨_, rfl, ?_⟩
        have BT8 := Aside0.mk (blk_below BT.out hb8)
        have BN8 := Aside0.mk (blk_below BN.out hb8)
        have BE8 := Aside0.mk (blk_below BE.out hb8)
        have HB8 := Aside0.mk (below_step HB.out hb8)
        have HR8 := Aside0.mk hR5
        clear hb8 hR5
        have hT0 : w8.cell? ⟨gT, 0, none⟩ = some (.int .i64 0) := (blk_cell BT8.out 0).trans rfl
        have hT1 : w8.cell? ⟨gT, 1, none⟩ = some (.bool false) := (blk_cell BT8.out 1).trans rfl
        have hT2 : w8.cell? ⟨gT, 2, none⟩ = some (.int .i64 0) := (blk_cell BT8.out 2).trans rfl
        have hT3 : w8.cell? ⟨gT, 3, none⟩ = some (.string (⟨#[]⟩ : ByteArray)) := (blk_cell BT8.out 3).trans rfl
        have hT4 : w8.cell? ⟨gT, 4, none⟩ = some (.slice none 0 0) := (blk_cell BT8.out 4).trans rfl
        have hN0 : w8.cell? ⟨gN, 0, none⟩ = some (.int .i64 (n : Int)) := (blk_cell BN8.out 0).trans rfl
        have hE0 : w8.cell? ⟨gE, 0, none⟩ = some (.int .i64 0) := (blk_cell BE8.out 0).trans rfl
        have fT0 := blk_frozen BT8.out 0
        have fT1 := blk_frozen BT8.out 1
        have fT2 := blk_frozen BT8.out 2
        have fT3 := blk_frozen BT8.out 3
        have fT4 := blk_frozen BT8.out 4
        have fN0 := blk_frozen BN8.out 0
        have fE0 := blk_frozen BE8.out 0
        refine hK.out _ _ (((blk_cell BN8.out 0).trans rfl)) (fun hHeld => ?_)
        clear hK K
        refine norm_ (a' := ?_) ?_ ?_
        rotate_left
        · show Act.put _ (some 26) _ = _
          simp only [Act.put, List.setIfInBounds_toArray, List.set_cons_zero, List.set_cons_succ, i64_w, i32_w]
          rfl
        refine one_ (i := 5) (N := none) #[true, true, true, true, true, true, false, false] rfl rfl (by kernel_rfl) (by decide) (fun K hK => ?_)
        refine skip_ (w1 := ?_) (by kernel_rfl) rfl ?_ ?_
        rotate_left
        · go_simp
          rfl
        refine hK.out _ _ (((blk_cell (far5b BN8.out hTN _ _ _ _ _) 0).trans rfl)) (fun hHeld => ?_)
        clear hK K
        refine one_ (i := 6) (N := none) #[true, true, true, true, true, true, true, false] rfl rfl (by kernel_rfl) (by decide) (fun K hK => ?_)
        refine skip_ (w1 := ?_) (by kernel_rfl) rfl ?_ ?_
        rotate_left
        · go_simp
          rfl
        refine hK.out _ _ (((blk_cell (blk_put (far5b BN8.out hTN _ _ _ _ _) 0 _ rfl) 0).trans rfl)) (fun hHeld => ?_)
        clear hK K
        refine last_ (i := 7) (N := none) #[true, true, true, true, true, true, true, true] rfl rfl (by kernel_rfl) (by decide) (fun K hK => ?_)
        have hq0 : True := trivial
        refine skip_ (w1 := ?w1) ?hw ?hN ?hr ?hk
        case hN => rfl
        case hw => kernel_rfl
        case hr =>
          go_simp
          rfl
        refine hK.out _ _ ?_
        clear hK K
        refine done_ (by kernel_rfl) ?_
        go_wp2_with fail
        have lT := blk_lt BT.out
        have lN := blk_lt BN.out
        have lE := blk_lt BE.out
        have h9 : Kd.R k44 44 w8 w.heap.size (fun k => (k ≠ gT ∧ k ≠ gN) ∧ k ≠ gE) (.slice A5 t.f4.length c5) t.f4 :=
          Kd.R_mono (Kd.R_lower (Kd.R_bound HR8.out) HB.out.size) (fun k hk => ⟨⟨by have := hk.2.1; omega, by have := hk.2.1; omega⟩, by have := hk.2.1; omega⟩)
        have h10 := Kd.R_far (p := ⟨gE, 0, none⟩) (Kd.R_far (p := ⟨gN, 0, none⟩) (far5 (u0 := .int .i64 t.f0) (u1 := .bool t.f1) (u2 := .int .i64 t.f2) (u3 := .string t.f3) (u4 := .slice A5 t.f4.length c5) h9 (fun k hk => hk.1.1)) (fun k hk => hk.1.2) (.int .i64 (n : Int))) (fun k hk => hk.2) (.int .i64 0)
        have HR9 := Aside0.mk h10
        have BT9 := Aside0.mk (blk_far (p := ⟨gE, 0, none⟩) (blk_far (p := ⟨gN, 0, none⟩) (put5 (u0 := .int .i64 t.f0) (u1 := .bool t.f1) (u2 := .int .i64 t.f2) (u3 := .string t.f3) (u4 := .slice A5 t.f4.length c5) BT8.out) hTN (.int .i64 (n : Int))) hTE (.int .i64 0))
        have BN9 := Aside0.mk (blk_far (p := ⟨gE, 0, none⟩) (blk_put (far5b BN8.out hTN (.int .i64 t.f0) (.bool t.f1) (.int .i64 t.f2) (.string t.f3) (.slice A5 t.f4.length c5)) 0 (.int .i64 (n : Int)) rfl) hNE (.int .i64 0))
        have BE9 := Aside0.mk (blk_put (blk_far (p := ⟨gN, 0, none⟩) (far5b BE8.out hTE (.int .i64 t.f0) (.bool t.f1) (.int .i64 t.f2) (.string t.f3) (.slice A5 t.f4.length c5)) hEN (.int .i64 (n : Int))) 0 (.int .i64 0) rfl)
        have HB9 := Aside0.mk (below_set (below_set (below_set (below_set (below_set (below_set (below_set (j := 0) (v := .int .i64 t.f0) HB8.out GT.out) (j := 1) (v := .bool t.f1) GT.out) (j := 2) (v := .int .i64 t.f2) GT.out) (j := 3) (v := .string t.f3) GT.out) (j := 4) (v := .slice A5 t.f4.length c5) GT.out) (j := 0) (v := .int .i64 (n : Int)) GN.out) (j := 0) (v := .int .i64 0) GE.out)
        clear h9 h10 hT0 hT1 hT2 hT3 hT4 hN0 hE0 fT0 fT1 fT2 fT3 fT4 fN0 fE0 BT8 BN8 BE8 HB8 HR8
        generalize ((((((w8.setCell { block := gT, off := 0 } (Value.int IntKind.i64 t.f0)).setCell { block := gT, off := 1 } (Value.bool t.f1)).setCell { block := gT, off := 2 } (Value.int IntKind.i64 t.f2)).setCell { block := gT, off := 3 } (Value.string t.f3)).setCell { block := gT, off := 4 } (Value.slice A5 t.f4.length c5)).setCell { block := gN, off := 0 } (Value.int IntKind.i64 ↑n)).setCell { block := gE, off := 0 } (Value.int IntKind.i64 0) = w9 at *
        refine leaves_cons (f := 46) (args := #[.pointer (some ⟨gT, 0, none⟩), .pointer (some ⟨gN, 0, none⟩), .pointer (some ⟨gE, 0, none⟩)]) (by simp) (by simp [go_sem]) ?_
        refine (catch_idle ⟨gT, 0, none⟩ ⟨gN, 0, none⟩ ⟨gE, 0, none⟩ _).mono ?_
        rintro e1 u1 w10 ⟨rfl, rfl, rfl⟩
        refine dec_leaves BT9.out BN9.out BE9.out rfl rfl rfl ?_
        rw [hVe]
        exact ⟨HB9.out, _, rfl, Kd.R_mono HR9.out (fun _ _ => trivial)⟩
  · have hc1 : ((c : Int) == 0) = false := by simpa using hc
    have hc2 : ((c : Int) != 0) = true := by simpa using hc
    go_wp2_with fail
    go_region
    go_wp2_with fail
    all_goals (
      refine dec_end (gT := gT) (gN := gN) (gE := gE) (t0 := .int .i64 0) (t1 := .bool false) (t2 := .int .i64 0) (t3 := .string (⟨#[]⟩ : ByteArray)) (t4 := .slice none 0 0) (n := 0) (x := (c : Int)) ?_ ?_ ?_ rfl rfl rfl ?_
      · refine blk_drew ?_
        exact blk_far (blk_far (put5 BT.out) hTN _) hTE _
      · refine blk_drew ?_
        exact blk_far (blk_put (far5b BN.out hTN _ _ _ _ _) 0 _ rfl) hNE _
      · refine blk_drew ?_
        exact blk_put (blk_far (far5b BE.out hTE _ _ _ _ _) hEN _) 0 _ rfl
      · have hVe : V = (z44, 0, c) := by rw [HV.out, decG, if_pos hc]
        rw [hVe]
        refine ⟨?_, _, rfl, Kd.R_nil _ _ _ _ _⟩
        refine Below.drew ?_
        repeat (with_reducible first | exact HB.out | refine below_set ?_ GT.out | refine below_set ?_ GN.out | refine below_set ?_ GE.out))
end Go.Proofs.YtghkgclbfjoilaaDoor.Dec
