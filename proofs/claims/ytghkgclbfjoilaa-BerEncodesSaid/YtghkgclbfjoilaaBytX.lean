/- rollbookref25.Bytes at this program: the walk. -/
import Derived.Test.YtghkgclbfjoilaaBytW
set_option linter.unusedVariables false
set_option linter.unusedSimpArgs false
namespace Go.Proofs.Ytghkgclbfjoilaa.R
open Go.RowKit Go.Proofs.YtghkgclbfjoilaaW.PrintWords Go.Proofs.YtghkgclbfjoilaaW.PrintLast Go.Proofs.YtghkgclbfjoilaaW.PrintMore Go.Proofs.Ytghkgclbfjoilaa.Pl Go.Proofs.Ytghkgclbfjoilaa.Mark Go.Lib

theorem R_form {w : World} {base : Nat} {ok : Nat → Prop} {v : Value} {bs : List UInt8} {e : Nat} (h : Kd.R (Kd.int .u8) e w base ok v (upB bs)) (h0 : 0 < bs.length) : ∃ ad c, v = .slice (some ad) bs.length c ∧ ∀ j u, (byteCells bs)[j]? = some u → w.cell? (ad.add j) = some u := by
  obtain ⟨A, c, e0, _, hC⟩ := Kd.R_reads h
  rw [upB_len] at e0 hC
  obtain ⟨ad, rfl, hc⟩ := rowCells hC h0
  exact ⟨ad, c, e0, hc⟩
section
variable {P : Program} {ops : Array Oper} {rest : List Oper} {o : Oper} {a : Act} {Q : Exit → Act → World → Prop}
theorem conv_event {W : World} (hgd : o.guard = none) {N : Tmp} (hd : o.dst = some N) (base : Nat) (e : TypeId) (s : ByteArray)
    (hrun : (execOp a.eval o).run P W = .ok (.value (.slice (some ⟨W.heap.size, 0, none⟩) s.size (grownCap W s.size 0 e))) (bytesWorld W e s)) (hb : base ≤ W.heap.size) (hs : s.size ≤ maxLen)
    (h : ∀ v w1, OwnM w1 base e v (L s) → Below W.heap.size W w1 → wpList P ops Q rest (a.put o.dst v) w1) : wpList P ops Q (o :: rest) a W :=
  Kd.event_run hgd hrun (h _ _ (ownM_new base e s hb hs) ⟨rfl, rfl, rfl, by rw [bytesWorld_size]; omega, fun k hk => bytesWorld_at_old W e s k hk⟩)
end
theorem ownM_ne {w : World} {base gb : Nat} {e t : TypeId} {cs : Array Value} {fr : Nat × Nat} {v : Value} {bs : List UInt8} (h : OwnM w base e v bs) (hb : w.heap[gb]? = some (.cells cs t fr)) (hne : t ≠ e) : some gb ≠ v.ownBlock := by
  obtain ⟨g, cap, cur, m0, m1, rfl, _, hg, _⟩ := h
  intro h
  simp only [Value.ownBlock, Option.some.injEq] at h
  subst h
  rw [hb] at hg
  simp only [Option.some.injEq, Obj.cells.injEq] at hg
  exact hne hg.2.1
theorem ownM_lt {w : World} {base : Nat} {e : TypeId} {v : Value} {bs : List UInt8} (h : OwnM w base e v bs) : ∀ k, v.ownBlock = some k → base ≤ k := by
  obtain ⟨g, cap, cur, m0, m1, rfl, hb, _⟩ := h
  intro k hk
  simp only [Value.ownBlock, Option.some.injEq] at hk
  omega
theorem enc_lt2 (w : World) (o : Obj) : w.heap.size < (w.alloc o).heap.size := by show _ < (w.heap.push o).size; simp
theorem lit_own {w1 : World} {g hd : Nat} (hlt : hd < 256) (h : w1.heap[g]? = some (.cells #[.int .u8 (hd : Int)] 5 (0, 0))) : w1.ownsRow g 5 1 (.slice (some ⟨g, 0, none⟩) 1 1) [hd.toUInt8].length (byteCells [hd.toUInt8]) := by
  refine ⟨rfl, Or.inr ⟨g, 1, _, rfl, Nat.le_refl _, h, Nat.le_refl _, by decide, rfl, ?_⟩⟩
  simp [byteCells]
  omega
theorem mark_kept {w w1 : World} {base : Nat} {e : TypeId} {ad : Addr} {c : Nat} {bs : List UInt8} (h : OwnM w base e (.slice (some ad) bs.length c) bs) (hc : ∀ j u, (byteCells bs)[j]? = some u → w.cell? (ad.add j) = some u) (hb : Below w.heap.size w w1) : ∀ j u, (byteCells bs)[j]? = some u → w1.cell? (ad.add j) = some u := by
  intro j u hu
  have := hc j u hu
  rw [← this]
  exact hb.cell (World.block_lt_of_cell? w _ this)
theorem headN : ∀ c : Fin 4, ∀ t : Fin 31, headB c.1 false t.1 = 64 * c.1 + t.1 ∧ headB c.1 true t.1 = 64 * c.1 + t.1 + 32 := by decide +kernel

set_option maxHeartbeats 8000000 in
set_option maxRecDepth 100000 in
theorem bytes_walk : ∀ (k : Nat) (x : S44) (A4 : Option Addr) (c4 : Nat) (r : List UInt8) (w : World) (hr : Kd.C k44 w A4 x.f4.length x.f4) (hc : x.f4.length ≤ c4) (h : refF k x = some r),
    Calls Try.prog 37 #[.agg #[.int .i64 x.f0, .bool x.f1, .int .i64 x.f2, .string x.f3, .slice A4 x.f4.length c4]] w fun e w' => ∃ v, e = .returned v ∧ Kd.R (Kd.int .u8) 5 w' w.heap.size (fun _ => True) v (upB r) ∧ Below w.heap.size w w' := by
  intro k
  induction k with
  | zero => intro x A4 c4 r w hr hc h; cases h
  | succ k ih =>
  intro x A4 c4 r w hr hc h
  obtain ⟨x0, x1, x2, x3, x4⟩ := x
  simp only [refF] at h
  by_cases h1 : 0 ≤ x0 ∧ x0 ≤ 3 ∧ 0 ≤ x2 ∧ x2 ≤ 30 ∧ x4.length < 140737488355328 ∧ x3.size ≤ 1000000
  case neg => rw [if_neg h1] at h; cases h
  rw [if_pos h1] at h
  obtain ⟨c, rfl⟩ : ∃ c : Fin 4, x0 = (c.1 : Int) := ⟨⟨x0.toNat, by omega⟩, by simp; omega⟩
  obtain ⟨t, rfl⟩ : ∃ t : Fin 31, x2 = (t.1 : Int) := ⟨⟨x2.toNat, by omega⟩, by simp; omega⟩
  have hd1 := headN c t
  have hc4 := c.2
  have ht31 := t.2
  generalize c.1 = c at *
  generalize t.1 = t at *
  have H := Aside0.mk h
  have hxl := h1.2.2.2.2.1
  have hxs := h1.2.2.2.2.2
  clear h h1
  have HD := Aside0.mk hd1
  clear hd1
  have HR := Aside0.mk hr
  have HC := Aside0.mk hc
  clear hr hc
  have hu44 := Try.underlying44
  have HB := Aside0.mk (Below.refl w.heap.size w)
  have hcvb := fun W : World => Lib.run_convert_string_bytes (P := Try.prog) W 9 27 5 x3 Try.underlying9 Try.underlying27 Try.underlying5
  go_enter Try.func37, Try.ntmps37
  go_upto_if 17 with (first | ((with_reducible refine gate_dst (N := 1) rfl ?_); refine box_event ?hg (N := 1) ?hd (cs := #[.int .i64 (c : Int), .bool x1, .int .i64 (t : Int), .string x3, .slice A4 x4.length c4]) (t := 44) ?hr ?_; (case hd => rfl); (case hg => rfl); (case hr => first | (go_simp; done) | (go_simp; rfl)); intro gb hg w6 hbox hb; have n0_ := Aside0.mk (below_step (by repeat (first | (with_reducible first | exact HB.out | apply below_alloc | apply pw_below_drewN | apply below_drew1) | exact HB.out)) hb); have n1_ := Aside0.mk (hbox); have n2_ := Aside0.mk ((by rw [hg]; exact (below_size (by repeat (first | (with_reducible first | exact HB.out | apply below_alloc | apply pw_below_drewN | apply below_drew1) | exact HB.out))) : w.heap.size ≤ gb)); clear HB; have HB := n0_; have BK := n1_; have GE := n2_; clear n0_ n1_ n2_; clear hb hbox hg; have hcz7_3 : w6.cell? ⟨gb, 3, none⟩ = some (.string x3) := (blk_cell BK.out 3).trans rfl) | ((with_reducible refine gate_dst (N := 9) rfl ?_); refine conv_event ?hg (N := 9) ?hd w.heap.size 5 x3 ?hr HB.out.size (by unfold maxLen; omega) ?_; (case hd => rfl); (case hg => rfl); (case hr => first | (go_simp; done) | (go_simp; rfl)); intro vb w7 hM hb; have HM := Aside0.mk hM; have n0_ := Aside0.mk (below_step HB.out hb); have n1_ := Aside0.mk (blk_below BK.out hb); clear HB BK hM hb hcz7_3; have HB := n0_; have BK := n1_; clear n0_ n1_; have hcz7_0 : w7.cell? ⟨gb, 0, none⟩ = some (.int .i64 (c : Int)) := (blk_cell BK.out 0).trans rfl; have hcz7_1 : w7.cell? ⟨gb, 1, none⟩ = some (.bool x1) := (blk_cell BK.out 1).trans rfl; have hcz7_2 : w7.cell? ⟨gb, 2, none⟩ = some (.int .i64 (t : Int)) := (blk_cell BK.out 2).trans rfl))
  go_cut [3, 4] (fun v3 v4 wc => ∃ b : List UInt8, v4 = .int .i64 ((headB c x1 t : Nat) : Int) ∧ b.length < 16777216 ∧ Aside0 (OwnM wc w.heap.size 5 v3 b) ∧ Aside0 (refFin (headB c x1 t) b = r) ∧ Aside0 (Below w.heap.size w wc))
  case first =>
    cases x1
    · have e := H.out
      clear H
      rw [if_neg (by decide)] at e
      have HP := Aside0.mk (Option.some.inj e)
      clear e
      go_wp2_with fail
      go_meet
      case rel => exact ⟨L x3, by rw [HD.out.1]; go_num, by rw [L_len]; omega, HM, ⟨HP.out⟩, ⟨HB.out⟩⟩
    · have e := H.out
      clear H
      rw [if_pos rfl] at e
      obtain ⟨o, he1, he2⟩ := Option.bind_eq_some_iff.mp e
      by_cases ho : o.length < 16777216
      case neg => rw [if_neg ho] at he2; cases he2
      rw [if_pos ho] at he2
      have HL0 := Aside0.mk he1
      have HP := Aside0.mk (Option.some.inj he2)
      have HO := Aside0.mk ho
      clear e he1 he2 ho hcz7_0 hcz7_1 hcz7_2
      go_wp2_with fail
      go_loopw [3, 5] (fun v3 v5 wr => ∃ (j : Nat) (acc : List UInt8), v5 = .int .i64 (j : Int) ∧ j ≤ x4.length ∧ acc.length < 1020001 ∧ Aside0 (refLoop (refF k) (x4.drop j) acc = some o) ∧ Aside0 (OwnM wr w.heap.size 5 v3 acc) ∧ Aside0 (wr.heap[gb]? = some (.cells #[.int .i64 (c : Int), .bool true, .int .i64 (t : Int), .string x3, .slice A4 x4.length c4] 44 (0, 0))) ∧ Aside0 (Below w.heap.size w wr)) (fun _ i _ => x4.length - (RowKit.intOf i).toNat)
      case atStart => exact ⟨0, L x3, rfl, Nat.zero_le _, by rw [L_len]; omega, HL0, HM, BK, HB⟩
      case round =>
        clear HL0 HM BK HB
        obtain ⟨j, acc, rfl, hj, hacc, HL, HM, BK, HB⟩ := hrel
        have hcz4 : wr.cell? ⟨gb, 4, none⟩ = some (.slice A4 x4.length c4) := (blk_cell BK.out 4).trans rfl
        obtain ⟨gm, cm, em⟩ := HM.out.slice
        subst em
        by_cases hlt : j < x4.length
        · obtain ⟨y, hy, hyd⟩ : ∃ y, rd_T44 x4 (j : Int) = y ∧ x4.drop j = y :: x4.drop (j + 1) := ⟨_, rfl, by unfold rd_T44; simp only [Int.toNat_natCast]; rw [List.drop_eq_getElem_cons hlt, List.getD_eq_getElem?_getD, List.getElem?_eq_getElem hlt]; rfl⟩
          have hjd : decide ((j : Int) < (x4.length : Int)) = true := decide_eq_true (by omega)
          have e1 := HL.out
          rw [hyd] at e1
          simp only [refLoop] at e1
          by_cases hb2 : acc.length ≤ 20000
          · rw [if_pos hb2] at e1
            have hbd : decide ((acc.length : Int) ≤ 20000) = true := decide_eq_true (by omega)
            obtain ⟨s, hs, hrest⟩ := Option.bind_eq_some_iff.mp e1
            by_cases hs2 : 0 < s.length ∧ s.length < 1000000
            case neg => rw [if_neg hs2] at hrest; cases hrest
            rw [if_pos hs2] at hrest
            obtain ⟨ad, Aj, cj, e, hx0, hx1, hx2, hx3, hx4, hyl, hyC⟩ := at_T44 HR.out (j : Int) (by omega) (by simpa using hlt)
            rw [hy] at hx0 hx1 hx2 hx3 hx4 hyl hyC
            have HRy := Aside0.mk hyC
            have HCy := Aside0.mk hyl
            have HS := Aside0.mk hs
            have HL2 := Aside0.mk hrest
            have hs21 := hs2.1
            have hs22 := hs2.2
            clear e1 hs hrest hy hyd hyC hyl HL hs2
            cases e
            replace hx0 := (HB.out.cell (World.block_lt_of_cell? w _ hx0)).trans hx0
            replace hx1 := (HB.out.cell (World.block_lt_of_cell? w _ hx1)).trans hx1
            replace hx2 := (HB.out.cell (World.block_lt_of_cell? w _ hx2)).trans hx2
            replace hx3 := (HB.out.cell (World.block_lt_of_cell? w _ hx3)).trans hx3
            replace hx4 := (HB.out.cell (World.block_lt_of_cell? w _ hx4)).trans hx4
            simp only [Int.toNat_natCast] at hx0 hx1 hx2 hx3 hx4
            obtain ⟨i0, hi, hz0, hz1, hz2⟩ := info_parts info5
            go_wp2_with (first | (go_at_call 37; refine (ih y Aj cj s _ ?s1 HCy.out HS.out).mono ?_; (case s1 => exact Kd.C_below HRy.out HB.out); rintro e w1 ⟨v0, rfl, hR, hb⟩; obtain ⟨ads, cs, e0, hcs⟩ := R_form hR hs21; subst e0; have HCS := Aside0.mk hcs; have HM1 := Aside0.mk (HM.out.below hb); have BK1 := Aside0.mk (blk_below BK.out hb); have HB1 := Aside0.mk (below_step HB.out hb); clear hR hb hcs) | (at_builtin; refine wpList_append_mark rfl _ _ 27 rfl w.heap.size 5 i0 Try.underlying27 hi hz0 hz1 hz2 _ acc rfl HM1.out ads cs s rfl HCS.out (by omega) HB1.out.size ?_; intro v' w2 hM2 hg2; have HM2 := Aside0.mk hM2; have BK2 := Aside0.mk ((hg2.block gb (blk_lt BK1.out) (ownM_ne HM1.out BK1.out (by decide))).trans BK1.out); have HB2 := Aside0.mk (HB1.out.grown hg2 HB1.out.size (ownM_lt HM1.out)); clear hM2 hg2))
            go_roundw
            case measure => simp [RowKit.intOf]; omega
            case rel => exact ⟨j + 1, _, by first | rfl | (simp; done) | go_num, hlt, by rw [List.length_append]; omega, HL2, HM2, BK2, HB2⟩
          · rw [if_neg hb2] at e1
            have hbd : decide ((acc.length : Int) ≤ 20000) = false := decide_eq_false (by omega)
            obtain rfl := Option.some.inj e1
            clear e1 HL
            go_wp2_with fail
            go_meet
            case rel => exact ⟨acc, by rw [HD.out.2]; go_num, HO.out, HM, ⟨HP.out⟩, ⟨HB.out⟩⟩
        · have hjd : decide ((j : Int) < (x4.length : Int)) = false := decide_eq_false (by omega)
          have e1 := HL.out
          rw [List.drop_eq_nil_of_le (by omega)] at e1
          simp only [refLoop] at e1
          obtain rfl := Option.some.inj e1
          clear e1 HL
          go_wp2_with fail
          go_meet
          case rel => exact ⟨acc, by rw [HD.out.2]; go_num, HO.out, HM, ⟨HP.out⟩, ⟨HB.out⟩⟩
  case rest =>
    obtain ⟨b, rfl, hb, HMb, HF, HBc⟩ := hcut
    have hlt : headB (c : Int) x1 (t : Int) < 256 := by
      cases x1
      · rw [HD.out.1]; omega
      · rw [HD.out.2]; omega
    clear hcz7_0 hcz7_1 hcz7_2 hcvb HM BK HR HC H hu44 HD hc4 ht31 hxl hxs HB
    generalize headB (c : Int) x1 (t : Int) = hd at *
    obtain ⟨adm, cm, em, hcm⟩ := HMb.out.cells
    have HMC := Aside0.mk hcm
    clear hcm
    subst em
    obtain ⟨i0, hi, hz0, hz1, hz2⟩ := info_parts info5
    have H8 := Aside0.mk (refLength b.length hb)
    go_wp2_with (first | (go_at_call 48; go_loud (refine (rollbookref25_Length.calls _ _ _ H8.out).mono ?_; rintro e w1 ⟨v0, rfl, hR, hbb⟩; obtain ⟨ads, cs, e0, hcs⟩ := R_form hR (lenB_len _).2; subst e0; have HCS := Aside0.mk hcs; have hblk := (hbb.block wc.heap.size (enc_lt2 wc _)).trans (heap_alloc_new wc _); have HZ1 := Aside0.mk (lit_own hlt hblk); have HM1 := Aside0.mk (HMb.out.below ((below_alloc (Below.refl _ wc) _).trans (hbb.mono (Nat.le_of_lt (enc_lt2 wc _))))); have HB1 := Aside0.mk ((below_alloc (Below.refl _ wc) _).trans (hbb.mono (Nat.le_of_lt (enc_lt2 wc _)))); clear hR hcs hbb hblk)) | ((with_reducible refine gate_builtin (b := .append) (xs := #[.tmp 43, .tmp 46]) rfl ?_); at_builtin; refine wpList_append_z rfl _ _ 27 rfl wc.heap.size 5 i0 Try.underlying27 hi hz0 hz1 hz2 _ [hd.toUInt8] rfl HZ1.out ads cs (lenB b.length) rfl HCS.out (by have := (lenB_len b.length).1; simp; omega) HB1.out.size ?_; intro v2 w2 hZ2 hg2; have HZ2 := Aside0.mk hZ2; have HB2 := Aside0.mk (HB1.out.grown hg2 HB1.out.size (fun k hk => (HZ1.out.lt k hk).1)); clear hZ2 hg2) | ((with_reducible refine gate_builtin (b := .append) (xs := #[.tmp 48, .tmp 49]) rfl ?_); at_builtin; refine wpList_append_z rfl _ _ 27 rfl wc.heap.size 5 i0 Try.underlying27 hi hz0 hz1 hz2 v2 ([hd.toUInt8] ++ lenB b.length) rfl HZ2.out adm cm b rfl ?cells (by have := (lenB_len b.length).1; simp; omega) HB2.out.size ?_; (case cells => exact mark_kept HMb.out HMC.out HB2.out); intro v3 w3 hZ3 hg3; have HZ3 := Aside0.mk hZ3; have HB3 := Aside0.mk (HB2.out.grown hg3 HB2.out.size (fun k hk => (HZ2.out.lt k hk).1)); clear hZ3 hg3))
    go_ret
    refine ⟨_, rfl, ?_, below_step HBc.out HB3.out⟩
    have := Kd.R_lower (rOwn (ok := fun _ => True) HZ3.out (fun _ _ => trivial)) HBc.out.size
    rw [← HF.out]
    exact this
end Go.Proofs.Ytghkgclbfjoilaa.R
