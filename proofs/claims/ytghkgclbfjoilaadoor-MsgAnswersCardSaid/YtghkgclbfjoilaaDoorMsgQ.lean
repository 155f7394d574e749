/- Messages: Decode of the unbinding message. -/
import Derived.Test.YtghkgclbfjoilaaDoorMsgP
import Derived.Recover
import Derived.Defers
import Derived.Outline
set_option linter.unusedVariables false
set_option linter.unusedSimpArgs false
namespace Go.Proofs.YtghkgclbfjoilaaDoor.Msg
open Go.RowKit Go.Proofs.YtghkgclbfjoilaaDoorW.PrintWords Go.Proofs.YtghkgclbfjoilaaDoorW.PrintLast Go.Proofs.YtghkgclbfjoilaaDoorW.PrintMore Go.Proofs.YtghkgclbfjoilaaDoor.Pl Go.Proofs.YtghkgclbfjoilaaDoor.R Go.Proofs.YtghkgclbfjoilaaDoor.Dec

theorem kp_out {w a b : World} {g : Nat} (h1 : Kp [] w a) (h2 : Kp [g] a b) (hg : w.heap.size ≤ g) : Kp [] w b :=
  ⟨Nat.le_trans h1.1 h2.1, fun k hk _ => (h2.2 k (Nat.lt_of_lt_of_le hk h1.1) (by simp; omega)).trans (h1.2 k hk (by simp)), h2.3.1.trans h1.3.1, h2.3.2.trans h1.3.2⟩
theorem kp_row {w W : World} {g : Nat} {D : Array Value} (h : Kp [] w W) (hg : w.heap.size ≤ g) : Kp [] w (W.setRow g D) :=
  ⟨by simpa using h.1, fun k hk hs => (setRow_other W g k D (by omega)).trans (h.2 k hk hs), h.3⟩
theorem mdec_results {tm : Array Value} {W : World} {gm gE : Nat} {C : Array Value} {n : Int} (hC : C.size = 31)
    (hM : W.heap[gm]? = some (.cells C 30 (0, 0))) (hE : W.heap[gE]? = some (.cells #[.int .i64 n] 33 (0, 0)))
    (p2 : tm[2]?.getD undef = .pointer (some ⟨gm, 0, none⟩)) (p3 : tm[3]?.getD undef = .pointer (some ⟨gE, 0, none⟩)) :
    (results Tryd.f9 tm).run Tryd.prog W = .ok (.tuple #[.agg C, .int .i64 n]) W := by
  have hE0 : W.cell? ⟨gE, 0, none⟩ = some (.int .i64 n) := (blk_cell hE 0).trans rfl
  have hr : Tryd.f9.results = #[.cell 2 30, .cell 3 33] := rfl
  have hM2 := run_loadVar_row (P := Tryd.prog) W gm 30 30 C (0, 0) _ hM Tryd.underlying30 rfl (by rw [hC]; exact infoM)
  have hE2 : (loadVar 33 ⟨gE, 0, none⟩).run Tryd.prog W = .ok (.int .i64 n) W := by simp [go_sem, hE0]
  clear hE0 hE hM
  simp [results, hr, p2, p3, asAddr, hM2, hE2]
theorem mdec_leaves {R : Ending → World → Prop} {tm : Array Value} {W : World} {gm gE : Nat} {C : Array Value} {n : Int} (hC : C.size = 31)
    (hM : W.heap[gm]? = some (.cells C 30 (0, 0))) (hE : W.heap[gE]? = some (.cells #[.int .i64 n] 33 (0, 0)))
    (p2 : tm[2]?.getD undef = .pointer (some ⟨gm, 0, none⟩)) (p3 : tm[3]?.getD undef = .pointer (some ⟨gE, 0, none⟩))
    (h : R (.returned (.tuple #[.agg C, .int .i64 n])) W) : Leaves Tryd.prog Tryd.f9 tm R [] .returning W :=
  ⟨_, mdec_results hC hM hE p2 p3, h⟩

set_option maxHeartbeats 8000000 in
set_option maxRecDepth 100000 in
theorem decode_unbind (s : ByteArray) (hs : s.size ≤ 20000) (a : S44) (hd : decF s = (⟨0, true, 16, ⟨#[]⟩, [a, ⟨1, false, 2, ⟨#[]⟩, []⟩]⟩, s.size, 0))
    (ha : isB a 0 2 false = true) (hn : numOk a 0 2147483647) (w : World) :
    Calls Tryd.prog 9 #[.string s] w fun e w' => e = .returned (.tuple #[.agg (unb (numV a)), .int .i64 0]) ∧ Kp [] w w' := by
  have HC := Aside0.mk (fun W : World => (show Calls Tryd.prog 23 #[.string s] W (fun e w' => Below W.heap.size W w' ∧ ∃ A cc, e = .returned (.tuple #[.agg #[.int .i64 0, .bool true, .int .i64 16, .string (⟨#[]⟩ : ByteArray), .slice A 2 cc], .int .i64 (s.size : Int), .int .i64 0]) ∧ 2 ≤ cc ∧ Rw w' A [a, ⟨1, false, 2, ⟨#[]⟩, []⟩]) from by
    have h := decode_walk s hs W
    rw [hd] at h
    refine h.mono ?_
    rintro e w' ⟨hb, v4, he, hR⟩
    obtain ⟨A, cc, hv, hl, _, hrw⟩ := rw_of_R hR
    subst hv
    exact ⟨hb, A, cc, he, hl, hrw⟩))
  have HI := Aside0.mk (fun (v : Value) (W : World) => (show Calls Tryd.prog 24 #[.agg #[.int .i64 0, .bool true, .int .i64 16, .string (⟨#[]⟩ : ByteArray), v], .int .i64 0, .int .i64 16, .bool true] W (fun e w' => e = .returned (.bool true) ∧ Below W.heap.size W w') from is_calls ⟨0, true, 16, ⟨#[]⟩, []⟩ v 0 16 true W))
  have hn01 : 0 ≤ numV a ∧ numV a ≤ 2147483647 := ⟨hn.2.1, hn.2.2⟩
  have HN := Aside0.mk (fun (Z W : World) (g : Nat) (hr : IsRow Z W g [a, ⟨1, false, 2, ⟨#[]⟩, []⟩]) (ag : Agree Z W) => rnumber_yes Z g a [⟨1, false, 2, ⟨#[]⟩, []⟩] 2 0 2147483647 W hr ag ha hn)
  clear hd ha hn
  generalize numV a = n at *
  have HS := Aside0.mk (show (unb n).size = 31 from (unb_ok n).sz)
  have HRt := Aside0.mk (fun W : World => right_unbind (unb n) (unb_ok n) n rfl hn01.1 hn01.2 rfl (fun i h2 h3 => by unfold unb; rw [Array.getElem?_setIfInBounds_ne (by omega), Array.getElem?_setIfInBounds_ne (by omega)]) W)
  clear hn01
  have hu44 := Tryd.underlying44
  have hmf : ∀ (fn : Fn) (first cap : Array Value) (w : World), (Instr.makeFunc fn first cap).run Tryd.prog w = .ok (.func fn first cap) w := fun _ _ _ _ => rfl
  go_enter_defers Tryd.func9, Tryd.ntmps9
  go_upto_region 2 with (first | ((with_reducible refine gate_dst (N := 2) rfl ?_); refine box_event ?hg (N := 2) ?hd (cs := ZM) (t := 30) ?hr ?_; (case hd => rfl); (case hg => rfl); (case hr => first | (go_simp; done) | (go_simp; rfl)); intro gm hg1 w2 hbox hb2; have BM2 := Aside0.mk hbox; have HB2 := Aside0.mk hb2; have GM := Aside0.mk (Nat.le_of_eq hg1.symm : w.heap.size ≤ gm); clear hbox hb2 hg1) | ((with_reducible refine gate_dst (N := 3) rfl ?_); refine box_event ?hg (N := 3) ?hd (cs := #[.int .i64 0]) (t := 33) ?hr ?_; (case hd => rfl); (case hg => rfl); (case hr => first | (go_simp; done) | (go_simp; rfl)); intro gE hg1 w3 hbox hb2; have hME := (hg1 ▸ Nat.ne_of_lt (blk_lt BM2.out) : gm ≠ gE); have GE := Aside0.mk (hg1 ▸ HB2.out.size : w.heap.size ≤ gE); have BM3 := Aside0.mk (blk_below BM2.out hb2); have BE3 := Aside0.mk hbox; have HB3 := Aside0.mk (below_step HB2.out hb2); clear hbox hb2 hg1 BM2 HB2) | (go_at_call 23; refine (HC.out _).mono ?_; rintro e Z ⟨hbb, A, cc, rfl, hcc, hrw⟩; have BM4 := Aside0.mk (blk_below BM3.out hbb); have BE4 := Aside0.mk (blk_below BE3.out hbb); have HB4 := Aside0.mk (below_step HB3.out hbb); have HRW := Aside0.mk (And.intro hcc hrw); clear BM3 BE3 HB3 hbb hcc hrw) | ((with_reducible refine gate_dst (N := 4) rfl ?_); refine box_event ?hg (N := 4) ?hd (cs := #[.int .i64 0, .bool false, .int .i64 0, .string (⟨#[]⟩ : ByteArray), .slice none 0 0]) (t := 44) ?hr ?_; (case hd => rfl); (case hg => rfl); (case hr => first | (go_simp; done) | (go_simp; rfl)); intro gT hg_gT w5 hbox_gT hb_gT; have hgT0 : w5.cell? ⟨gT, 0, none⟩ = some (.int .i64 0) := (blk_cell hbox_gT 0).trans rfl; have hgT1 : w5.cell? ⟨gT, 1, none⟩ = some (.bool false) := (blk_cell hbox_gT 1).trans rfl; have hgT2 : w5.cell? ⟨gT, 2, none⟩ = some (.int .i64 0) := (blk_cell hbox_gT 2).trans rfl; have hgT3 : w5.cell? ⟨gT, 3, none⟩ = some (.string (⟨#[]⟩ : ByteArray)) := (blk_cell hbox_gT 3).trans rfl; have hgT4 : w5.cell? ⟨gT, 4, none⟩ = some (.slice none 0 0) := (blk_cell hbox_gT 4).trans rfl; have fgT0 := blk_frozen hbox_gT 0; have fgT1 := blk_frozen hbox_gT 1; have fgT2 := blk_frozen hbox_gT 2; have fgT3 := blk_frozen hbox_gT 3; have fgT4 := blk_frozen hbox_gT 4; have GT4 := Aside0.mk (Nat.le_of_eq hg_gT.symm : Z.heap.size ≤ gT); have lT := Aside0.mk (hg_gT ▸ And.intro (Nat.ne_of_lt (blk_lt BM4.out)) (Nat.ne_of_lt (blk_lt BE4.out)) : gm ≠ gT ∧ gE ≠ gT); have BM5 := Aside0.mk (blk_below BM4.out hb_gT); have BE5 := Aside0.mk (blk_below BE4.out hb_gT); have BT5 := Aside0.mk hbox_gT; have HZ5 := Aside0.mk hb_gT; clear hg_gT hbox_gT hb_gT))
  have hMT := lT.out.1
  have hET := lT.out.2
  have BM6 := Aside0.mk (far5b BM5.out hMT.symm (.int .i64 0) (.bool true) (.int .i64 16) (.string (⟨#[]⟩ : ByteArray)) (.slice A 2 cc))
  have BE6 := Aside0.mk (far5b BE5.out hET.symm (.int .i64 0) (.bool true) (.int .i64 16) (.string (⟨#[]⟩ : ByteArray)) (.slice A 2 cc))
  have BT6 := Aside0.mk (put5 (u0 := .int .i64 0) (u1 := .bool true) (u2 := .int .i64 16) (u3 := .string (⟨#[]⟩ : ByteArray)) (u4 := .slice A 2 cc) BT5.out)
  have HZ6 := Aside0.mk (below5 HZ5.out GT4.out (.int .i64 0) (.bool true) (.int .i64 16) (.string (⟨#[]⟩ : ByteArray)) (.slice A 2 cc))
  clear hgT0 hgT1 hgT2 hgT3 hgT4 fgT0 fgT1 fgT2 fgT3 fgT4 BM5 BE5 BT5 HZ5 lT BM4 BE4 HC
  generalize ((((w5.setCell ⟨gT, 0, none⟩ (.int .i64 0)).setCell ⟨gT, 1, none⟩ (.bool true)).setCell ⟨gT, 2, none⟩ (.int .i64 16)).setCell ⟨gT, 3, none⟩ (.string (⟨#[]⟩ : ByteArray))).setCell ⟨gT, 4, none⟩ (.slice A 2 cc) = w6 at *
  have AG6 := Aside0.mk (agree_below (Agree.refl Z) HZ6.out)
  have HB6 := Aside0.mk (below_step HB4.out HZ6.out)
  clear w5 HB4 HZ6
  have hT0 : w6.cell? ⟨gT, 0, none⟩ = some (.int .i64 0) := (blk_cell BT6.out 0).trans rfl
  have hT1 : w6.cell? ⟨gT, 1, none⟩ = some (.bool true) := (blk_cell BT6.out 1).trans rfl
  have hT2 : w6.cell? ⟨gT, 2, none⟩ = some (.int .i64 16) := (blk_cell BT6.out 2).trans rfl
  have hT3 : w6.cell? ⟨gT, 3, none⟩ = some (.string (⟨#[]⟩ : ByteArray)) := (blk_cell BT6.out 3).trans rfl
  have hT4 : w6.cell? ⟨gT, 4, none⟩ = some (.slice A 2 cc) := (blk_cell BT6.out 4).trans rfl
  have hee : ((s.size : Int) != (s.size : Int)) = false := by simp
  go_upto_region 7 with (first | (go_at_call 24; refine (HI.out _ _).mono ?_; rintro e w7 ⟨rfl, hbb⟩; have BM7 := Aside0.mk (blk_below BM6.out hbb); have BE7 := Aside0.mk (blk_below BE6.out hbb); have BT7 := Aside0.mk (blk_below BT6.out hbb); have HB7 := Aside0.mk (below_step HB6.out hbb); have AG7 := Aside0.mk (agree_below AG6.out hbb); have hT4b : w7.cell? ⟨gT, 4, none⟩ = some (.slice A 2 cc) := (blk_cell BT7.out 4).trans rfl; clear hbb BM6 BE6 BT6 HB6 AG6) | ((with_reducible refine gate_dst (N := 34) rfl ?_); refine box_event ?hg (N := 34) ?hd (cs := #[.slice A 2 cc]) (t := 70) ?hr ?_; (case hd => rfl); (case hg => rfl); (case hr => first | (go_simp; done) | (go_simp; rfl)); intro gR hg1 w8 hbox hb2; have lR := Aside0.mk (hg1 ▸ And.intro (Nat.ne_of_lt (blk_lt BM7.out)) (Nat.ne_of_lt (blk_lt BE7.out)) : gm ≠ gR ∧ gE ≠ gR); have GR := Aside0.mk (hg1 ▸ HB7.out.size : w.heap.size ≤ gR); have BM8 := Aside0.mk (blk_below BM7.out hb2); have BE8 := Aside0.mk (blk_below BE7.out hb2); have IR8 := Aside0.mk (⟨A, cc, hbox, HRW.out.1, (show (2 : Nat) ≤ 9223372036854775807 by decide), HRW.out.2⟩ : IsRow Z w8 gR [a, ⟨1, false, 2, ⟨#[]⟩, []⟩]); have HB8 := Aside0.mk (below_step HB7.out hb2); have AG8 := Aside0.mk (agree_below AG7.out hb2); clear hbox hb2 hg1 BM7 BE7 BT7 HB7 AG7) | (go_at_call 26; refine (HN.out Z _ _ IR8.out AG8.out).mono ?_; rintro e w9 ⟨rfl, hrow, hkp⟩; have BM9 := Aside0.mk (kp_blk BM8.out hkp lR.out.1); have BE9 := Aside0.mk (kp_blk BE8.out hkp lR.out.2); have IR9 := Aside0.mk hrow; have AG9 := Aside0.mk (row_agree IR8.out AG8.out hkp); have HK9 := Aside0.mk (kp_out (Kp.below HB8.out) hkp GR.out); have hM0 : w9.cell? ⟨gm, 0, none⟩ = some (.int .i64 0) := (blk_cell BM9.out 0).trans rfl; have fM0 := blk_frozen BM9.out 0; clear hrow hkp BM8 BE8 IR8 HB8 AG8))
  have nMR := lR.out.1
  have nER := lR.out.2
  have KM10 := Aside0.mk (show Kp [gm] w9 (w9.setCell ⟨gm, 0, none⟩ (.int .i64 n)) from Kp.set w9 gm 0 _ (.inl (List.mem_singleton.mpr rfl)))
  have nZM := not_ok AG9.out BM9.out (by decide)
  have BM10 := Aside0.mk (blk_st BM9.out 0 (.int .i64 n))
  have BE10 := Aside0.mk (blk_far (p := ⟨gm, 0, none⟩) BE9.out hME.symm (.int .i64 n))
  have IR10 := Aside0.mk (IR9.out.keep KM10.out (by simpa using nMR.symm))
  have AG10 := Aside0.mk (Kp.agree KM10.out AG9.out (fun k hk => by rw [List.mem_singleton.1 hk]; exact nZM) (fun k hk => agree_lt AG9.out k hk))
  have HK10 := Aside0.mk (kp_out HK9.out KM10.out GM.out)
  clear hM0 fM0 KM10 nZM BM9 BE9 IR9 AG9 HK9 hT0 hT1 hT2 hT3 hT4 hT4b lR HI HN HRW GT4
  generalize w9.setCell ⟨gm, 0, none⟩ (.int .i64 n) = w10 at *
  clear w9
  obtain ⟨A1, c1, hg, hcc1, _, hrw1⟩ := IR10.out
  obtain ⟨q, o, A4, c4, e, hok, _, _, _, _, z0, z1, z2, z3, z4⟩ := rw_head hrw1
  subst e
  have hq : w10.heap[q]? = Z.heap[q]? := AG10.out q hok
  have y0 : w10.cell? ⟨q, o, none⟩ = some (.int .i64 1) := (cell_at (o := o) hq).trans z0
  have y1 : w10.cell? ⟨q, o + 1, none⟩ = some (.bool false) := (cell_at (o := o + 1) hq).trans z1
  have y2 : w10.cell? ⟨q, o + 2, none⟩ = some (.int .i64 2) := (cell_at (o := o + 2) hq).trans z2
  have y3 : w10.cell? ⟨q, o + 3, none⟩ = some (.string (⟨#[]⟩ : ByteArray)) := (cell_at (o := o + 3) hq).trans z3
  have y4 : w10.cell? ⟨q, o + 4, none⟩ = some (.slice A4 0 c4) := (cell_at (o := o + 4) hq).trans z4
  have hR0 : w10.cell? ⟨gR, 0, none⟩ = some (.slice (some ⟨q, o, none⟩) 1 c1) := (blk_cell hg 0).trans rfl
  have BR10 := Aside0.mk hg
  obtain ⟨A', hcut, _⟩ := cut_one q o 0 c1 hcc1
  have hcut' : ∀ W : World, (Instr.slice 42 (.slice (some ⟨q, o, none⟩) 1 c1) (some (.int .i64 1)) none none).run Tryd.prog W = .ok (.slice A' 0 (c1 - 1)) W := hcut
  have HO := Aside0.mk (readOp_unbind gm (ZM.setIfInBounds 0 (.int .i64 n)) A4 0 c4 w10 BM10.out (ZM_ok.set 0 _ rfl))
  clear hg hrw1 z0 z1 z2 z3 z4 hok hq hcut hcc1 IR10 AG10
  go_upto_region 11 with (go_at_call 27; refine HO.out.mono ?_; rintro e w11 ⟨rfl, hbm, hkp⟩; have BM11 := Aside0.mk (show w11.heap[gm]? = some (.cells (unb n) 30 (0, 0)) from hbm); have BE11 := Aside0.mk (kp_blk BE10.out hkp hME.symm); have BR11 := Aside0.mk (kp_blk BR10.out hkp nMR.symm); have HK11 := Aside0.mk (kp_out HK10.out hkp GM.out); clear hbm hkp; have hR0b : w11.cell? ⟨gR, 0, none⟩ = some (.slice (some ⟨q, o, none⟩) 1 c1) := (blk_cell BR11.out 0).trans rfl; have fR0b := blk_frozen BR11.out 0)
  have BM12 := Aside0.mk (blk_far (p := ⟨gR, 0, none⟩) BM11.out nMR (.slice A' 0 (c1 - 1)))
  have BE12 := Aside0.mk (blk_far (p := ⟨gR, 0, none⟩) BE11.out nER (.slice A' 0 (c1 - 1)))
  have IR12 := Aside0.mk (show IsRow Z (w11.setCell ⟨gR, 0, none⟩ (.slice A' 0 (c1 - 1))) gR [] from ⟨A', c1 - 1, blk_put BR11.out 0 _ rfl, Nat.zero_le _, Nat.zero_le _, rw_nil _ _⟩)
  have HK12 := Aside0.mk (kp1 (j := 0) HK11.out GR.out (.slice A' 0 (c1 - 1)))
  clear hR0 hR0b fR0b y0 y1 y2 y3 y4 BM11 BE11 BR11 HK11 hcut' HO BM10 BE10 BR10 HK10
  generalize w11.setCell ⟨gR, 0, none⟩ (.slice A' 0 (c1 - 1)) = w12 at *
  clear w11
  have HY := Aside0.mk (show Calls Tryd.prog 28 #[.pointer (some ⟨gR, 0, none⟩), .int .i64 2, .int .i64 0, .bool true] w12 (fun e w' => e = .returned (.tuple #[.agg #[.int .i64 0, .bool false, .int .i64 0, .string (⟨#[]⟩ : ByteArray), .slice none 0 0], .bool false]) ∧ Below w12.heap.size w12 w') from may_nil Z gR 2 0 true w12 IR12.out)
  go_upto_region 15 with (first | (go_at_call 28; refine HY.out.mono ?_; rintro e w13 ⟨rfl, hb3⟩; have BM13 := Aside0.mk (blk_below BM12.out hb3); have BE13 := Aside0.mk (blk_below BE12.out hb3); have IR13 := Aside0.mk (row_below IR12.out hb3); have HK13 := Aside0.mk (kp_below HK12.out hb3); clear hb3) | ((with_reducible refine gate_dst (N := 8) rfl ?_); refine box_event ?hg (N := 8) ?hd (cs := #[.int .i64 0, .bool false, .int .i64 0, .string (⟨#[]⟩ : ByteArray), .slice none 0 0]) (t := 44) ?hr ?_; (case hd => rfl); (case hg => rfl); (case hr => first | (go_simp; done) | (go_simp; rfl)); intro gK hg_gK w14 hbox_gK hb_gK; have hgK0 : w14.cell? ⟨gK, 0, none⟩ = some (.int .i64 0) := (blk_cell hbox_gK 0).trans rfl; have hgK1 : w14.cell? ⟨gK, 1, none⟩ = some (.bool false) := (blk_cell hbox_gK 1).trans rfl; have hgK2 : w14.cell? ⟨gK, 2, none⟩ = some (.int .i64 0) := (blk_cell hbox_gK 2).trans rfl; have hgK3 : w14.cell? ⟨gK, 3, none⟩ = some (.string (⟨#[]⟩ : ByteArray)) := (blk_cell hbox_gK 3).trans rfl; have hgK4 : w14.cell? ⟨gK, 4, none⟩ = some (.slice none 0 0) := (blk_cell hbox_gK 4).trans rfl; have fgK0 := blk_frozen hbox_gK 0; have fgK1 := blk_frozen hbox_gK 1; have fgK2 := blk_frozen hbox_gK 2; have fgK3 := blk_frozen hbox_gK 3; have fgK4 := blk_frozen hbox_gK 4; have BM14 := Aside0.mk (blk_below BM13.out hb_gK); have BE14 := Aside0.mk (blk_below BE13.out hb_gK); have IR14 := Aside0.mk (row_below IR13.out hb_gK); have HK14 := Aside0.mk (kp_below HK13.out hb_gK); have GK := Aside0.mk (Nat.le_trans HK13.out.1 (Nat.le_of_eq hg_gK.symm) : w.heap.size ≤ gK); have lK := Aside0.mk (hg_gK ▸ And.intro (Nat.ne_of_gt (blk_lt BM13.out)) (And.intro (Nat.ne_of_gt (blk_lt BE13.out)) (Nat.ne_of_gt (row_lt IR13.out))) : gK ≠ gm ∧ gK ≠ gE ∧ gK ≠ gR); clear hg_gK hbox_gK hb_gK) | (go_at_call 30; refine (end_yes Z gR _ (row_far5 IR14.out lK.out.2.2 _ _ _ _ _)).mono ?_; rintro e w16 ⟨rfl, rfl⟩))
  have BM15 := Aside0.mk (far5b BM14.out lK.out.1 (.int .i64 0) (.bool false) (.int .i64 0) (.string (⟨#[]⟩ : ByteArray)) (.slice none 0 0))
  have BE15 := Aside0.mk (far5b BE14.out lK.out.2.1 (.int .i64 0) (.bool false) (.int .i64 0) (.string (⟨#[]⟩ : ByteArray)) (.slice none 0 0))
  have HK15 := Aside0.mk (kp5 HK14.out GK.out (.int .i64 0) (.bool false) (.int .i64 0) (.string (⟨#[]⟩ : ByteArray)) (.slice none 0 0))
  clear hgK0 hgK1 hgK2 hgK3 hgK4 fgK0 fgK1 fgK2 fgK3 fgK4 BM14 BE14 IR14 HK14 lK HY IR13 BM13 BE13 HK13 BM12 BE12 IR12 HK12
  generalize ((((w14.setCell ⟨gK, 0, none⟩ (.int .i64 0)).setCell ⟨gK, 1, none⟩ (.bool false)).setCell ⟨gK, 2, none⟩ (.int .i64 0)).setCell ⟨gK, 3, none⟩ (.string (⟨#[]⟩ : ByteArray))).setCell ⟨gK, 4, none⟩ (.slice none 0 0) = w15 at *
  clear w14
  go_wp2_with (first | ((with_reducible refine gate_dst (N := 72) rfl ?_); refine wpList_load_row rfl 30 (.tmp 2) rfl gm rfl 30 (unb n) (0, 0) _ BM15.out Tryd.underlying30 rfl (by rw [HS.out]; exact infoM) ?_) | (go_at_call 16; refine (HRt.out _).mono ?_; rintro e w16 ⟨rfl, hb6⟩; have BM16 := Aside0.mk (blk_below BM15.out hb6); have BE16 := Aside0.mk (blk_below BE15.out hb6); have HK16 := Aside0.mk (kp_below HK15.out hb6); clear hb6) | ((with_reducible refine gate_dst (N := 77) rfl ?_); refine wpList_load_row rfl 30 (.tmp 2) rfl gm rfl 30 (unb n) (0, 0) _ BM16.out Tryd.underlying30 rfl (by rw [HS.out]; exact infoM) ?_) | ((with_reducible refine gate_store (t := 30) (p := 2) (v := .tmp 77) rfl ?_); refine wpList_store_row rfl 30 (.tmp 2) (.tmp 77) rfl gm _ rfl rfl 30 (unb n) BM16.out (by rw [HS.out]; exact infoM) rfl (unb_ok n).one ?_; have BE17 := Aside0.mk (setRow_far (g := gm) (cs := unb n) BE16.out hME.symm); have BM17 := Aside0.mk (blk_row (D := unb n) BM16.out); have HK17 := Aside0.mk (kp_row (D := unb n) HK16.out GM.out); have hE0 : (w16.setRow gm (unb n)).cell? ⟨gE, 0, none⟩ = some (.int .i64 0) := (blk_cell BE17.out 0).trans rfl; have fE0 := blk_frozen BE17.out 0))
  refine leaves_cons (f := 25) (args := #[.pointer (some ⟨gm, 0, none⟩), .pointer (some ⟨gE, 0, none⟩)]) (by simp) (by simp [go_sem]) ?_
  refine (mcatch_idle ⟨gm, 0, none⟩ ⟨gE, 0, none⟩ _).mono ?_
  rintro e1 u1 w18 ⟨rfl, rfl, rfl⟩
  refine mdec_leaves (C := unb n) (n := 0) HS.out (blk_far BM17.out hME _) (blk_put BE17.out 0 _ rfl) rfl rfl ?_
  exact ⟨rfl, kp1 HK17.out GE.out _⟩
end Go.Proofs.YtghkgclbfjoilaaDoor.Msg

/- Messages: Encode of the unbinding message. -/
set_option linter.unusedVariables false
set_option linter.unusedSimpArgs false
namespace Go.Proofs.YtghkgclbfjoilaaDoorW.PrintLast
open Go.RowKit Go.Proofs.YtghkgclbfjoilaaDoorW.PrintWords
section
variable {P : Program} {ops : Array Oper} {Q : Exit → Act → World → Prop}
theorem value_new {oi : Oper} {N : Option Tmp} {a : Act} {w : World} {K : Act → World → Prop} (v : Nat → Value) (o : Obj) (hw : Region.wanted oi (yielded ops a.tmps) = true) (hN : oi.dst = N) (hrun : (execOp a.eval oi).run P w = .ok (.value (v w.heap.size)) (w.alloc o))
    (h : ∀ g w1, w.heap.size = g → w1.heap[g]? = some o → Below w.heap.size w w1 → K (a.put N (v g)) w1) : if Region.wanted oi (yielded ops a.tmps) = true then Oper.wp P oi a w K Q else K (a.put N undef) w :=
  value_ hw hN hrun (h _ _ rfl (heap_alloc_new w o) (below_alloc (Below.refl _ _) o))
end
end Go.Proofs.YtghkgclbfjoilaaDoorW.PrintLast
namespace Go.Proofs.YtghkgclbfjoilaaDoor.Msg
open Go.RowKit Go.Proofs.YtghkgclbfjoilaaDoorW.PrintWords Go.Proofs.YtghkgclbfjoilaaDoorW.PrintLast Go.Proofs.YtghkgclbfjoilaaDoorW.PrintMore Go.Proofs.YtghkgclbfjoilaaDoor.Pl Go.Proofs.YtghkgclbfjoilaaDoor.R

theorem loadrow_ {P : Program} {a : Act} {o : Oper} {w : World} (ty : TypeId) (x : Operand) (ho : o.op = .load ty x)
    (g : Nat) (hx : a.eval x = .pointer (some ⟨g, 0, none⟩)) (t : TypeId) (cs : Array Value) (fr : Nat × Nat) (d : TypeDesc) (hg : w.heap[g]? = some (.cells cs t fr))
    (hu : P.underlying ty = some d) (hd : (match d with | .struct _ | .array _ _ => true | _ => false) = true) (hi : (P.info? ty).map (·.size) = some cs.size) :
    (execOp a.eval o).run P w = .ok (.value (.agg cs)) w := by
  unfold execOp
  simp only [ho, hx, Instr.loadAt, Instr.sureAddr, Sem.run_bind, Sem.run_pure, Result.andThen_ok, run_loadVar_row w g t ty cs fr d hg hu hd hi]
def EncF (W0 : World) (n : Int) (gM : Nat) (b : ByteArray) (s : Option Addr × Nat × Nat × Nat) (w' : World) : Prop :=
  Below W0.heap.size W0 w' ∧ w'.heap[gM]? = some (.cells (unb n) 30 (0, 0)) ∧
  w'.heap[s.2.2.1]? = some (.cells #[.int .i64 0, .bool false, .int .i64 2, .string b, .slice s.1 0 s.2.1, .int .i64 1, .bool false, .int .i64 2, .string (⟨#[]⟩ : ByteArray), .slice none 0 0] 44 (0, 0)) ∧
  w'.heap[s.2.2.2]? = some (.cells #[.int .i64 0, .bool false, .int .i64 0, .string (⟨#[]⟩ : ByteArray), .slice none 0 0] 44 (0, 0)) ∧ s.2.2.1 ≠ s.2.2.2 ∧ W0.heap.size ≤ s.2.2.1 ∧ W0.heap.size ≤ s.2.2.2
theorem kids_C {w : World} {g : Nat} {b : ByteArray} {A4 : Option Addr} {c4 : Nat} (h : w.heap[g]? = some (.cells #[.int .i64 0, .bool false, .int .i64 2, .string b, .slice A4 0 c4, .int .i64 1, .bool false, .int .i64 2, .string (⟨#[]⟩ : ByteArray), .slice none 0 0] 44 (0, 0))) :
    Kd.C k44 w (some ⟨g, 0, none⟩) 2 [⟨0, false, 2, b, []⟩, ⟨1, false, 2, ⟨#[]⟩, []⟩] := by
  have hnil : ∀ A : Option Addr, Kd.C k44 w A 0 [] := fun A => ⟨rfl, by decide, fun h0 => absurd h0 (by decide)⟩
  refine ⟨rfl, by decide, fun _ => ⟨⟨g, 0, none⟩, rfl, fun j x hj => ?_⟩⟩
  rcases j with _ | _ | j
  · simp only [List.getElem?_cons_zero, Option.some.injEq] at hj
    subst hj
    refine ⟨_, rfl, k44_mk w ⟨0, false, 2, b, []⟩ (A4 := A4) (c4 := c4) (Nat.zero_le _) (hnil _), fun i u hu => ?_⟩
    have hi : i < 5 := (List.getElem?_eq_some_iff.mp hu).1
    rw [show k44.sz = 5 from rfl, addr_add]
    rcases i with _ | _ | _ | _ | _ | i
    all_goals first | omega | exact (blk_cell h _).trans hu
  · simp only [List.getElem?_cons_succ, List.getElem?_cons_zero, Option.some.injEq] at hj
    subst hj
    refine ⟨_, rfl, k44_mk w ⟨1, false, 2, ⟨#[]⟩, []⟩ (A4 := none) (c4 := 0) (Nat.zero_le _) (hnil _), fun i u hu => ?_⟩
    have hi : i < 5 := (List.getElem?_eq_some_iff.mp hu).1
    rw [show k44.sz = 5 from rfl, addr_add]
    rcases i with _ | _ | _ | _ | _ | i
    all_goals first | omega | exact (blk_cell h _).trans hu
  · simp at hj
set_option maxHeartbeats 8000000 in
set_option maxRecDepth 100000 in
theorem encode_unbind (n : Int) (hn0 : 0 ≤ n) (hn1 : n ≤ 2147483647) (b r : ByteArray) (hof : ∃ k, ber_OfNumber.f k 0 2 n = some (0, false, 2, b, [])) (henc : ∃ k, ber_Encode.f k 0 true 16 ⟨#[]⟩ [⟨0, false, 2, b, []⟩, ⟨1, false, 2, ⟨#[]⟩, []⟩] = some (r, 0)) (w : World) :
    Calls Tryd.prog 8 #[.agg (unb n)] w fun e w' => e = .returned (.tuple #[.string r, .int .i64 0]) ∧ Below w.heap.size w w' := by
  obtain ⟨ko, hko⟩ := hof
  obtain ⟨ke, hke⟩ := henc
  have HOF := Aside0.mk (fun W : World => (show Calls Tryd.prog 18 #[.int .i64 0, .int .i64 2, .int .i64 n] W (fun e w' => ∃ A4 c4, e = .returned (.agg #[.int .i64 0, .bool false, .int .i64 2, .string b, .slice A4 0 c4]) ∧ Below W.heap.size W w') from
    (ber_OfNumber.calls ko 0 2 n 0 false 2 b [] W hko).mono (by
      rintro e w' ⟨v4, he, hR, hb⟩
      obtain ⟨A, c, hv, _, _, _⟩ := rw_of_R hR
      subst hv
      exact ⟨A, c, he, hb⟩)))
  have HOP := Aside0.mk (fun W : World => operation_unbind (unb n) rfl W)
  have HS := Aside0.mk (show (unb n).size = 31 from (unb_ok n).sz)
  have HRt := Aside0.mk (fun W : World => right_unbind (unb n) (unb_ok n) n rfl hn0 hn1 rfl (fun i h2 h3 => by unfold unb; rw [Array.getElem?_setIfInBounds_ne (by omega), Array.getElem?_setIfInBounds_ne (by omega)]) W)
  have HE := Aside0.mk (fun (W : World) (g : Nat) (A4 : Option Addr) (c4 : Nat) (hC : Kd.C k44 W (some ⟨g, 0, none⟩) 2 [⟨0, false, 2, b, []⟩, ⟨1, false, 2, ⟨#[]⟩, []⟩]) => show Calls Tryd.prog 22 #[.agg #[.int .i64 0, .bool true, .int .i64 16, .string (⟨#[]⟩ : ByteArray), .slice (some ⟨g, 0, none⟩) 2 2]] W (fun e w' => e = .returned (.tuple #[.string r, .int .i64 0]) ∧ Below W.heap.size W w') from ber_Encode.calls ke 0 true 16 ⟨#[]⟩ (some ⟨g, 0, none⟩) 2 [⟨0, false, 2, b, []⟩, ⟨1, false, 2, ⟨#[]⟩, []⟩] r 0 W hC (Nat.le_refl _) hke)
  clear hko hke hn0 hn1
  have hu44 := Tryd.underlying44
  go_enter Tryd.func8, Tryd.ntmps8
  go_upto_region 3 with (first | ((with_reducible refine gate_dst (N := 1) rfl ?_); refine box_event ?hg (N := 1) ?hd (cs := unb n) (t := 30) ?hr ?_; (case hd => rfl); (case hg => rfl); (case hr => first | (go_simp; done) | (go_simp; rfl)); intro gM hg1 w2 hbox hb2; have BM2 := Aside0.mk hbox; have HB2 := Aside0.mk hb2; have GM := Aside0.mk (Nat.le_of_eq hg1.symm : w.heap.size ≤ gM); clear hbox hb2 hg1) | ((with_reducible refine gate_dst (N := 5) rfl ?_); refine wpList_load_row rfl 30 (.tmp 1) rfl gM rfl 30 (unb n) (0, 0) _ BM2.out Tryd.underlying30 rfl (by rw [HS.out]; exact infoM) ?_) | (go_at_call 16; refine (HRt.out _).mono ?_; rintro e w3 ⟨rfl, hb6⟩; have BM3 := Aside0.mk (blk_below BM2.out hb6); have HB3 := Aside0.mk (below_step HB2.out hb6); clear hb6))
  have BM : Aside0 (w3.drew.heap[gM]? = some (.cells (unb n) 30 (0, 0))) := ⟨BM3.out⟩
  have HB : Aside0 (Below w3.drew.heap.size w3.drew w3.drew) := ⟨Below.refl _ _⟩
  have HBw : Aside0 (Below w.heap.size w w3.drew) := ⟨HB3.out.drew⟩
  refine start_ (n := 9) (S := fun w' => w'.cell? ⟨gM, 0, none⟩ = some (.int .i64 n) ∧ w'.heap[gM]? = some (.cells (unb n) 30 (0, 0))) (ds := [8]) #[false, false, false, false, false, false, false, false, false] (by kernel_rfl) rfl rfl ⟨((blk_cell BM.out 0).trans rfl), BM.out⟩ (fun hHeld => ?_)
  refine pure_ (i := 0) (N := some 8) (v := ?_) (a' := ?_) #[true, false, false, false, false, false, false, false, false] rfl rfl (by kernel_rfl) (fun _ _ _ h => h) (Or.inl ⟨by rfl, ?_⟩) ?_ ?_
  rotate_left
  · intro w'
    go_simp
    with_reducible rfl
  rotate_left
  · simp only [Act.put, List.setIfInBounds_toArray, List.set_cons_zero, List.set_cons_succ, i64_w, i32_w]
    rfl
  refine take_ (i := 1) (N := some 9) (v := ?_) (a' := ?_) #[true, true, false, false, false, false, false, false, false] rfl rfl (by kernel_rfl) (fun _ _ _ h => h) (Or.inl ⟨by rfl, ?_⟩) hHeld ?_ ?_
  rotate_left
  · rintro w' ⟨s0, s1⟩
    go_simp
    with_reducible rfl
  rotate_left
  · simp only [Act.put, List.setIfInBounds_toArray, List.set_cons_zero, List.set_cons_succ, i64_w, i32_w]
    rfl
  refine take_ (i := 3) (N := some 11) (v := ?_) (a' := ?_) #[true, true, false, true, false, false, false, false, false] rfl rfl (by kernel_rfl) (fun _ _ _ h => h) (Or.inl ⟨by rfl, ?_⟩) hHeld ?_ ?_
  rotate_left
  · rintro w' ⟨s0, s1⟩
    refine loadrow_ 30 (.tmp 1) ?h1 gM ?h2 30 (unb n) (0, 0) _ s1 Tryd.underlying30 rfl (by rw [HS.out]; exact infoM)
    case h1 => rfl
    case h2 => rfl
  rotate_left
  · simp only [Act.put, List.setIfInBounds_toArray, List.set_cons_zero, List.set_cons_succ, i64_w, i32_w]
    rfl
  refine join_ (σ := Option Addr × Nat × Nat × Nat) 1 #[true, true, true, true, true, true, true, true, false] (fun s => [(10, .agg #[.int .i64 0, .bool false, .int .i64 2, .string b, .slice s.1 0 s.2.1]), (12, .agg #[.int .i64 1, .bool false, .int .i64 2, .string (⟨#[]⟩ : ByteArray), .slice none 0 0]), (13, .slice (some ⟨s.2.2.1, 0, none⟩) 2 2), (14, .agg #[.int .i64 0, .bool true, .int .i64 16, .string (⟨#[]⟩ : ByteArray), .slice (some ⟨s.2.2.1, 0, none⟩) 2 2]), (4, .pointer (some ⟨s.2.2.2, 0, none⟩))]) (fun s w' => EncF w3.drew n gM b s w') ?_ ?_
  rotate_left
  · intro hCont
    refine two_ (i := 2) (j := 7) (Ni := some 10) (Nj := some 4) #[true, true, true, true, false, false, false, false, false] #[true, true, false, true, false, false, false, true, false] rfl rfl rfl rfl (by kernel_rfl) (by decide) (by decide) (fun K hK => ?_) (fun K hK => ?_)
    · skip
      refine goes_ Tryd.func18 (by kernel_rfl) rfl #[.int .i64 0, .int .i64 2, .int .i64 n] (by rfl) rfl rfl (by simp only [List.map_toArray, List.map_cons, List.map_nil]; rfl) ?_
      with_reducible refine (HOF.out _).mono ?_
      rintro e wX ⟨A4, c4, rfl, hb⟩
      refine ⟨_, rfl, ?_⟩
      have HB := Aside0.mk (below_step HB.out hb)
      have BM := Aside0.mk (blk_below BM.out hb)
      clear hb
      refine hK.out _ _ ⟨((blk_cell BM.out 0).trans rfl), BM.out⟩ (fun hHeld => ?_)
      clear hK K
      refine norm_ (a' := ?_) ?_ ?_
      rotate_left
      · show Act.put _ (some 10) _ = _
        simp only [Act.put, List.setIfInBounds_toArray, List.set_cons_zero, List.set_cons_succ, i64_w, i32_w]
        rfl
      refine two_ (i := 4) (j := 7) (Ni := some 12) (Nj := some 4) #[true, true, true, true, true, false, false, false, false] #[true, true, true, true, false, false, false, true, false] rfl rfl rfl rfl (by kernel_rfl) (by decide) (by decide) (fun K hK => ?_) (fun K hK => ?_)
      · skip
        refine goes_ Tryd.func19 (by kernel_rfl) rfl #[.agg (unb n)] (by rfl) rfl rfl (by simp only [List.map_toArray, List.map_cons, List.map_nil]; rfl) ?_
        with_reducible refine (HOP.out _).mono ?_
        rintro e wX ⟨rfl, hb⟩
        refine ⟨_, rfl, ?_⟩
        have HB := Aside0.mk (below_step HB.out hb)
        have BM := Aside0.mk (blk_below BM.out hb)
        clear hb
        refine hK.out _ _ ⟨((blk_cell BM.out 0).trans rfl), BM.out⟩ (fun hHeld => ?_)
        clear hK K
        refine norm_ (a' := ?_) ?_ ?_
        rotate_left
        · show Act.put _ (some 12) _ = _
          simp only [Act.put, List.setIfInBounds_toArray, List.set_cons_zero, List.set_cons_succ, i64_w, i32_w]
          rfl
        refine two_ (i := 5) (j := 7) (Ni := some 13) (Nj := some 4) #[true, true, true, true, true, true, false, false, false] #[true, true, true, true, true, false, false, true, false] rfl rfl rfl rfl (by kernel_rfl) (by decide) (by decide) (fun K hK => ?_) (fun K hK => ?_)
        · skip
          refine value_new (fun g => Value.slice (some ⟨g, 0, none⟩) 2 2) (.cells #[.int .i64 0, .bool false, .int .i64 2, .string b, .slice A4 0 c4, .int .i64 1, .bool false, .int .i64 2, .string (⟨#[]⟩ : ByteArray), .slice none 0 0] 44) (by rfl) rfl ?_ ?_
          · first | (go_simp; done) | (go_simp; rfl)
          intro gS wX hgS hbox hb
          have GS := Aside0.mk (hgS ▸ HB.out.size : w3.drew.heap.size ≤ gS)
          have BS := Aside0.mk hbox
          clear hgS hbox
          have HB := Aside0.mk (below_step HB.out hb)
          have BM := Aside0.mk (blk_below BM.out hb)
          clear hb
          refine hK.out _ _ ⟨((blk_cell BM.out 0).trans rfl), BM.out⟩ (fun hHeld => ?_)
          clear hK K
          refine norm_ (a' := ?_) ?_ ?_
          rotate_left
          · show Act.put _ (some 13) _ = _
            simp only [Act.put, List.setIfInBounds_toArray, List.set_cons_zero, List.set_cons_succ, i64_w, i32_w]
            rfl
          refine two_ (i := 6) (j := 7) (Ni := some 14) (Nj := some 4) #[true, true, true, true, true, true, true, false, false] #[true, true, true, true, true, true, false, true, false] rfl rfl rfl rfl (by kernel_rfl) (by decide) (by decide) (fun K hK => ?_) (fun K hK => ?_)
          · skip
            refine goes_ Tryd.func17 (by kernel_rfl) rfl #[.slice (some ⟨gS, 0, none⟩) 2 2] (by rfl) rfl rfl (by simp only [List.map_toArray, List.map_cons, List.map_nil]; rfl) ?_
            with_reducible refine (list_any (some ⟨gS, 0, none⟩) 2 2 _).mono ?_
            rintro e wX ⟨rfl, hb⟩
            refine ⟨_, rfl, ?_⟩
            have HB := Aside0.mk (below_step HB.out hb)
            have BM := Aside0.mk (blk_below BM.out hb)
            have BS := Aside0.mk (blk_below BS.out hb)
            clear hb
            refine hK.out _ _ ⟨((blk_cell BM.out 0).trans rfl), BM.out⟩ (fun hHeld => ?_)
            clear hK K
            refine norm_ (a' := ?_) ?_ ?_
            rotate_left
            · show Act.put _ (some 14) _ = _
              simp only [Act.put, List.setIfInBounds_toArray, List.set_cons_zero, List.set_cons_succ, i64_w, i32_w]
              rfl
            refine one_ (i := 7) (N := some 4) #[true, true, true, true, true, true, true, true, false] rfl rfl (by kernel_rfl) (by decide) (fun K hK => ?_)
            refine value_new (fun g => Value.pointer (some ⟨g, 0, none⟩)) (.cells #[.int .i64 0, .bool false, .int .i64 0, .string (⟨#[]⟩ : ByteArray), .slice none 0 0] 44) (by rfl) rfl ?_ ?_
            · first | (go_simp; done) | (go_simp; rfl)
            intro gT wX hgT hbox hb
            have GT := Aside0.mk (hgT ▸ HB.out.size : w3.drew.heap.size ≤ gT)
            have nST := Aside0.mk (hgT ▸ Nat.ne_of_lt (blk_lt BS.out) : gS ≠ gT)
            have BT := Aside0.mk hbox
            clear hgT hbox
            have HB := Aside0.mk (below_step HB.out hb)
            have BM := Aside0.mk (blk_below BM.out hb)
            have BS := Aside0.mk (blk_below BS.out hb)
            clear hb
            refine hK.out _ _ ⟨((blk_cell BM.out 0).trans rfl), BM.out⟩ (fun hHeld => ?_)
            clear hK K
            refine norm_ (a' := ?_) ?_ ?_
            rotate_left
            · show Act.put _ (some 4) _ = _
              simp only [Act.put, List.setIfInBounds_toArray, List.set_cons_zero, List.set_cons_succ, i64_w, i32_w]
              rfl
            exact norm_ (by simp only [putAll, Act.put, List.setIfInBounds_toArray, List.set_cons_zero, List.set_cons_succ]) (hCont (A4, c4, gS, gT) _ ⟨HB.out, BM.out, BS.out, BT.out, nST.out, GS.out, GT.out⟩)
          · skip
            refine value_new (fun g => Value.pointer (some ⟨g, 0, none⟩)) (.cells #[.int .i64 0, .bool false, .int .i64 0, .string (⟨#[]⟩ : ByteArray), .slice none 0 0] 44) (by rfl) rfl ?_ ?_
            · first | (go_simp; done) | (go_simp; rfl)
            intro gT wX hgT hbox hb
            have GT := Aside0.mk (hgT ▸ HB.out.size : w3.drew.heap.size ≤ gT)
            have nST := Aside0.mk (hgT ▸ Nat.ne_of_lt (blk_lt BS.out) : gS ≠ gT)
            have BT := Aside0.mk hbox
            clear hgT hbox
            have HB := Aside0.mk (below_step HB.out hb)
            have BM := Aside0.mk (blk_below BM.out hb)
            have BS := Aside0.mk (blk_below BS.out hb)
            clear hb
            refine hK.out _ _ ⟨((blk_cell BM.out 0).trans rfl), BM.out⟩ (fun hHeld => ?_)
            clear hK K
            refine norm_ (a' := ?_) ?_ ?_
            rotate_left
            · show Act.put _ (some 4) _ = _
              simp only [Act.put, List.setIfInBounds_toArray, List.set_cons_zero, List.set_cons_succ, i64_w, i32_w]
              rfl
            refine one_ (i := 6) (N := some 14) #[true, true, true, true, true, true, true, true, false] rfl rfl (by kernel_rfl) (by decide) (fun K hK => ?_)
            refine goes_ Tryd.func17 (by kernel_rfl) rfl #[.slice (some ⟨gS, 0, none⟩) 2 2] (by rfl) rfl rfl (by simp only [List.map_toArray, List.map_cons, List.map_nil]; rfl) ?_
            with_reducible refine (list_any (some ⟨gS, 0, none⟩) 2 2 _).mono ?_
            rintro e wX ⟨rfl, hb⟩
            refine ⟨_, rfl, ?_⟩
            have HB := Aside0.mk (below_step HB.out hb)
            have BM := Aside0.mk (blk_below BM.out hb)
            have BS := Aside0.mk (blk_below BS.out hb)
            have BT := Aside0.mk (blk_below BT.out hb)
            clear hb
            refine hK.out _ _ ⟨((blk_cell BM.out 0).trans rfl), BM.out⟩ (fun hHeld => ?_)
            clear hK K
            refine norm_ (a' := ?_) ?_ ?_
            rotate_left
            · show Act.put _ (some 14) _ = _
              simp only [Act.put, List.setIfInBounds_toArray, List.set_cons_zero, List.set_cons_succ, i64_w, i32_w]
              rfl
            exact norm_ (by simp only [putAll, Act.put, List.setIfInBounds_toArray, List.set_cons_zero, List.set_cons_succ]) (hCont (A4, c4, gS, gT) _ ⟨HB.out, BM.out, BS.out, BT.out, nST.out, GS.out, GT.out⟩)
        · skip
          refine value_new (fun g => Value.pointer (some ⟨g, 0, none⟩)) (.cells #[.int .i64 0, .bool false, .int .i64 0, .string (⟨#[]⟩ : ByteArray), .slice none 0 0] 44) (by rfl) rfl ?_ ?_
          · first | (go_simp; done) | (go_simp; rfl)
          intro gT wX hgT hbox hb
          have GT := Aside0.mk (hgT ▸ HB.out.size : w3.drew.heap.size ≤ gT)
          have BT := Aside0.mk hbox
          clear hgT hbox
          have HB := Aside0.mk (below_step HB.out hb)
          have BM := Aside0.mk (blk_below BM.out hb)
          clear hb
          refine hK.out _ _ ⟨((blk_cell BM.out 0).trans rfl), BM.out⟩ (fun hHeld => ?_)
          clear hK K
          refine norm_ (a' := ?_) ?_ ?_
          rotate_left
          · show Act.put _ (some 4) _ = _
            simp only [Act.put, List.setIfInBounds_toArray, List.set_cons_zero, List.set_cons_succ, i64_w, i32_w]
            rfl
          refine one_ (i := 5) (N := some 13) #[true, true, true, true, true, true, false, true, false] rfl rfl (by kernel_rfl) (by decide) (fun K hK => ?_)
          refine value_new (fun g => Value.slice (some ⟨g, 0, none⟩) 2 2) (.cells #[.int .i64 0, .bool false, .int .i64 2, .string b, .slice A4 0 c4, .int .i64 1, .bool false, .int .i64 2, .string (⟨#[]⟩ : ByteArray), .slice none 0 0] 44) (by rfl) rfl ?_ ?_
          · first | (go_simp; done) | (go_simp; rfl)
          intro gS wX hgS hbox hb
          have GS := Aside0.mk (hgS ▸ HB.out.size : w3.drew.heap.size ≤ gS)
          have nST := Aside0.mk (hgS ▸ Nat.ne_of_gt (blk_lt BT.out) : gS ≠ gT)
          have BS := Aside0.mk hbox
          clear hgS hbox
          have HB := Aside0.mk (below_step HB.out hb)
          have BM := Aside0.mk (blk_below BM.out hb)
          have BT := Aside0.mk (blk_below BT.out hb)
          clear hb
          refine hK.out _ _ ⟨((blk_cell BM.out 0).trans rfl), BM.out⟩ (fun hHeld => ?_)
          clear hK K
          refine norm_ (a' := ?_) ?_ ?_
          rotate_left
          · show Act.put _ (some 13) _ = _
            simp only [Act.put, List.setIfInBounds_toArray, List.set_cons_zero, List.set_cons_succ, i64_w, i32_w]
            rfl
          refine one_ (i := 6) (N := some 14) #[true, true, true, true, true, true, true, true, false] rfl rfl (by kernel_rfl) (by decide) (fun K hK => ?_)
          refine goes_ Tryd.func17 (by kernel_rfl) rfl #[.slice (some ⟨gS, 0, none⟩) 2 2] (by rfl) rfl rfl (by simp only [List.map_toArray, List.map_cons, List.map_nil]; rfl) ?_
          with_reducible refine (list_any (some ⟨gS, 0, none⟩) 2 2 _).mono ?_
          rintro e wX ⟨rfl, hb⟩
          refine ⟨_, rfl, ?_⟩
          have HB := Aside0.mk (below_step HB.out hb)
          have BM := Aside0.mk (blk_below BM.out hb)
          have BS := Aside0.mk (blk_below BS.out hb)
          have BT := Aside0.mk (blk_below BT.out hb)
          clear hb
          refine hK.out _ _ ⟨((blk_cell BM.out 0).trans rfl), BM.out⟩ (fun hHeld => ?_)
          clear hK K
          refine norm_ (a' := ?_) ?_ ?_
          rotate_left
          · show Act.put _ (some 14) _ = _
            simp only [Act.put, List.setIfInBounds_toArray, List.set_cons_zero, List.set_cons_succ, i64_w, i32_w]
            rfl
          exact norm_ (by simp only [putAll, Act.put, List.setIfInBounds_toArray, List.set_cons_zero, List.set_cons_succ]) (hCont (A4, c4, gS, gT) _ ⟨HB.out, BM.out, BS.out, BT.out, nST.out, GS.out, GT.out⟩)
      · skip
        refine value_new (fun g => Value.pointer (some ⟨g, 0, none⟩)) (.cells #[.int .i64 0, .bool false, .int .i64 0, .string (⟨#[]⟩ : ByteArray), .slice none 0 0] 44) (by rfl) rfl ?_ ?_
        · first | (go_simp; done) | (go_simp; rfl)
        intro gT wX hgT hbox hb
        have GT := Aside0.mk (hgT ▸ HB.out.size : w3.drew.heap.size ≤ gT)
        have BT := Aside0.mk hbox
        clear hgT hbox
        have HB := Aside0.mk (below_step HB.out hb)
        have BM := Aside0.mk (blk_below BM.out hb)
        clear hb
        refine hK.out _ _ ⟨((blk_cell BM.out 0).trans rfl), BM.out⟩ (fun hHeld => ?_)
        clear hK K
        refine norm_ (a' := ?_) ?_ ?_
        rotate_left
        · show Act.put _ (some 4) _ = _
          simp only [Act.put, List.setIfInBounds_toArray, List.set_cons_zero, List.set_cons_succ, i64_w, i32_w]
          rfl
        refine one_ (i := 4) (N := some 12) #[true, true, true, true, true, false, false, true, false] rfl rfl (by kernel_rfl) (by decide) (fun K hK => ?_)
        refine goes_ Tryd.func19 (by kernel_rfl) rfl #[.agg (unb n)] (by rfl) rfl rfl (by simp only [List.map_toArray, List.map_cons, List.map_nil]; rfl) ?_
        with_reducible refine (HOP.out _).mono ?_
        rintro e wX ⟨rfl, hb⟩
        refine ⟨_, rfl, ?_⟩
        have HB := Aside0.mk (below_step HB.out hb)
        have BM := Aside0.mk (blk_below BM.out hb)
        have BT := Aside0.mk (blk_below BT.out hb)
        clear hb
        refine hK.out _ _ ⟨((blk_cell BM.out 0).trans rfl), BM.out⟩ (fun hHeld => ?_)
        clear hK K
        refine norm_ (a' := ?_) ?_ ?_
        rotate_left
        · show Act.put _ (some 12) _ = _
          simp only [Act.put, List.setIfInBounds_toArray, List.set_cons_zero, List.set_cons_succ, i64_w, i32_w]
          rfl
        refine one_ (i := 5) (N := some 13) #[true, true, true, true, true, true, false, true, false] rfl rfl (by kernel_rfl) (by decide) (fun K hK => ?_)
        refine value_new (fun g => Value.slice (some ⟨g, 0, none⟩) 2 2) (.cells #[.int .i64 0, .bool false, .int .i64 2, .string b, .slice A4 0 c4, .int .i64 1, .bool false, .int .i64 2, .string (⟨#[]⟩ : ByteArray), .slice none 0 0] 44) (by rfl) rfl ?_ ?_
        · first | (go_simp; done) | (go_simp; rfl)
        intro gS wX hgS hbox hb
        have GS := Aside0.mk (hgS ▸ HB.out.size : w3.drew.heap.size ≤ gS)
        have nST := Aside0.mk (hgS ▸ Nat.ne_of_gt (blk_lt BT.out) : gS ≠ gT)
        have BS := Aside0.mk hbox
        clear hgS hbox
        have HB := Aside0.mk (below_step HB.out hb)
        have BM := Aside0.mk (blk_below BM.out hb)
        have BT := Aside0.mk (blk_below BT.out hb)
        clear hb
        refine hK.out _ _ ⟨((blk_cell BM.out 0).trans rfl), BM.out⟩ (fun hHeld => ?_)
        clear hK K
        refine norm_ (a' := ?_) ?_ ?_
        rotate_left
        · show Act.put _ (some 13) _ = _
          simp only [Act.put, List.setIfInBounds_toArray, List.set_cons_zero, List.set_cons_succ, i64_w, i32_w]
          rfl
        refine one_ (i := 6) (N := some 14) #[true, true, true, true, true, true, true, true, false] rfl rfl (by kernel_rfl) (by decide) (fun K hK => ?_)
        refine goes_ Tryd.func17 (by kernel_rfl) rfl #[.slice (some ⟨gS, 0, none⟩) 2 2] (by rfl) rfl rfl (by simp only [List.map_toArray, List.map_cons, List.map_nil]; rfl) ?_
        with_reducible refine (list_any (some ⟨gS, 0, none⟩) 2 2 _).mono ?_
        rintro e wX ⟨rfl, hb⟩
        refine ⟨_, rfl, ?_⟩
        have HB := Aside0.mk (below_step HB.out hb)
        have BM := Aside0.mk (blk_below BM.out hb)
        have BS := Aside0.mk (blk_below BS.out hb)
        have BT := Aside0.mk (blk_below BT.out hb)
        clear hb
        refine hK.out _ _ ⟨((blk_cell BM.out 0).trans rfl), BM.out⟩ (fun hHeld => ?_)
        clear hK K
        refine norm_ (a' := ?_) ?_ ?_
        rotate_left
        · show Act.put _ (some 14) _ = _
          simp only [Act.put, List.setIfInBounds_toArray, List.set_cons_zero, List.set_cons_succ, i64_w, i32_w]
          rfl
        exact norm_ (by simp only [putAll, Act.put, List.setIfInBounds_toArray, List.set_cons_zero, List.set_cons_succ]) (hCont (A4, c4, gS, gT) _ ⟨HB.out, BM.out, BS.out, BT.out, nST.out, GS.out, GT.out⟩)
    · skip
      refine value_new (fun g => Value.pointer (some ⟨g, 0, none⟩)) (.cells #[.int .i64 0, .bool false, .int .i64 0, .string (⟨#[]⟩ : ByteArray), .slice none 0 0] 44) (by rfl) rfl ?_ ?_
      · first | (go_simp; done) | (go_simp; rfl)
      intro gT wX hgT hbox hb
      have GT := Aside0.mk (hgT ▸ HB.out.size : w3.drew.heap.size ≤ gT)
      have BT := Aside0.mk hbox
      clear hgT hbox
      have HB := Aside0.mk (below_step HB.out hb)
      have BM := Aside0.mk (blk_below BM.out hb)
      clear hb
      refine hK.out _ _ ⟨((blk_cell BM.out 0).trans rfl), BM.out⟩ (fun hHeld => ?_)
      clear hK K
      refine norm_ (a' := ?_) ?_ ?_
      rotate_left
      · show Act.put _ (some 4) _ = _
        simp only [Act.put, List.setIfInBounds_toArray, List.set_cons_zero, List.set_cons_succ, i64_w, i32_w]
        rfl
      refine one_ (i := 2) (N := some 10) #[true, true, true, true, false, false, false, true, false] rfl rfl (by kernel_rfl) (by decide) (fun K hK => ?_)
      refine goes_ Tryd.func18 (by kernel_rfl) rfl #[.int .i64 0, .int .i64 2, .int .i64 n] (by rfl) rfl rfl (by simp only [List.map_toArray, List.map_cons, List.map_nil]; rfl) ?_
      with_reducible refine (HOF.out _).mono ?_
      rintro e wX ⟨A4, c4, rfl, hb⟩
      refine ⟨_, rfl, ?_⟩
      have HB := Aside0.mk (below_step HB.out hb)
      have BM := Aside0.mk (blk_below BM.out hb)
      have BT := Aside0.mk (blk_below BT.out hb)
      clear hb
      refine hK.out _ _ ⟨((blk_cell BM.out 0).trans rfl), BM.out⟩ (fun hHeld => ?_)
      clear hK K
      refine norm_ (a' := ?_) ?_ ?_
      rotate_left
      · show Act.put _ (some 10) _ = _
        simp only [Act.put, List.setIfInBounds_toArray, List.set_cons_zero, List.set_cons_succ, i64_w, i32_w]
        rfl
      refine one_ (i := 4) (N := some 12) #[true, true, true, true, true, false, false, true, false] rfl rfl (by kernel_rfl) (by decide) (fun K hK => ?_)
      refine goes_ Tryd.func19 (by kernel_rfl) rfl #[.agg (unb n)] (by rfl) rfl rfl (by simp only [List.map_toArray, List.map_cons, List.map_nil]; rfl) ?_
      with_reducible refine (HOP.out _).mono ?_
      rintro e wX ⟨rfl, hb⟩
      refine ⟨_, rfl, ?_⟩
      have HB := Aside0.mk (below_step HB.out hb)
      have BM := Aside0.mk (blk_below BM.out hb)
      have BT := Aside0.mk (blk_below BT.out hb)
      clear hb
      refine hK.out _ _ ⟨((blk_cell BM.out 0).trans rfl), BM.out⟩ (fun hHeld => ?_)
      clear hK K
      refine norm_ (a' := ?_) ?_ ?_
      rotate_left
      · show Act.put _ (some 12) _ = _
        simp only [Act.put, List.setIfInBounds_toArray, List.set_cons_zero, List.set_cons_succ, i64_w, i32_w]
        rfl
      refine one_ (i := 5) (N := some 13) #[true, true, true, true, true, true, false, true, false] rfl rfl (by kernel_rfl) (by decide) (fun K hK => ?_)
      refine value_new (fun g => Value.slice (some ⟨g, 0, none⟩) 2 2) (.cells #[.int .i64 0, .bool false, .int .i64 2, .string b, .slice A4 0 c4, .int .i64 1, .bool false, .int .i64 2, .string (⟨#[]⟩ : ByteArray), .slice none 0 0] 44) (by rfl) rfl ?_ ?_
      · first | (go_simp; done) | (go_simp; rfl)
      intro gS wX hgS hbox hb
      have GS := Aside0.mk (hgS ▸ HB.out.size : w3.drew.heap.size ≤ gS)
      have nST := Aside0.mk (hgS ▸ Nat.ne_of_gt (blk_lt BT.out) : gS ≠ gT)
      have BS := Aside0.mk hbox
      clear hgS hbox
      have HB := Aside0.mk (below_step HB.out hb)
      have BM := Aside0.mk (blk_below BM.out hb)
      have BT := Aside0.mk (blk_below BT.out hb)
      clear hb
      refine hK.out _ _ ⟨((blk_cell BM.out 0).trans rfl), BM.out⟩ (fun hHeld => ?_)
      clear hK K
      refine norm_ (a' := ?_) ?_ ?_
      rotate_left
      · show Act.put _ (some 13) _ = _
        simp only [Act.put, List.setIfInBounds_toArray, List.set_cons_zero, List.set_cons_succ, i64_w, i32_w]
        rfl
      refine one_ (i := 6) (N := some 14) #[true, true, true, true, true, true, true, true, false] rfl rfl (by kernel_rfl) (by decide) (fun K hK => ?_)
      refine goes_ Tryd.func17 (by kernel_rfl) rfl #[.slice (some ⟨gS, 0, none⟩) 2 2] (by rfl) rfl rfl (by simp only [List.map_toArray, List.map_cons, List.map_nil]; rfl) ?_
      with_reducible refine (list_any (some ⟨gS, 0, none⟩) 2 2 _).mono ?_
      rintro e wX ⟨rfl, hb⟩
      refine ⟨_, rfl, ?_⟩
      have HB := Aside0.mk (below_step HB.out hb)
      have BM := Aside0.mk (blk_below BM.out hb)
      have BS := Aside0.mk (blk_below BS.out hb)
      have BT := Aside0.mk (blk_below BT.out hb)
      clear hb
      refine hK.out _ _ ⟨((blk_cell BM.out 0).trans rfl), BM.out⟩ (fun hHeld => ?_)
      clear hK K
      refine norm_ (a' := ?_) ?_ ?_
      rotate_left
      · show Act.put _ (some 14) _ = _
        simp only [Act.put, List.setIfInBounds_toArray, List.set_cons_zero, List.set_cons_succ, i64_w, i32_w]
        rfl
      exact norm_ (by simp only [putAll, Act.put, List.setIfInBounds_toArray, List.set_cons_zero, List.set_cons_succ]) (hCont (A4, c4, gS, gT) _ ⟨HB.out, BM.out, BS.out, BT.out, nST.out, GS.out, GT.out⟩)
  rintro ⟨A4, c4, gS, gT⟩ wJ ⟨HB1, BM1, BS1, BT1, nST1, GS1, GT1⟩
  simp only at BS1 BT1 nST1 GS1 GT1
  have HB := Aside0.mk HB1
  have BM := Aside0.mk BM1
  have BS := Aside0.mk BS1
  have BT := Aside0.mk BT1
  have nST := Aside0.mk nST1
  have GS := Aside0.mk GS1
  have GT := Aside0.mk GT1
  have hHeld : wJ.cell? ⟨gM, 0, none⟩ = some (.int .i64 n) ∧ wJ.heap[gM]? = some (.cells (unb n) 30 (0, 0)) := ⟨(blk_cell BM.out 0).trans rfl, BM.out⟩
  have hgT0 : wJ.cell? ⟨gT, 0, none⟩ = some (.int .i64 0) := (blk_cell BT.out 0).trans rfl
  have hgT1 : wJ.cell? ⟨gT, 1, none⟩ = some (.bool false) := (blk_cell BT.out 1).trans rfl
  have hgT2 : wJ.cell? ⟨gT, 2, none⟩ = some (.int .i64 0) := (blk_cell BT.out 2).trans rfl
  have hgT3 : wJ.cell? ⟨gT, 3, none⟩ = some (.string (⟨#[]⟩ : ByteArray)) := (blk_cell BT.out 3).trans rfl
  have hgT4 : wJ.cell? ⟨gT, 4, none⟩ = some (.slice none 0 0) := (blk_cell BT.out 4).trans rfl
  have fgT0 := blk_frozen BT.out 0
  have fgT1 := blk_frozen BT.out 1
  have fgT2 := blk_frozen BT.out 2
  have fgT3 := blk_frozen BT.out 3
  have fgT4 := blk_frozen BT.out 4
  clear HB1 BM1 BS1 BT1 nST1 GS1 GT1
  refine norm_ (a' := ?_) ?_ ?_
  rotate_left
  · simp only [putAll, Act.put, List.setIfInBounds_toArray, List.set_cons_zero, List.set_cons_succ]
    rfl
  refine last_ (i := 8) (N := none) #[true, true, true, true, true, true, true, true, true] rfl rfl (by kernel_rfl) (by decide) (fun K hK => ?_)
  refine skip_ (w1 := ?_) (by rfl) rfl ?_ ?_
  rotate_left
  · go_simp
    rfl
  refine hK.out _ _ ?_
  clear hK K
  refine done_ (by kernel_rfl) ?_
  have lM := blk_lt BM3.out
  have nTM : gT ≠ gM := Nat.ne_of_gt (Nat.lt_of_lt_of_le lM GT.out)
  have BM6 := Aside0.mk (far5b BM.out nTM (.int .i64 0) (.bool true) (.int .i64 16) (.string (⟨#[]⟩ : ByteArray)) (.slice (some ⟨gS, 0, none⟩) 2 2))
  have BS6 := Aside0.mk (far5b BS.out nST.out.symm (.int .i64 0) (.bool true) (.int .i64 16) (.string (⟨#[]⟩ : ByteArray)) (.slice (some ⟨gS, 0, none⟩) 2 2))
  have BT6 := Aside0.mk (put5 (u0 := .int .i64 0) (u1 := .bool true) (u2 := .int .i64 16) (u3 := .string (⟨#[]⟩ : ByteArray)) (u4 := .slice (some ⟨gS, 0, none⟩) 2 2) BT.out)
  have HB6 := Aside0.mk (below5 (below_step HBw.out HB.out) (Nat.le_trans HBw.out.size GT.out) (.int .i64 0) (.bool true) (.int .i64 16) (.string (⟨#[]⟩ : ByteArray)) (.slice (some ⟨gS, 0, none⟩) 2 2))
  clear hgT0 hgT1 hgT2 hgT3 hgT4 fgT0 fgT1 fgT2 fgT3 fgT4 BM BS BT HB
  generalize ((((wJ.setCell ⟨gT, 0, none⟩ (.int .i64 0)).setCell ⟨gT, 1, none⟩ (.bool true)).setCell ⟨gT, 2, none⟩ (.int .i64 16)).setCell ⟨gT, 3, none⟩ (.string (⟨#[]⟩ : ByteArray))).setCell ⟨gT, 4, none⟩ (.slice (some ⟨gS, 0, none⟩) 2 2) = w6 at *
  have hM30 : w6.cell? ⟨gM, 30, none⟩ = some (.slice none 0 0) := (blk_cell BM6.out 30).trans rfl
  have hT0 : w6.cell? ⟨gT, 0, none⟩ = some (.int .i64 0) := (blk_cell BT6.out 0).trans rfl
  have hT1 : w6.cell? ⟨gT, 1, none⟩ = some (.bool true) := (blk_cell BT6.out 1).trans rfl
  have hT2 : w6.cell? ⟨gT, 2, none⟩ = some (.int .i64 16) := (blk_cell BT6.out 2).trans rfl
  have hT3 : w6.cell? ⟨gT, 3, none⟩ = some (.string (⟨#[]⟩ : ByteArray)) := (blk_cell BT6.out 3).trans rfl
  have hT4 : w6.cell? ⟨gT, 4, none⟩ = some (.slice (some ⟨gS, 0, none⟩) 2 2) := (blk_cell BT6.out 4).trans rfl
  go_wp2_with (go_at_call 22; refine (HE.out _ gS A4 c4 (kids_C BS6.out)).mono ?_; rintro e w7 ⟨rfl, hb⟩; have HB7 := Aside0.mk (below_step HB6.out hb); clear hb)
  go_ret2
  exact ⟨rfl, HB7.out⟩
end Go.Proofs.YtghkgclbfjoilaaDoor.Msg
