/- Messages: empty. -/
import Derived.Test.YtghkgclbfjoilaaDoorMsgBare
import Derived.Outline
import Derived.Deep.RegionWith
import Derived.Recover
import Derived.Defers
set_option linter.unusedVariables false
set_option linter.unusedSimpArgs false
namespace Go.Proofs.YtghkgclbfjoilaaDoor.Msg
open Go.RowKit Go.Proofs.YtghkgclbfjoilaaDoorW.PrintWords Go.Proofs.YtghkgclbfjoilaaDoorW.PrintLast Go.Proofs.YtghkgclbfjoilaaDoorW.PrintMore Go.Proofs.YtghkgclbfjoilaaDoor.Pl Go.Proofs.YtghkgclbfjoilaaDoor.R

theorem fieldsM : True := trivial
set_option maxHeartbeats 2000000 in
set_option maxRecDepth 100000 in
theorem empty_yes (C : Array Value) (hz : ∀ i, 2 ≤ i → i < 30 → C[i]? = ZM[i]?) (w : World) : Calls Tryd.prog 38 #[.agg C] w fun e w' => e = .returned (.bool true) ∧ Below w.heap.size w w' := by
  have c2 : C[2]? = some (.int .i64 0) := (hz 2 (by decide) (by decide)).trans rfl
  have c3 : C[3]? = some (.string (⟨#[]⟩ : ByteArray)) := (hz 3 (by decide) (by decide)).trans rfl
  have c4 : C[4]? = some (.bool false) := (hz 4 (by decide) (by decide)).trans rfl
  have c5 : C[5]? = some (.string (⟨#[]⟩ : ByteArray)) := (hz 5 (by decide) (by decide)).trans rfl
  have c6 : C[6]? = some (.string (⟨#[]⟩ : ByteArray)) := (hz 6 (by decide) (by decide)).trans rfl
  have c7 : C[7]? = some (.bool false) := (hz 7 (by decide) (by decide)).trans rfl
  have c8 : C[8]? = some (.string (⟨#[]⟩ : ByteArray)) := (hz 8 (by decide) (by decide)).trans rfl
  have c9 : C[9]? = some (.int .i64 0) := (hz 9 (by decide) (by decide)).trans rfl
  have c10 : C[10]? = some (.string (⟨#[]⟩ : ByteArray)) := (hz 10 (by decide) (by decide)).trans rfl
  have c11 : C[11]? = some (.int .i64 0) := (hz 11 (by decide) (by decide)).trans rfl
  have c12 : C[12]? = some (.int .i64 0) := (hz 12 (by decide) (by decide)).trans rfl
  have c13 : C[13]? = some (.int .i64 0) := (hz 13 (by decide) (by decide)).trans rfl
  have c14 : C[14]? = some (.int .i64 0) := (hz 14 (by decide) (by decide)).trans rfl
  have c15 : C[15]? = some (.bool false) := (hz 15 (by decide) (by decide)).trans rfl
  have c16 : C[16]? = some (.int .i64 0) := (hz 16 (by decide) (by decide)).trans rfl
  have c17 : C[17]? = some (.string (⟨#[]⟩ : ByteArray)) := (hz 17 (by decide) (by decide)).trans rfl
  have c18 : C[18]? = some (.string (⟨#[]⟩ : ByteArray)) := (hz 18 (by decide) (by decide)).trans rfl
  have c19 : C[19]? = some (.string (⟨#[]⟩ : ByteArray)) := (hz 19 (by decide) (by decide)).trans rfl
  have c20 : C[20]? = some (.slice none 0 0) := (hz 20 (by decide) (by decide)).trans rfl
  have c21 : C[21]? = some (.string (⟨#[]⟩ : ByteArray)) := (hz 21 (by decide) (by decide)).trans rfl
  have c22 : C[22]? = some (.slice none 0 0) := (hz 22 (by decide) (by decide)).trans rfl
  have c23 : C[23]? = some (.slice none 0 0) := (hz 23 (by decide) (by decide)).trans rfl
  have c24 : C[24]? = some (.slice none 0 0) := (hz 24 (by decide) (by decide)).trans rfl
  have c25 : C[25]? = some (.slice none 0 0) := (hz 25 (by decide) (by decide)).trans rfl
  have c26 : C[26]? = some (.string (⟨#[]⟩ : ByteArray)) := (hz 26 (by decide) (by decide)).trans rfl
  have c27 : C[27]? = some (.bool false) := (hz 27 (by decide) (by decide)).trans rfl
  have c28 : C[28]? = some (.slice none 0 0) := (hz 28 (by decide) (by decide)).trans rfl
  have c29 : C[29]? = some (.int .i64 0) := (hz 29 (by decide) (by decide)).trans rfl
  clear hz
  have hfl := fieldsM
  go_enter Tryd.func38, Tryd.ntmps38
  go_wp2_with (first | ((with_reducible refine gate_dst (N := 1) rfl ?_); refine box_event ?hg (N := 1) ?hd (cs := C) (t := 30) ?hr ?_; (case hd => rfl); (case hg => rfl); (case hr => first | (go_simp; done) | (go_simp; rfl)); intro gM hg_gM w2 hbox_gM hb_gM; have HM := Aside0.mk (Nat.le_of_eq hg_gM.symm : w.heap.size ≤ gM); have BM := Aside0.mk hbox_gM; have HB := Aside0.mk hb_gM; have hgM_2 : w2.cell? ⟨gM, 2, none⟩ = some (.int .i64 0) := (blk_cell BM.out 2).trans c2; have fgM_2 := blk_frozen BM.out 2; have hgM_3 : w2.cell? ⟨gM, 3, none⟩ = some (.string (⟨#[]⟩ : ByteArray)) := (blk_cell BM.out 3).trans c3; have fgM_3 := blk_frozen BM.out 3; have hgM_4 : w2.cell? ⟨gM, 4, none⟩ = some (.bool false) := (blk_cell BM.out 4).trans c4; have fgM_4 := blk_frozen BM.out 4; have hgM_5 : w2.cell? ⟨gM, 5, none⟩ = some (.string (⟨#[]⟩ : ByteArray)) := (blk_cell BM.out 5).trans c5; have fgM_5 := blk_frozen BM.out 5; have hgM_6 : w2.cell? ⟨gM, 6, none⟩ = some (.string (⟨#[]⟩ : ByteArray)) := (blk_cell BM.out 6).trans c6; have fgM_6 := blk_frozen BM.out 6; have hgM_7 : w2.cell? ⟨gM, 7, none⟩ = some (.bool false) := (blk_cell BM.out 7).trans c7; have fgM_7 := blk_frozen BM.out 7; have hgM_8 : w2.cell? ⟨gM, 8, none⟩ = some (.string (⟨#[]⟩ : ByteArray)) := (blk_cell BM.out 8).trans c8; have fgM_8 := blk_frozen BM.out 8; have hgM_9 : w2.cell? ⟨gM, 9, none⟩ = some (.int .i64 0) := (blk_cell BM.out 9).trans c9; have fgM_9 := blk_frozen BM.out 9; have hgM_10 : w2.cell? ⟨gM, 10, none⟩ = some (.string (⟨#[]⟩ : ByteArray)) := (blk_cell BM.out 10).trans c10; have fgM_10 := blk_frozen BM.out 10; have hgM_11 : w2.cell? ⟨gM, 11, none⟩ = some (.int .i64 0) := (blk_cell BM.out 11).trans c11; have fgM_11 := blk_frozen BM.out 11; have hgM_12 : w2.cell? ⟨gM, 12, none⟩ = some (.int .i64 0) := (blk_cell BM.out 12).trans c12; have fgM_12 := blk_frozen BM.out 12; have hgM_13 : w2.cell? ⟨gM, 13, none⟩ = some (.int .i64 0) := (blk_cell BM.out 13).trans c13; have fgM_13 := blk_frozen BM.out 13; have hgM_14 : w2.cell? ⟨gM, 14, none⟩ = some (.int .i64 0) := (blk_cell BM.out 14).trans c14; have fgM_14 := blk_frozen BM.out 14; have hgM_15 : w2.cell? ⟨gM, 15, none⟩ = some (.bool false) := (blk_cell BM.out 15).trans c15; have fgM_15 := blk_frozen BM.out 15; have hgM_16 : w2.cell? ⟨gM, 16, none⟩ = some (.int .i64 0) := (blk_cell BM.out 16).trans c16; have fgM_16 := blk_frozen BM.out 16; have hgM_17 : w2.cell? ⟨gM, 17, none⟩ = some (.string (⟨#[]⟩ : ByteArray)) := (blk_cell BM.out 17).trans c17; have fgM_17 := blk_frozen BM.out 17; have hgM_18 : w2.cell? ⟨gM, 18, none⟩ = some (.string (⟨#[]⟩ : ByteArray)) := (blk_cell BM.out 18).trans c18; have fgM_18 := blk_frozen BM.out 18; have hgM_19 : w2.cell? ⟨gM, 19, none⟩ = some (.string (⟨#[]⟩ : ByteArray)) := (blk_cell BM.out 19).trans c19; have fgM_19 := blk_frozen BM.out 19; have hgM_20 : w2.cell? ⟨gM, 20, none⟩ = some (.slice none 0 0) := (blk_cell BM.out 20).trans c20; have fgM_20 := blk_frozen BM.out 20; have hgM_21 : w2.cell? ⟨gM, 21, none⟩ = some (.string (⟨#[]⟩ : ByteArray)) := (blk_cell BM.out 21).trans c21; have fgM_21 := blk_frozen BM.out 21; have hgM_22 : w2.cell? ⟨gM, 22, none⟩ = some (.slice none 0 0) := (blk_cell BM.out 22).trans c22; have fgM_22 := blk_frozen BM.out 22; have hgM_23 : w2.cell? ⟨gM, 23, none⟩ = some (.slice none 0 0) := (blk_cell BM.out 23).trans c23; have fgM_23 := blk_frozen BM.out 23; have hgM_24 : w2.cell? ⟨gM, 24, none⟩ = some (.slice none 0 0) := (blk_cell BM.out 24).trans c24; have fgM_24 := blk_frozen BM.out 24; have hgM_25 : w2.cell? ⟨gM, 25, none⟩ = some (.slice none 0 0) := (blk_cell BM.out 25).trans c25; have fgM_25 := blk_frozen BM.out 25; have hgM_26 : w2.cell? ⟨gM, 26, none⟩ = some (.string (⟨#[]⟩ : ByteArray)) := (blk_cell BM.out 26).trans c26; have fgM_26 := blk_frozen BM.out 26; have hgM_27 : w2.cell? ⟨gM, 27, none⟩ = some (.bool false) := (blk_cell BM.out 27).trans c27; have fgM_27 := blk_frozen BM.out 27; have hgM_28 : w2.cell? ⟨gM, 28, none⟩ = some (.slice none 0 0) := (blk_cell BM.out 28).trans c28; have fgM_28 := blk_frozen BM.out 28; have hgM_29 : w2.cell? ⟨gM, 29, none⟩ = some (.int .i64 0) := (blk_cell BM.out 29).trans c29; have fgM_29 := blk_frozen BM.out 29; clear hg_gM hbox_gM hb_gM) | ((with_reducible refine gate_dst (N := 7) rfl ?_); refine box_event ?hg (N := 7) ?hd (cs := #[(.int .i64 0), (.string (⟨#[]⟩ : ByteArray)), (.string (⟨#[]⟩ : ByteArray)), (.string (⟨#[]⟩ : ByteArray)), (.slice none 0 0), (.string (⟨#[]⟩ : ByteArray)), (.slice none 0 0)]) (t := 25) ?hr ?_; (case hd => rfl); (case hg => rfl); (case hr => first | (go_simp; done) | (go_simp; rfl)); intro gF hg_gF w3 hbox_gF hb_gF; have HF := Aside0.mk (Nat.le_trans HB.out.size (Nat.le_of_eq hg_gF.symm) : w.heap.size ≤ gF); have BF := Aside0.mk hbox_gF; have HB3 := Aside0.mk (below_step HB.out hb_gF); have hF0 : w3.cell? ⟨gF, 0, none⟩ = some (.int .i64 0) := (blk_cell hbox_gF 0).trans rfl; have fF0 := blk_frozen hbox_gF 0; have hF1 : w3.cell? ⟨gF, 1, none⟩ = some (.string (⟨#[]⟩ : ByteArray)) := (blk_cell hbox_gF 1).trans rfl; have fF1 := blk_frozen hbox_gF 1; have hF2 : w3.cell? ⟨gF, 2, none⟩ = some (.string (⟨#[]⟩ : ByteArray)) := (blk_cell hbox_gF 2).trans rfl; have fF2 := blk_frozen hbox_gF 2; have hF3 : w3.cell? ⟨gF, 3, none⟩ = some (.string (⟨#[]⟩ : ByteArray)) := (blk_cell hbox_gF 3).trans rfl; have fF3 := blk_frozen hbox_gF 3; have hF4 : w3.cell? ⟨gF, 4, none⟩ = some (.slice none 0 0) := (blk_cell hbox_gF 4).trans rfl; have fF4 := blk_frozen hbox_gF 4; have hF5 : w3.cell? ⟨gF, 5, none⟩ = some (.string (⟨#[]⟩ : ByteArray)) := (blk_cell hbox_gF 5).trans rfl; have fF5 := blk_frozen hbox_gF 5; have hF6 : w3.cell? ⟨gF, 6, none⟩ = some (.slice none 0 0) := (blk_cell hbox_gF 6).trans rfl; have fF6 := blk_frozen hbox_gF 6; clear hg_gF hbox_gF hb_gF))
  go_ret
  exact ⟨rfl, (below_set (below_set (below_set (below_set (below_set (below_set (below_set HB3.out HF.out) HF.out) HF.out) HF.out) HF.out) HF.out) HF.out)⟩
end Go.Proofs.YtghkgclbfjoilaaDoor.Msg

/- Messages: the message that unbinds: ranged, Right. -/
set_option linter.unusedVariables false
set_option linter.unusedSimpArgs false
namespace Go.Proofs.YtghkgclbfjoilaaDoor.Msg
open Go.RowKit Go.Proofs.YtghkgclbfjoilaaDoorW.PrintWords Go.Proofs.YtghkgclbfjoilaaDoorW.PrintLast Go.Proofs.YtghkgclbfjoilaaDoorW.PrintMore Go.Proofs.YtghkgclbfjoilaaDoor.Pl Go.Proofs.YtghkgclbfjoilaaDoor.R

theorem wpList_load_on {P : Program} {ops : Array Oper} {rest : List Oper} {o : Oper} {a : Act} {w : World} {Q : Exit → Act → World → Prop} (hw : Region.wanted o (yielded ops a.tmps) = true) (ty : TypeId) (x : Operand) (ho : o.op = .load ty x)
    (g : Nat) (hx : a.eval x = .pointer (some ⟨g, 0, none⟩)) (t : TypeId) (cs : Array Value) (fr : Nat × Nat) (d : TypeDesc) (hg : w.heap[g]? = some (.cells cs t fr))
    (hu : P.underlying ty = some d) (hd : (match d with | .struct _ | .array _ _ => true | _ => false) = true) (hi : (P.info? ty).map (·.size) = some cs.size)
    (h : wpList P ops Q rest (a.put o.dst (.agg cs)) w) : wpList P ops Q (o :: rest) a w :=
  wpList_step fun K hK => by rw [if_pos hw]; exact wp_load_row ty x ho g hx t cs fr d hg hu hd hi (hK _ _ h)
def unb (i : Int) : Array Value := (ZM.setIfInBounds 0 (.int .i64 i)).setIfInBounds 1 (.int .i64 2)
theorem unb_ok (i : Int) : MA (unb i) := (ZM_ok.set 0 _ rfl).set 1 _ rfl

set_option maxHeartbeats 2000000 in
set_option maxRecDepth 100000 in
theorem ranged_unbind (C : Array Value) (h1 : C[1]? = some (.int .i64 2)) (w : World) : Calls Tryd.prog 37 #[.agg C] w fun e w' => e = .returned (.bool true) ∧ Below w.heap.size w w' := by
  go_enter Tryd.func37, Tryd.ntmps37
  go_wp2_with (first | ((with_reducible refine gate_dst (N := 1) rfl ?_); refine box_event ?hg (N := 1) ?hd (cs := C) (t := 30) ?hr ?_; (case hd => rfl); (case hg => rfl); (case hr => first | (go_simp; done) | (go_simp; rfl)); intro gM hg_gM w2 hbox_gM hb_gM; have HM := Aside0.mk (Nat.le_of_eq hg_gM.symm : w.heap.size ≤ gM); have BM := Aside0.mk hbox_gM; have HB := Aside0.mk hb_gM; have hgM_1 : w2.cell? ⟨gM, 1, none⟩ = some (.int .i64 2) := (blk_cell BM.out 1).trans h1; have fgM_1 := blk_frozen BM.out 1; clear hg_gM hbox_gM hb_gM))
  go_ret
  exact ⟨rfl, HB.out⟩

set_option maxHeartbeats 2000000 in
set_option maxRecDepth 100000 in
theorem right_unbind (C : Array Value) (hC : MA C) (n : Int) (h0 : C[0]? = some (.int .i64 n)) (hn0 : 0 ≤ n) (hn1 : n ≤ 2147483647) (h1 : C[1]? = some (.int .i64 2)) (hz : ∀ i, 2 ≤ i → i < 31 → C[i]? = ZM[i]?) (w : World) :
    Calls Tryd.prog 16 #[.agg C] w fun e w' => e = .returned (.bool true) ∧ Below w.heap.size w w' := by
  have c30 : C[30]? = some (.slice none 0 0) := (hz 30 (by decide) (by decide)).trans rfl
  have HW := Aside0.mk (fun W : World => (show Calls Tryd.prog 36 #[.int .i64 n, .int .i64 0, .int .i64 2147483647] W (fun e w' => e = .returned (.bool true) ∧ W = w') from by have := within_calls n 0 2147483647 W; rwa [decide_eq_true (And.intro hn0 hn1)] at this))
  have HR := Aside0.mk (fun W : World => ranged_unbind C h1 W)
  have HBa := Aside0.mk (fun W : World => bare_unbind C hC h1 W)
  have HE := Aside0.mk (fun W : World => empty_yes (((C.setIfInBounds 0 (.int .i64 0)).setIfInBounds 30 (.slice none 0 0)).setIfInBounds 1 (.int .i64 0)) (fun i h2 h3 => by rw [Array.getElem?_setIfInBounds_ne (by omega), Array.getElem?_setIfInBounds_ne (by omega), Array.getElem?_setIfInBounds_ne (by omega)]; exact hz i h2 (by omega)) W)
  have HS := Aside0.mk hC.sz
  clear hz h1 hC hn0 hn1
  go_enter Tryd.func16, Tryd.ntmps16
  go_wp2_with (first | ((with_reducible refine gate_dst (N := 1) rfl ?_); refine box_event ?hg (N := 1) ?hd (cs := C) (t := 30) ?hr ?_; (case hd => rfl); (case hg => rfl); (case hr => first | (go_simp; done) | (go_simp; rfl)); intro gM hg_gM w2 hbox_gM hb_gM; have HM := Aside0.mk (Nat.le_of_eq hg_gM.symm : w.heap.size ≤ gM); have BM := Aside0.mk hbox_gM; have HB := Aside0.mk hb_gM; have hgM_0 : w2.cell? ⟨gM, 0, none⟩ = some (.int .i64 n) := (blk_cell BM.out 0).trans h0; have fgM_0 := blk_frozen BM.out 0; have hgM_30 : w2.cell? ⟨gM, 30, none⟩ = some (.slice none 0 0) := (blk_cell BM.out 30).trans c30; have fgM_30 := blk_frozen BM.out 30; clear hg_gM hbox_gM hb_gM))
  go_loop [8] (fun i => i = .int .i64 0) (fun _ => 0)
  case atStart => rfl
  case round =>
    subst hrel
    go_wp2_with (first | (go_at_call 36; refine (HW.out _).mono ?_; rintro e w5 ⟨rfl, rfl⟩) | (go_at_call 37; refine (HR.out _).mono ?_; rintro e w6 ⟨rfl, hb6⟩; have BM6 := Aside0.mk (blk_below BM.out hb6); have HB6 := Aside0.mk (below_step HB.out hb6); clear hb6) | (go_at_call 39; refine (HBa.out _).mono ?_; rintro e w7 ⟨rfl, hb7⟩; have HB7 := Aside0.mk (below_step HB6.out hb7); clear hb7) | (go_at_call 38; refine (HE.out _).mono ?_; rintro e w8 ⟨rfl, hb8⟩; have HB8 := Aside0.mk (below_step HB7.out hb8); clear hb8) | ((with_reducible refine gate_dst (N := 25) rfl ?_); refine wpList_load_on (by kernel_rfl) 30 (.tmp 1) rfl gM rfl 30 _ (0, 0) _ BM.out Tryd.underlying30 rfl (by rw [HS.out]; exact infoM) ?_) | ((with_reducible refine gate_dst (N := 29) rfl ?_); refine wpList_load_on (by kernel_rfl) 30 (.tmp 1) rfl gM rfl 30 _ (0, 0) _ BM6.out Tryd.underlying30 rfl (by rw [HS.out]; exact infoM) ?_))
    go_ret
    exact ⟨rfl, HB8.out⟩
end Go.Proofs.YtghkgclbfjoilaaDoor.Msg

/- Messages: the message that unbinds: operation, list, Encode. -/
set_option linter.unusedVariables false
set_option linter.unusedSimpArgs false
namespace Go.Proofs.YtghkgclbfjoilaaDoor.Msg
open Go.RowKit Go.Proofs.YtghkgclbfjoilaaDoorW.PrintWords Go.Proofs.YtghkgclbfjoilaaDoorW.PrintLast Go.Proofs.YtghkgclbfjoilaaDoorW.PrintMore Go.Proofs.YtghkgclbfjoilaaDoor.Pl Go.Proofs.YtghkgclbfjoilaaDoor.R

set_option maxHeartbeats 2000000 in
set_option maxRecDepth 100000 in
theorem list_any (A : Option Addr) (n c : Nat) (w : World) : Calls Tryd.prog 17 #[.slice A n c] w fun e w' => e = .returned (.agg #[.int .i64 0, .bool true, .int .i64 16, .string (⟨#[]⟩ : ByteArray), .slice A n c]) ∧ Below w.heap.size w w' := by
  have hu44 := Tryd.underlying44
  go_enter Tryd.func17, Tryd.ntmps17
  go_wp2_with (first | ((with_reducible refine gate_dst (N := 2) rfl ?_); refine box_event ?hg (N := 2) ?hd (cs := #[.int .i64 0, .bool false, .int .i64 0, .string (⟨#[]⟩ : ByteArray), .slice none 0 0]) (t := 44) ?hr ?_; (case hd => rfl); (case hg => rfl); (case hr => first | (go_simp; done) | (go_simp; rfl)); intro gR hg_gR w2 hbox_gR hb_gR; have hgR0 : w2.cell? ⟨gR, 0, none⟩ = some (.int .i64 0) := (blk_cell hbox_gR 0).trans rfl; have hgR1 : w2.cell? ⟨gR, 1, none⟩ = some (.bool false) := (blk_cell hbox_gR 1).trans rfl; have hgR2 : w2.cell? ⟨gR, 2, none⟩ = some (.int .i64 0) := (blk_cell hbox_gR 2).trans rfl; have hgR3 : w2.cell? ⟨gR, 3, none⟩ = some (.string (⟨#[]⟩ : ByteArray)) := (blk_cell hbox_gR 3).trans rfl; have hgR4 : w2.cell? ⟨gR, 4, none⟩ = some (.slice none 0 0) := (blk_cell hbox_gR 4).trans rfl; have fgR0 := blk_frozen hbox_gR 0; have fgR1 := blk_frozen hbox_gR 1; have fgR2 := blk_frozen hbox_gR 2; have fgR3 := blk_frozen hbox_gR 3; have fgR4 := blk_frozen hbox_gR 4; have HG := Aside0.mk (Nat.le_of_eq hg_gR.symm : w.heap.size ≤ gR); have BK := Aside0.mk hbox_gR; have HB := Aside0.mk hb_gR; clear hg_gR hbox_gR hb_gR))
  refine bodyPost_ret (results_cell_row (p := 2) (ty := 44) rfl _ _ gR 44 #[.int .i64 0, .bool true, .int .i64 16, .string (⟨#[]⟩ : ByteArray), .slice A n c] (0, 0) _ rfl (put5 BK.out) Tryd.underlying44 rfl (by kernel_rfl)) rfl ?_
  exact ⟨rfl, below5 HB.out HG.out _ _ _ _ _⟩

set_option maxHeartbeats 2000000 in
set_option maxRecDepth 100000 in
theorem operation_unbind (C : Array Value) (h1 : C[1]? = some (.int .i64 2)) (w : World) : Calls Tryd.prog 19 #[.agg C] w fun e w' => e = .returned (.agg #[.int .i64 1, .bool false, .int .i64 2, .string (⟨#[]⟩ : ByteArray), .slice none 0 0]) ∧ Below w.heap.size w w' := by
  have hu44 := Tryd.underlying44
  go_enter Tryd.func19, Tryd.ntmps19
  go_wp2_with (first | ((with_reducible refine gate_dst (N := 1) rfl ?_); refine box_event ?hg (N := 1) ?hd (cs := C) (t := 30) ?hr ?_; (case hd => rfl); (case hg => rfl); (case hr => first | (go_simp; done) | (go_simp; rfl)); intro gM hg_gM w2 hbox_gM hb_gM; have HM := Aside0.mk (Nat.le_of_eq hg_gM.symm : w.heap.size ≤ gM); have BM := Aside0.mk hbox_gM; have HB := Aside0.mk hb_gM; have hgM_1 : w2.cell? ⟨gM, 1, none⟩ = some (.int .i64 2) := (blk_cell BM.out 1).trans h1; have fgM_1 := blk_frozen BM.out 1; clear hg_gM hbox_gM hb_gM) | ((with_reducible refine gate_dst (N := 2) rfl ?_); refine box_event ?hg (N := 2) ?hd (cs := #[.int .i64 0, .bool false, .int .i64 0, .string (⟨#[]⟩ : ByteArray), .slice none 0 0]) (t := 44) ?hr ?_; (case hd => rfl); (case hg => rfl); (case hr => first | (go_simp; done) | (go_simp; rfl)); intro gR hg_gR w3 hbox_gR hb_gR; have hgR0 : w3.cell? ⟨gR, 0, none⟩ = some (.int .i64 0) := (blk_cell hbox_gR 0).trans rfl; have hgR1 : w3.cell? ⟨gR, 1, none⟩ = some (.bool false) := (blk_cell hbox_gR 1).trans rfl; have hgR2 : w3.cell? ⟨gR, 2, none⟩ = some (.int .i64 0) := (blk_cell hbox_gR 2).trans rfl; have hgR3 : w3.cell? ⟨gR, 3, none⟩ = some (.string (⟨#[]⟩ : ByteArray)) := (blk_cell hbox_gR 3).trans rfl; have hgR4 : w3.cell? ⟨gR, 4, none⟩ = some (.slice none 0 0) := (blk_cell hbox_gR 4).trans rfl; have fgR0 := blk_frozen hbox_gR 0; have fgR1 := blk_frozen hbox_gR 1; have fgR2 := blk_frozen hbox_gR 2; have fgR3 := blk_frozen hbox_gR 3; have fgR4 := blk_frozen hbox_gR 4; have HG := Aside0.mk (Nat.le_trans HB.out.size (Nat.le_of_eq hg_gR.symm) : w.heap.size ≤ gR); have BK := Aside0.mk hbox_gR; have HB3 := Aside0.mk (below_step HB.out hb_gR); have BM3 := Aside0.mk (blk_below BM.out hb_gR); have hM3 : w3.cell? ⟨gM, 1, none⟩ = some (.int .i64 2) := (blk_cell BM3.out 1).trans h1; clear hg_gR hbox_gR hb_gR) | ((with_reducible refine gate_dst (N := 3) rfl ?_); refine box_event ?hg (N := 3) ?hd (cs := #[.int .i64 0, .bool false, .int .i64 0, .string (⟨#[]⟩ : ByteArray), .slice none 0 0]) (t := 44) ?hr ?_; (case hd => rfl); (case hg => rfl); (case hr => first | (go_simp; done) | (go_simp; rfl)); intro gT hg_gT w4 hbox_gT hb_gT; have hgT0 : w4.cell? ⟨gT, 0, none⟩ = some (.int .i64 0) := (blk_cell hbox_gT 0).trans rfl; have hgT1 : w4.cell? ⟨gT, 1, none⟩ = some (.bool false) := (blk_cell hbox_gT 1).trans rfl; have hgT2 : w4.cell? ⟨gT, 2, none⟩ = some (.int .i64 0) := (blk_cell hbox_gT 2).trans rfl; have hgT3 : w4.cell? ⟨gT, 3, none⟩ = some (.string (⟨#[]⟩ : ByteArray)) := (blk_cell hbox_gT 3).trans rfl; have hgT4 : w4.cell? ⟨gT, 4, none⟩ = some (.slice none 0 0) := (blk_cell hbox_gT 4).trans rfl; have fgT0 := blk_frozen hbox_gT 0; have fgT1 := blk_frozen hbox_gT 1; have fgT2 := blk_frozen hbox_gT 2; have fgT3 := blk_frozen hbox_gT 3; have fgT4 := blk_frozen hbox_gT 4; have HT := Aside0.mk (Nat.le_trans HB3.out.size (Nat.le_of_eq hg_gT.symm) : w.heap.size ≤ gT); have BT := Aside0.mk hbox_gT; have lT := Aside0.mk (hg_gT ▸ And.intro (Nat.ne_of_lt (blk_lt BK.out)) (Nat.ne_of_lt (blk_lt BM3.out)) : gR ≠ gT ∧ gM ≠ gT); have HB4 := Aside0.mk (below_step HB3.out hb_gT); have BM4 := Aside0.mk (blk_below BM3.out hb_gT); have BK4 := Aside0.mk (blk_below BK.out hb_gT); have n1 := lT.out.1; have n2 := lT.out.2; have n1' := lT.out.1.symm; have n2' := lT.out.2.symm; have hM4 : w4.cell? ⟨gM, 1, none⟩ = some (.int .i64 2) := (blk_cell BM4.out 1).trans h1; clear hg_gT hbox_gT hb_gT; have hR0 : w4.cell? ⟨gR, 0, none⟩ = some (.int .i64 0) := (blk_cell BK4.out 0).trans rfl; have hR1 : w4.cell? ⟨gR, 1, none⟩ = some (.bool false) := (blk_cell BK4.out 1).trans rfl; have hR2 : w4.cell? ⟨gR, 2, none⟩ = some (.int .i64 0) := (blk_cell BK4.out 2).trans rfl; have hR3 : w4.cell? ⟨gR, 3, none⟩ = some (.string (⟨#[]⟩ : ByteArray)) := (blk_cell BK4.out 3).trans rfl; have hR4 : w4.cell? ⟨gR, 4, none⟩ = some (.slice none 0 0) := (blk_cell BK4.out 4).trans rfl; have fR0 := blk_frozen BK4.out 0; have fR1 := blk_frozen BK4.out 1; have fR2 := blk_frozen BK4.out 2; have fR3 := blk_frozen BK4.out 3; have fR4 := blk_frozen BK4.out 4))
  refine bodyPost_ret (results_cell_row (p := 2) (ty := 44) rfl _ _ gR 44 #[.int .i64 1, .bool false, .int .i64 2, .string (⟨#[]⟩ : ByteArray), .slice none 0 0] (0, 0) _ rfl (put5 (far5b BK4.out lT.out.1.symm _ _ _ _ _)) Tryd.underlying44 rfl (by kernel_rfl)) rfl ?_
  exact ⟨rfl, below5 (below5 HB4.out HT.out _ _ _ _ _) HG.out _ _ _ _ _⟩
end Go.Proofs.YtghkgclbfjoilaaDoor.Msg

/- Messages: readOperation of the unbinding value; Decode's deferred closure. -/
set_option linter.unusedVariables false
set_option linter.unusedSimpArgs false
namespace Go.Proofs.YtghkgclbfjoilaaDoor.Msg
open Go.RowKit Go.Proofs.YtghkgclbfjoilaaDoorW.PrintWords Go.Proofs.YtghkgclbfjoilaaDoorW.PrintLast Go.Proofs.YtghkgclbfjoilaaDoorW.PrintMore Go.Proofs.YtghkgclbfjoilaaDoor.Pl Go.Proofs.YtghkgclbfjoilaaDoor.R

theorem put5v {W : World} {g : Nat} {t : TypeId} {v0 v1 v2 v3 v4 u0 u1 u2 u3 u4 : Value} (h : W.heap[g]? = some (.cells #[v0, v1, v2, v3, v4] t (0, 0))) :
    (((((W.setCell ⟨g, 0, none⟩ u0).setCell ⟨g, 1, none⟩ u1).setCell ⟨g, 2, none⟩ u2).setCell ⟨g, 3, none⟩ u3).setCell ⟨g, 4, none⟩ u4).heap[g]? = some (.cells #[u0, u1, u2, u3, u4] t (0, 0)) := put5 h
set_option maxHeartbeats 2000000 in
set_option maxRecDepth 100000 in
theorem readOp_unbind (gm : Nat) (C : Array Value) (A : Option Addr) (n c : Nat) (w : World) (hm : w.heap[gm]? = some (.cells C 30 (0, 0))) (hC : MA C) :
    Calls Tryd.prog 27 #[.agg #[.int .i64 1, .bool false, .int .i64 2, .string (⟨#[]⟩ : ByteArray), .slice A n c], .pointer (some ⟨gm, 0, none⟩)] w fun e w' => e = .returned (.tuple #[]) ∧ w'.heap[gm]? = some (.cells (C.setIfInBounds 1 (.int .i64 2)) 30 (0, 0)) ∧ Kp [gm] w w' := by
  obtain ⟨v1, c1⟩ := hC.get 1 (by decide)
  have hl := blk_lt hm
  have HMB := Aside0.mk hm
  clear hm
  have hu44 := Tryd.underlying44
  go_enter Tryd.func27, Tryd.ntmps27
  go_wp2_with (first | ((with_reducible refine gate_dst (N := 2) rfl ?_); refine box_event ?hg (N := 2) ?hd (cs := #[.int .i64 1, .bool false, .int .i64 2, .string (⟨#[]⟩ : ByteArray), .slice A n c]) (t := 44) ?hr ?_; (case hd => rfl); (case hg => rfl); (case hr => first | (go_simp; done) | (go_simp; rfl)); intro gT hg_gT w2 hbox_gT hb_gT; have HG := Aside0.mk (Nat.le_of_eq hg_gT.symm : w.heap.size ≤ gT); have BT := Aside0.mk hbox_gT; have HB := Aside0.mk hb_gT; have BM := Aside0.mk (blk_below HMB.out hb_gT); have nT := (hg_gT ▸ Nat.ne_of_lt hl : gm ≠ gT); have nT' := nT.symm; clear hg_gT hbox_gT hb_gT; have hM1 : w2.cell? ⟨gm, 1, none⟩ = some v1 := (blk_cell BM.out 1).trans c1; have fM1 := blk_frozen BM.out 1; have hT0 : w2.cell? ⟨gT, 0, none⟩ = some (.int .i64 1) := (blk_cell BT.out 0).trans rfl; have hT1 : w2.cell? ⟨gT, 1, none⟩ = some (.bool false) := (blk_cell BT.out 1).trans rfl; have hT2 : w2.cell? ⟨gT, 2, none⟩ = some (.int .i64 2) := (blk_cell BT.out 2).trans rfl; have hT3 : w2.cell? ⟨gT, 3, none⟩ = some (.string (⟨#[]⟩ : ByteArray)) := (blk_cell BT.out 3).trans rfl))
  refine bodyPost_end (results_none rfl _ _ _) rfl ⟨rfl, blk_st BM.out 1 _, (Kp.below HB.out).trans (Kp.set w2 gm 1 _ (.inl (List.mem_singleton.mpr rfl)))⟩

/-! the closure -/
set_option maxHeartbeats 2000000 in
set_option maxRecDepth 100000 in
theorem mcatch_idle (p q : Addr) (w : World) :
    CallsD Tryd.prog 25 #[.pointer (some p), .pointer (some q)] .returning w fun e u' w' => e = .returned (.tuple #[]) ∧ u' = .returning ∧ w' = w := by
  refine callsD_of_wpS Tryd.func25 rfl fun c₀ cs hu => ?_
  apply wpS_seq
  apply wpS_region
  simp [wpOpsS, go_sem, recoverD, hu, Tryd.ntmps25, Exit.thenS]
  refine wpS_of_wp ?_
  go_wp2_with fail
  cases c₀
  simp_all [bodyPostS, results, Tryd.results25]
end Go.Proofs.YtghkgclbfjoilaaDoor.Msg
