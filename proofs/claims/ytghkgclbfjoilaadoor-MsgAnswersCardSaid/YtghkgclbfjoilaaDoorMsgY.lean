/- Messages: awake: the example message goes through Encode, Decode and the comparison. -/
import Derived.Test.YtghkgclbfjoilaaDoorMsgQ
import Derived.Test.YtghkgclbfjoilaaDoorMsgS
import Derived.Outline
import Derived.Test.YtghkgclbfjoilaaDoorMsgM
set_option linter.unusedVariables false
set_option linter.unusedSimpArgs false
namespace Go.Proofs.YtghkgclbfjoilaaDoor.Msg
open Go.RowKit Go.Proofs.YtghkgclbfjoilaaDoorW.PrintWords Go.Proofs.YtghkgclbfjoilaaDoorW.PrintLast Go.Proofs.YtghkgclbfjoilaaDoorW.PrintMore Go.Proofs.YtghkgclbfjoilaaDoor.Pl Go.Proofs.YtghkgclbfjoilaaDoor.R Go.Proofs.YtghkgclbfjoilaaDoor.Dec

theorem wpList_value {P : Program} {ops : Array Oper} {rest : List Oper} {o : Oper} {a : Act} {w : World} {Q : Exit → Act → World → Prop} (hw : Region.wanted o (yielded ops a.tmps) = true) {v : Value} (hrun : (execOp a.eval o).run P w = .ok (.value v) w)
    (h : wpList P ops Q rest (a.put o.dst v) w) : wpList P ops Q (o :: rest) a w := wpList_step fun K hK => value_ hw rfl hrun (hK _ _ h)
def exS : ByteArray := ⟨#[48, 5, 2, 1, 3, 66, 0]⟩
def exA : S44 := ⟨0, false, 2, ⟨#[3]⟩, []⟩
theorem ex_dec : decF exS = (⟨0, true, 16, ⟨#[]⟩, [exA, ⟨1, false, 2, ⟨#[]⟩, []⟩]⟩, exS.size, 0) := by kernel_rfl
theorem ex_is : isB exA 0 2 false = true := by kernel_rfl
theorem ex_num : numV exA = 3 := by kernel_rfl
theorem ex_ok : numOk exA 0 2147483647 := by
  have h : numP exA.f1 (L exA.f3) = (3, 0) := by kernel_rfl
  unfold numOk
  rw [h]
  decide
theorem ex_of : ∃ k, ber_OfNumber.f k 0 2 3 = some (0, false, 2, ⟨#[3]⟩, []) := ⟨20, by kernel_rfl⟩
theorem ex_enc : ∃ k, ber_Encode.f k 0 true 16 ⟨#[]⟩ [⟨0, false, 2, ⟨#[3]⟩, []⟩, ⟨1, false, 2, ⟨#[]⟩, []⟩] = some (exS, 0) := ⟨40, by kernel_rfl⟩
set_option maxHeartbeats 4000000 in
set_option maxRecDepth 100000 in
theorem awake_calls (w : World) : Calls Tryd.prog 6 #[] w fun e w' => e = .returned (.bool true) ∧ Kp [] w w' := by
  have HEn := Aside0.mk (fun W : World => encode_unbind 3 (by decide) (by decide) ⟨#[3]⟩ exS ex_of ex_enc W)
  have HDe := Aside0.mk (fun W : World => (show Calls Tryd.prog 9 #[.string exS] W (fun e w' => e = .returned (.tuple #[.agg (unb 3), .int .i64 0]) ∧ Kp [] W w') from by have h := decode_unbind exS (by decide) exA ex_dec ex_is ex_ok W; rwa [ex_num] at h))
  have HSa := Aside0.mk (fun W : World => same_unb 3 W)
  have HS := Aside0.mk (show (unb 3).size = 31 from (unb_ok 3).sz)
  have hq : exS.toList = [48, 5, 2, 1, 3, 66, 0] := by kernel_rfl
  go_enter Tryd.func6, Tryd.ntmps6
  go_wp2_with (first | ((with_reducible refine gate_dst (N := 6) rfl ?_); refine wpList_value (v := .agg (unb 3)) (by kernel_rfl) (by kernel_rfl) ?_) | (go_at_call 8; refine (HEn.out _).mono ?_; rintro e w2 ⟨rfl, hb⟩; have HK2 := Aside0.mk (Kp.below (s := []) hb); clear hb) | (go_at_call 9; refine (HDe.out _).mono ?_; rintro e w3 ⟨rfl, hk⟩; have HK3 := Aside0.mk (HK2.out.trans hk); clear hk) | ((with_reducible refine gate_dst (N := 3) rfl ?_); refine box_event ?hg (N := 3) ?hd (cs := ZM) (t := 30) ?hr ?_; (case hd => rfl); (case hg => rfl); (case hr => first | (go_simp; done) | (go_simp; rfl)); intro gM hg1 w4 hbox hb2; have BM4 := Aside0.mk hbox; have HK4 := Aside0.mk (kp_below HK3.out hb2); have GM := Aside0.mk (hg1 ▸ HK3.out.1 : w.heap.size ≤ gM); clear hbox hb2 hg1) | ((with_reducible refine gate_store (t := 30) (p := 3) (v := .tmp 13) rfl ?_); refine wpList_store_row rfl 30 (.tmp 3) (.tmp 13) rfl gM _ rfl rfl 30 ZM BM4.out (by rw [HS.out]; exact infoM) rfl (unb_ok 3).one ?_; have BM5 := Aside0.mk (blk_row (D := unb 3) BM4.out); have HK5 := Aside0.mk (kp_row (D := unb 3) HK4.out GM.out)) | ((with_reducible refine gate_dst (N := 26) rfl ?_); refine wpList_load_on (by kernel_rfl) 30 (.tmp 3) rfl gM rfl 30 (unb 3) (0, 0) _ BM5.out Tryd.underlying30 rfl (by rw [HS.out]; exact infoM) ?_) | ((with_reducible refine gate_dst (N := 27) rfl ?_); refine wpList_value (v := .agg (unb 3)) (by kernel_rfl) (by kernel_rfl) ?_) | (go_at_call 13; refine (HSa.out _).mono ?_; rintro e w6 ⟨rfl, hb⟩; have HK6 := Aside0.mk (kp_below HK5.out hb); clear hb))
  go_ret
  exact ⟨rfl, HK6.out⟩
end Go.Proofs.YtghkgclbfjoilaaDoor.Msg

/- Messages: Answer over the laid table. -/
set_option linter.unusedVariables false
set_option linter.unusedSimpArgs false
namespace Go.Proofs.YtghkgclbfjoilaaDoor.Msg
open Go.RowKit Go.Proofs.YtghkgclbfjoilaaDoorW.PrintWords Go.Proofs.YtghkgclbfjoilaaDoorW.PrintLast Go.Proofs.YtghkgclbfjoilaaDoorW.PrintMore Go.Proofs.YtghkgclbfjoilaaDoor.Pl Go.Proofs.YtghkgclbfjoilaaDoor.R

theorem wpList_val {P : Program} {ops : Array Oper} {rest : List Oper} {o : Oper} {a : Act} {w : World} {Q : Exit → Act → World → Prop} (hw : Region.wanted o (yielded ops a.tmps) = true) {v : Value} (hrun : (execOp a.eval o).run P w = .ok (.value v) w)
    (h : wpList P ops Q rest (a.put o.dst v) w) : wpList P ops Q (o :: rest) a w := wpList_step fun K hK => value_ hw rfl hrun (hK _ _ h)
def tblP : List (Int × Int) := [(0, 1), (3, 5), (6, 7), (8, 9), (10, 11), (12, 13), (14, 15), (23, 24)]
def tbl16 : List Int := [0, 1, 3, 5, 6, 7, 8, 9, 10, 11, 12, 13, 14, 15, 23, 24]
def ansL : List (Int × Int) → Int → Int
  | [], _ => -1
  | (a, b) :: r, op => if a = op then b else ansL r op
def Laid (w : World) : Prop := ∀ i, i < 16 → w.cell? ⟨0, i, none⟩ = some (.int .i64 (tbl16.getD i 0))
set_option maxHeartbeats 4000000 in
set_option maxRecDepth 100000 in
theorem answer_calls (op : Int) (w : World) (hL : Laid w) : Calls Tryd.prog 10 #[.int .i64 op] w fun e w' => e = .returned (.int .i64 (ansL tblP op)) ∧ Below w.heap.size w w' := by
  have c0 : w.cell? ⟨0, 0, none⟩ = some (.int .i64 0) := hL 0 (by decide)
  have c1 : w.cell? ⟨0, 1, none⟩ = some (.int .i64 1) := hL 1 (by decide)
  have c2 : w.cell? ⟨0, 2, none⟩ = some (.int .i64 3) := hL 2 (by decide)
  have c3 : w.cell? ⟨0, 3, none⟩ = some (.int .i64 5) := hL 3 (by decide)
  have c4 : w.cell? ⟨0, 4, none⟩ = some (.int .i64 6) := hL 4 (by decide)
  have c5 : w.cell? ⟨0, 5, none⟩ = some (.int .i64 7) := hL 5 (by decide)
  have c6 : w.cell? ⟨0, 6, none⟩ = some (.int .i64 8) := hL 6 (by decide)
  have c7 : w.cell? ⟨0, 7, none⟩ = some (.int .i64 9) := hL 7 (by decide)
  have c8 : w.cell? ⟨0, 8, none⟩ = some (.int .i64 10) := hL 8 (by decide)
  have c9 : w.cell? ⟨0, 9, none⟩ = some (.int .i64 11) := hL 9 (by decide)
  have c10 : w.cell? ⟨0, 10, none⟩ = some (.int .i64 12) := hL 10 (by decide)
  have c11 : w.cell? ⟨0, 11, none⟩ = some (.int .i64 13) := hL 11 (by decide)
  have c12 : w.cell? ⟨0, 12, none⟩ = some (.int .i64 14) := hL 12 (by decide)
  have c13 : w.cell? ⟨0, 13, none⟩ = some (.int .i64 15) := hL 13 (by decide)
  have c14 : w.cell? ⟨0, 14, none⟩ = some (.int .i64 23) := hL 14 (by decide)
  have c15 : w.cell? ⟨0, 15, none⟩ = some (.int .i64 24) := hL 15 (by decide)
  clear hL
  obtain ⟨R, hR⟩ : ∃ R, ansL tblP op = R := ⟨_, rfl⟩
  rw [hR]
  have HR := Aside0.mk hR
  clear hR
  go_enter Tryd.func10, Tryd.ntmps10
  go_wp2_with fail
  go_loopw [6] (fun v6 wr => ∃ j : Nat, v6 = .int .i64 (j : Int) ∧ j ≤ 8 ∧ Aside0 (ansL (tblP.drop j) op = R) ∧ Aside0 (Below w.heap.size w wr)) (fun v6 _ => 8 - (intOf v6).toNat)
  case atStart => exact ⟨0, rfl, by decide, HR, ⟨Below.refl _ _⟩⟩
  case round =>
    clear HR c0 c1 c2 c3 c4 c5 c6 c7 c8 c9 c10 c11 c12 c13 c14 c15
    obtain ⟨j, rfl, hj, HR, HB⟩ := hrel
    have hj9 : j = 0 ∨ j = 1 ∨ j = 2 ∨ j = 3 ∨ j = 4 ∨ j = 5 ∨ j = 6 ∨ j = 7 ∨ j = 8 := by omega
    clear hj
    rcases hj9 with rfl | rfl | rfl | rfl | rfl | rfl | rfl | rfl | rfl
    · by_cases he : (0 : Int) = op
      · have hR : R = 1 := HR.out.symm.trans (if_pos he)
        subst hR
        subst he
        clear HR
        go_wp2_with ((with_reducible refine gate_dst (N := 8) rfl ?_); refine wpList_val (v := .agg #[.int .i64 0, .int .i64 1]) (by kernel_rfl) (by kernel_rfl) ?_)
        go_ret
        refine ⟨rfl, ?_⟩
        repeat (first | exact HB.out | refine below_set ?_ HB.out.size | refine below_alloc ?_ _)
      · have hb : ((0 : Int) == op) = false := beq_eq_false_iff_ne.mpr he
        have HR2 := Aside0.mk (show ansL (tblP.drop 1) op = R from (if_neg he).symm.trans HR.out)
        clear HR he
        go_wp2_with ((with_reducible refine gate_dst (N := 8) rfl ?_); refine wpList_val (v := .agg #[.int .i64 0, .int .i64 1]) (by kernel_rfl) (by kernel_rfl) ?_)
        go_roundw
        case measure => simp [intOf]
        case rel =>
          refine ⟨1, by first | rfl | (simp; done) | go_num, by decide, HR2, ⟨?_⟩⟩
          repeat (first | exact HB.out | refine below_set ?_ HB.out.size | refine below_alloc ?_ _)
    · by_cases he : (3 : Int) = op
      · have hR : R = 5 := HR.out.symm.trans (if_pos he)
        subst hR
        subst he
        clear HR
        go_wp2_with ((with_reducible refine gate_dst (N := 8) rfl ?_); refine wpList_val (v := .agg #[.int .i64 3, .int .i64 5]) (by kernel_rfl) (by kernel_rfl) ?_)
        go_ret
        refine ⟨rfl, ?_⟩
        repeat (first | exact HB.out | refine below_set ?_ HB.out.size | refine below_alloc ?_ _)
      · have hb : ((3 : Int) == op) = false := beq_eq_false_iff_ne.mpr he
        have HR2 := Aside0.mk (show ansL (tblP.drop 2) op = R from (if_neg he).symm.trans HR.out)
        clear HR he
        go_wp2_with ((with_reducible refine gate_dst (N := 8) rfl ?_); refine wpList_val (v := .agg #[.int .i64 3, .int .i64 5]) (by kernel_rfl) (by kernel_rfl) ?_)
        go_roundw
        case measure => simp [intOf]
        case rel =>
          refine ⟨2, by first | rfl | (simp; done) | go_num, by decide, HR2, ⟨?_⟩⟩
          repeat (first | exact HB.out | refine below_set ?_ HB.out.size | refine below_alloc ?_ _)
    · by_cases he : (6 : Int) = op
      · have hR : R = 7 := HR.out.symm.trans (if_pos he)
        subst hR
        subst he
        clear HR
        go_wp2_with ((with_reducible refine gate_dst (N := 8) rfl ?_); refine wpList_val (v := .agg #[.int .i64 6, .int .i64 7]) (by kernel_rfl) (by kernel_rfl) ?_)
        go_ret
        refine ⟨rfl, ?_⟩
        repeat (first | exact HB.out | refine below_set ?_ HB.out.size | refine below_alloc ?_ _)
      · have hb : ((6 : Int) == op) = false := beq_eq_false_iff_ne.mpr he
        have HR2 := Aside0.mk (show ansL (tblP.drop 3) op = R from (if_neg he).symm.trans HR.out)
        clear HR he
        go_wp2_with ((with_reducible refine gate_dst (N := 8) rfl ?_); refine wpList_val (v := .agg #[.int .i64 6, .int .i64 7]) (by kernel_rfl) (by kernel_rfl) ?_)
        go_roundw
        case measure => simp [intOf]
        case rel =>
          refine ⟨3, by first | rfl | (simp; done) | go_num, by decide, HR2, ⟨?_⟩⟩
          repeat (first | exact HB.out | refine below_set ?_ HB.out.size | refine below_alloc ?_ _)
    · by_cases he : (8 : Int) = op
      · have hR : R = 9 := HR.out.symm.trans (if_pos he)
        subst hR
        subst he
        clear HR
        go_wp2_with ((with_reducible refine gate_dst (N := 8) rfl ?_); refine wpList_val (v := .agg #[.int .i64 8, .int .i64 9]) (by kernel_rfl) (by kernel_rfl) ?_)
        go_ret
        refine ⟨rfl, ?_⟩
        repeat (first | exact HB.out | refine below_set ?_ HB.out.size | refine below_alloc ?_ _)
      · have hb : ((8 : Int) == op) = false := beq_eq_false_iff_ne.mpr he
        have HR2 := Aside0.mk (show ansL (tblP.drop 4) op = R from (if_neg he).symm.trans HR.out)
        clear HR he
        go_wp2_with ((with_reducible refine gate_dst (N := 8) rfl ?_); refine wpList_val (v := .agg #[.int .i64 8, .int .i64 9]) (by kernel_rfl) (by kernel_rfl) ?_)
        go_roundw
        case measure => simp [intOf]
        case rel =>
          refine ⟨4, by first | rfl | (simp; done) | go_num, by decide, HR2, ⟨?_⟩⟩
          repeat (first | exact HB.out | refine below_set ?_ HB.out.size | refine below_alloc ?_ _)
    · by_cases he : (10 : Int) = op
      · have hR : R = 11 := HR.out.symm.trans (if_pos he)
        subst hR
        subst he
        clear HR
        go_wp2_with ((with_reducible refine gate_dst (N := 8) rfl ?_); refine wpList_val (v := .agg #[.int .i64 10, .int .i64 11]) (by kernel_rfl) (by kernel_rfl) ?_)
        go_ret
        refine ⟨rfl, ?_⟩
        repeat (first | exact HB.out | refine below_set ?_ HB.out.size | refine below_alloc ?_ _)
      · have hb : ((10 : Int) == op) = false := beq_eq_false_iff_ne.mpr he
        have HR2 := Aside0.mk (show ansL (tblP.drop 5) op = R from (if_neg he).symm.trans HR.out)
        clear HR he
        go_wp2_with ((with_reducible refine gate_dst (N := 8) rfl ?_); refine wpList_val (v := .agg #[.int .i64 10, .int .i64 11]) (by kernel_rfl) (by kernel_rfl) ?_)
        go_roundw
        case measure => simp [intOf]
        case rel =>
          refine ⟨5, by first | rfl | (simp; done) | go_num, by decide, HR2, ⟨?_⟩⟩
          repeat (first | exact HB.out | refine below_set ?_ HB.out.size | refine below_alloc ?_ _)
    · by_cases he : (12 : Int) = op
      · have hR : R = 13 := HR.out.symm.trans (if_pos he)
        subst hR
        subst he
        clear HR
        go_wp2_with ((with_reducible refine gate_dst (N := 8) rfl ?_); refine wpList_val (v := .agg #[.int .i64 12, .int .i64 13]) (by kernel_rfl) (by kernel_rfl) ?_)
        go_ret
        refine ⟨rfl, ?_⟩
        repeat (first | exact HB.out | refine below_set ?_ HB.out.size | refine below_alloc ?_ _)
      · have hb : ((12 : Int) == op) = false := beq_eq_false_iff_ne.mpr he
        have HR2 := Aside0.mk (show ansL (tblP.drop 6) op = R from (if_neg he).symm.trans HR.out)
        clear HR he
        go_wp2_with ((with_reducible refine gate_dst (N := 8) rfl ?_); refine wpList_val (v := .agg #[.int .i64 12, .int .i64 13]) (by kernel_rfl) (by kernel_rfl) ?_)
        go_roundw
        case measure => simp [intOf]
        case rel =>
          refine ⟨6, by first | rfl | (simp; done) | go_num, by decide, HR2, ⟨?_⟩⟩
          repeat (first | exact HB.out | refine below_set ?_ HB.out.size | refine below_alloc ?_ _)
    · by_cases he : (14 : Int) = op
      · have hR : R = 15 := HR.out.symm.trans (if_pos he)
        subst hR
        subst he
        clear HR
        go_wp2_with ((with_reducible refine gate_dst (N := 8) rfl ?_); refine wpList_val (v := .agg #[.int .i64 14, .int .i64 15]) (by kernel_rfl) (by kernel_rfl) ?_)
        go_ret
        refine ⟨rfl, ?_⟩
        repeat (first | exact HB.out | refine below_set ?_ HB.out.size | refine below_alloc ?_ _)
      · have hb : ((14 : Int) == op) = false := beq_eq_false_iff_ne.mpr he
        have HR2 := Aside0.mk (show ansL (tblP.drop 7) op = R from (if_neg he).symm.trans HR.out)
        clear HR he
        go_wp2_with ((with_reducible refine gate_dst (N := 8) rfl ?_); refine wpList_val (v := .agg #[.int .i64 14, .int .i64 15]) (by kernel_rfl) (by kernel_rfl) ?_)
        go_roundw
        case measure => simp [intOf]
        case rel =>
          refine ⟨7, by first | rfl | (simp; done) | go_num, by decide, HR2, ⟨?_⟩⟩
          repeat (first | exact HB.out | refine below_set ?_ HB.out.size | refine below_alloc ?_ _)
    · by_cases he : (23 : Int) = op
      · have hR : R = 24 := HR.out.symm.trans (if_pos he)
        subst hR
        subst he
        clear HR
        go_wp2_with ((with_reducible refine gate_dst (N := 8) rfl ?_); refine wpList_val (v := .agg #[.int .i64 23, .int .i64 24]) (by kernel_rfl) (by kernel_rfl) ?_)
        go_ret
        refine ⟨rfl, ?_⟩
        repeat (first | exact HB.out | refine below_set ?_ HB.out.size | refine below_alloc ?_ _)
      · have hb : ((23 : Int) == op) = false := beq_eq_false_iff_ne.mpr he
        have HR2 := Aside0.mk (show ansL (tblP.drop 8) op = R from (if_neg he).symm.trans HR.out)
        clear HR he
        go_wp2_with ((with_reducible refine gate_dst (N := 8) rfl ?_); refine wpList_val (v := .agg #[.int .i64 23, .int .i64 24]) (by kernel_rfl) (by kernel_rfl) ?_)
        go_roundw
        case measure => simp [intOf]
        case rel =>
          refine ⟨8, by first | rfl | (simp; done) | go_num, by decide, HR2, ⟨?_⟩⟩
          repeat (first | exact HB.out | refine below_set ?_ HB.out.size | refine below_alloc ?_ _)
    · have hR : R = -1 := HR.out.symm
      subst hR
      clear HR
      go_wp2_with fail
      go_ret
      exact ⟨rfl, HB.out⟩
end Go.Proofs.YtghkgclbfjoilaaDoor.Msg

/- Messages: the law MsgAnswers walked. -/
set_option linter.unusedVariables false
set_option linter.unusedSimpArgs false
namespace Go.Proofs.YtghkgclbfjoilaaDoor.Msg
open Go.RowKit Go.Proofs.YtghkgclbfjoilaaDoorW.PrintWords Go.Proofs.YtghkgclbfjoilaaDoorW.PrintLast Go.Proofs.YtghkgclbfjoilaaDoorW.PrintMore Go.Proofs.YtghkgclbfjoilaaDoor.Pl Go.Proofs.YtghkgclbfjoilaaDoor.R

theorem Kp.frame {w w' : World} (h : Kp [] w w') (may : MemPlace → Prop) : w.keptBut w' may := by
  refine ⟨h.3.1, h.3.2, fun i hi => ?_⟩
  rw [h.2 i hi (by simp)]
  split <;> simp_all
theorem laid_kp {w w' : World} (h : Laid w) (hk : Kp [] w w') : Laid w' := fun i hi => by
  have h0 := h i hi
  rw [← h0]
  exact cell_at (hk.2 0 (World.block_lt_of_cell? w _ h0) (by simp))
set_option maxHeartbeats 4000000 in
set_option maxRecDepth 100000 in
theorem msgAnswers_calls (op : Int) (w : World) (hL : Laid w) : Calls Tryd.prog 4 #[.int .i64 op] w fun e w' => e = .returned (.bool true) ∧ Kp [] w w' := by
  have HA := Aside0.mk (fun W : World => awake_calls W)
  have HL := Aside0.mk hL
  clear hL
  by_cases h0 : op = 0
  · subst h0
    have HB := Aside0.mk (fun (W : World) (h : Laid W) => (show Calls Tryd.prog 10 #[.int .i64 0] W (fun e w' => e = .returned (.int .i64 1) ∧ Below W.heap.size W w') from answer_calls 0 W h))
    go_enter Tryd.func4, Tryd.ntmps4
    go_wp2_with (first | (go_at_call 6; refine (HA.out _).mono ?_; rintro e w2 ⟨rfl, hk⟩; have HK := Aside0.mk hk; clear hk) | (go_at_call 10; refine (HB.out _ (laid_kp HL.out HK.out)).mono ?_; rintro e w3 ⟨rfl, hb⟩; have HK3 := Aside0.mk (kp_below HK.out hb); clear hb))
    go_ret
    exact ⟨rfl, HK3.out⟩
  by_cases h3 : op = 3
  · subst h3
    have HB := Aside0.mk (fun (W : World) (h : Laid W) => (show Calls Tryd.prog 10 #[.int .i64 3] W (fun e w' => e = .returned (.int .i64 5) ∧ Below W.heap.size W w') from answer_calls 3 W h))
    go_enter Tryd.func4, Tryd.ntmps4
    go_wp2_with (first | (go_at_call 6; refine (HA.out _).mono ?_; rintro e w2 ⟨rfl, hk⟩; have HK := Aside0.mk hk; clear hk) | (go_at_call 10; refine (HB.out _ (laid_kp HL.out HK.out)).mono ?_; rintro e w3 ⟨rfl, hb⟩; have HK3 := Aside0.mk (kp_below HK.out hb); clear hb))
    go_ret
    exact ⟨rfl, HK3.out⟩
  by_cases h6 : op = 6
  · subst h6
    have HB := Aside0.mk (fun (W : World) (h : Laid W) => (show Calls Tryd.prog 10 #[.int .i64 6] W (fun e w' => e = .returned (.int .i64 7) ∧ Below W.heap.size W w') from answer_calls 6 W h))
    go_enter Tryd.func4, Tryd.ntmps4
    go_wp2_with (first | (go_at_call 6; refine (HA.out _).mono ?_; rintro e w2 ⟨rfl, hk⟩; have HK := Aside0.mk hk; clear hk) | (go_at_call 10; refine (HB.out _ (laid_kp HL.out HK.out)).mono ?_; rintro e w3 ⟨rfl, hb⟩; have HK3 := Aside0.mk (kp_below HK.out hb); clear hb))
    go_ret
    exact ⟨rfl, HK3.out⟩
  by_cases h8 : op = 8
  · subst h8
    have HB := Aside0.mk (fun (W : World) (h : Laid W) => (show Calls Tryd.prog 10 #[.int .i64 8] W (fun e w' => e = .returned (.int .i64 9) ∧ Below W.heap.size W w') from answer_calls 8 W h))
    go_enter Tryd.func4, Tryd.ntmps4
    go_wp2_with (first | (go_at_call 6; refine (HA.out _).mono ?_; rintro e w2 ⟨rfl, hk⟩; have HK := Aside0.mk hk; clear hk) | (go_at_call 10; refine (HB.out _ (laid_kp HL.out HK.out)).mono ?_; rintro e w3 ⟨rfl, hb⟩; have HK3 := Aside0.mk (kp_below HK.out hb); clear hb))
    go_ret
    exact ⟨rfl, HK3.out⟩
  by_cases h10 : op = 10
  · subst h10
    have HB := Aside0.mk (fun (W : World) (h : Laid W) => (show Calls Tryd.prog 10 #[.int .i64 10] W (fun e w' => e = .returned (.int .i64 11) ∧ Below W.heap.size W w') from answer_calls 10 W h))
    go_enter Tryd.func4, Tryd.ntmps4
    go_wp2_with (first | (go_at_call 6; refine (HA.out _).mono ?_; rintro e w2 ⟨rfl, hk⟩; have HK := Aside0.mk hk; clear hk) | (go_at_call 10; refine (HB.out _ (laid_kp HL.out HK.out)).mono ?_; rintro e w3 ⟨rfl, hb⟩; have HK3 := Aside0.mk (kp_below HK.out hb); clear hb))
    go_ret
    exact ⟨rfl, HK3.out⟩
  by_cases h12 : op = 12
  · subst h12
    have HB := Aside0.mk (fun (W : World) (h : Laid W) => (show Calls Tryd.prog 10 #[.int .i64 12] W (fun e w' => e = .returned (.int .i64 13) ∧ Below W.heap.size W w') from answer_calls 12 W h))
    go_enter Tryd.func4, Tryd.ntmps4
    go_wp2_with (first | (go_at_call 6; refine (HA.out _).mono ?_; rintro e w2 ⟨rfl, hk⟩; have HK := Aside0.mk hk; clear hk) | (go_at_call 10; refine (HB.out _ (laid_kp HL.out HK.out)).mono ?_; rintro e w3 ⟨rfl, hb⟩; have HK3 := Aside0.mk (kp_below HK.out hb); clear hb))
    go_ret
    exact ⟨rfl, HK3.out⟩
  by_cases h14 : op = 14
  · subst h14
    have HB := Aside0.mk (fun (W : World) (h : Laid W) => (show Calls Tryd.prog 10 #[.int .i64 14] W (fun e w' => e = .returned (.int .i64 15) ∧ Below W.heap.size W w') from answer_calls 14 W h))
    go_enter Tryd.func4, Tryd.ntmps4
    go_wp2_with (first | (go_at_call 6; refine (HA.out _).mono ?_; rintro e w2 ⟨rfl, hk⟩; have HK := Aside0.mk hk; clear hk) | (go_at_call 10; refine (HB.out _ (laid_kp HL.out HK.out)).mono ?_; rintro e w3 ⟨rfl, hb⟩; have HK3 := Aside0.mk (kp_below HK.out hb); clear hb))
    go_ret
    exact ⟨rfl, HK3.out⟩
  by_cases h23 : op = 23
  · subst h23
    have HB := Aside0.mk (fun (W : World) (h : Laid W) => (show Calls Tryd.prog 10 #[.int .i64 23] W (fun e w' => e = .returned (.int .i64 24) ∧ Below W.heap.size W w') from answer_calls 23 W h))
    go_enter Tryd.func4, Tryd.ntmps4
    go_wp2_with (first | (go_at_call 6; refine (HA.out _).mono ?_; rintro e w2 ⟨rfl, hk⟩; have HK := Aside0.mk hk; clear hk) | (go_at_call 10; refine (HB.out _ (laid_kp HL.out HK.out)).mono ?_; rintro e w3 ⟨rfl, hb⟩; have HK3 := Aside0.mk (kp_below HK.out hb); clear hb))
    go_ret
    exact ⟨rfl, HK3.out⟩
  have b0 : (op == 0) = false := beq_eq_false_iff_ne.mpr h0
  have b3 : (op == 3) = false := beq_eq_false_iff_ne.mpr h3
  have b6 : (op == 6) = false := beq_eq_false_iff_ne.mpr h6
  have b8 : (op == 8) = false := beq_eq_false_iff_ne.mpr h8
  have b10 : (op == 10) = false := beq_eq_false_iff_ne.mpr h10
  have b12 : (op == 12) = false := beq_eq_false_iff_ne.mpr h12
  have b14 : (op == 14) = false := beq_eq_false_iff_ne.mpr h14
  have b23 : (op == 23) = false := beq_eq_false_iff_ne.mpr h23
  have ha : ansL tblP op = -1 := by
    unfold tblP
    simp only [ansL]
    rw [if_neg (Ne.symm h0), if_neg (Ne.symm h3), if_neg (Ne.symm h6), if_neg (Ne.symm h8), if_neg (Ne.symm h10), if_neg (Ne.symm h12), if_neg (Ne.symm h14), if_neg (Ne.symm h23)]
  have HB := Aside0.mk (fun (W : World) (h : Laid W) => (show Calls Tryd.prog 10 #[.int .i64 op] W (fun e w' => e = .returned (.int .i64 (-1)) ∧ Below W.heap.size W w') from by have := answer_calls op W h; rwa [ha] at this))
  clear ha h0 h3 h6 h8 h10 h12 h14 h23
  go_enter Tryd.func4, Tryd.ntmps4
  go_wp2_with (first | (go_at_call 6; refine (HA.out _).mono ?_; rintro e w2 ⟨rfl, hk⟩; have HK := Aside0.mk hk; clear hk) | (go_at_call 10; refine (HB.out _ (laid_kp HL.out HK.out)).mono ?_; rintro e w3 ⟨rfl, hb⟩; have HK3 := Aside0.mk (kp_below HK.out hb); clear hb))
  go_ret
  exact ⟨rfl, HK3.out⟩
end Go.Proofs.YtghkgclbfjoilaaDoor.Msg
