-- Written by a program of this claim (wip/tools/pp.py) out of the translation.
import Derived.Test.YtghkgclbfjoilaaDoorR0
import Derived.Test.YtghkgclbfjoilaaDoorR1
import Derived.Test.YtghkgclbfjoilaaDoorR3
namespace Go.Proofs.YtghkgclbfjoilaaDoor.R
open Go.RowKit Go.Proofs.YtghkgclbfjoilaaDoorW.PrintWords Go.Proofs.YtghkgclbfjoilaaDoorW.PrintLast Go.Proofs.YtghkgclbfjoilaaDoorW.PrintMore
attribute [local go_sem] max2_int min2_int max_two min_two max_three min_three max_four min_four   -- for this text's walks alone
set_option linter.unusedVariables false
set_option linter.unusedSimpArgs false

/-! ### ber_Encode: function 22 -/
def ber_Encode.f (k : Nat) (a0_0 : Int) (a0_1 : Bool) (a0_2 : Int) (a0_3 : ByteArray) (l0_4 : List (S44)) : Option (ByteArray × Int) := (ber_Right.f k a0_0 a0_1 a0_2 a0_3 l0_4).bind fun t154 => (if t154 = true then ((ber_encode.f k a0_0 a0_1 a0_2 a0_3 l0_4).bind fun bt155 => (if bt155.2 = true then (some (bt155.1, 0)) else (some ((⟨#[]⟩ : ByteArray), 5)))) else (some ((⟨#[]⟩ : ByteArray), 4)))
theorem ber_Encode.mono : ∀ a0 a1 a2 a3 a4 k, LeO (ber_Encode.f k a0 a1 a2 a3 a4) (ber_Encode.f (k + 1) a0 a1 a2 a3 a4) := by
  intro a0 a1 a2 a3 a4 k
  unfold ber_Encode.f
  repeat' first
      | (with_reducible exact ber_Right.mono _ _ _ _ _ _)
      | (with_reducible exact ber_encode.mono _ _ _ _ _ _)
      | (with_reducible exact LeO.refl _)
      | (with_reducible exact LeO.none _)
      | (with_reducible refine LeO.ite ?_ ?_)
      | (with_reducible refine LeO.bind ?_ (fun _ => ?_))
      | exact ber_Right.mono _ _ _ _ _ _
      | exact ber_encode.mono _ _ _ _ _ _
      | exact LeO.none _
      | refine LeO.ite ?_ ?_
      | refine LeO.bind ?_ (fun _ => ?_)
set_option maxHeartbeats 8000000 in
set_option maxRecDepth 100000 in
theorem ber_Encode.calls (k : Nat) (a0_0 : Int) (a0_1 : Bool) (a0_2 : Int) (a0_3 : ByteArray) (A0_4 : Option Addr) (c0_4 : Nat) (l0_4 : List (S44)) (r1 : ByteArray) (r2 : Int) (w : World) (hr0_4 : Kd.C k44 w A0_4 l0_4.length l0_4) (hc0_4 : l0_4.length ≤ c0_4) (h : ber_Encode.f k a0_0 a0_1 a0_2 a0_3 l0_4 = some (r1, r2)) :
    Calls Tryd.prog 22 #[.agg #[.int .i64 a0_0, .bool a0_1, .int .i64 a0_2, .string a0_3, .slice A0_4 l0_4.length c0_4]] w fun e w' => e = .returned (.tuple #[.string r1, .int .i64 r2]) ∧ Below w.heap.size w w' := by
  have hu44 := Tryd.underlying44
  have HR0_4 := Aside0.mk hr0_4
  have HC0_4 := Aside0.mk hc0_4
  clear hr0_4 hc0_4
  have HB := Aside0.mk (Below.refl w.heap.size w)
  have H : ((ber_Right.f k a0_0 a0_1 a0_2 a0_3 l0_4).bind fun t154 => (if t154 = true then ((ber_encode.f k a0_0 a0_1 a0_2 a0_3 l0_4).bind fun bt155 => (if bt155.2 = true then (some (bt155.1, 0)) else (some ((⟨#[]⟩ : ByteArray), 5)))) else (some ((⟨#[]⟩ : ByteArray), 4)))) = some (r1, r2) := h
  clear h
  replace H := Option.bind_eq_some_iff.mp H
  obtain ⟨t154, A20, H⟩ := H
  replace H : (if t154 = true then ((ber_encode.f k a0_0 a0_1 a0_2 a0_3 l0_4).bind fun bt155 => (if bt155.2 = true then (some (bt155.1, 0)) else (some ((⟨#[]⟩ : ByteArray), 5)))) else (some ((⟨#[]⟩ : ByteArray), 4))) = some (r1, r2) := H
  have A2 := Aside0.mk A20
  clear A20
  by_cases c3 : t154 = true
  · subst c3
    have H1 : ((ber_encode.f k a0_0 a0_1 a0_2 a0_3 l0_4).bind fun bt155 => (if bt155.2 = true then (some (bt155.1, 0)) else (some ((⟨#[]⟩ : ByteArray), 5)))) = some (r1, r2) := by rw [if_pos rfl] at H; exact H
    clear H
    have H := H1
    clear H1
    replace H := Option.bind_eq_some_iff.mp H
    obtain ⟨⟨t155, t156⟩, A40, H⟩ := H
    replace H : (if t156 = true then (some (t155, 0)) else (some ((⟨#[]⟩ : ByteArray), 5))) = some (r1, r2) := H
    have A4 := Aside0.mk A40
    clear A40
    by_cases c5 : t156 = true
    · subst c5
      have H1 : (some (t155, 0)) = some (r1, r2) := by rw [if_pos rfl] at H; exact H
      clear H
      have H := H1
      clear H1
      simp only [Option.some.injEq, Prod.mk.injEq] at H
      obtain ⟨rfl, rfl⟩ := H
      go_enter Tryd.func22, Tryd.ntmps22
      go_wp2_with (first | ((with_reducible refine gate_dst (N := 1) rfl ?_); refine box_event ?hg (N := 1) ?hd (cs := #[.int .i64 a0_0, .bool a0_1, .int .i64 a0_2, .string a0_3, .slice A0_4 l0_4.length c0_4]) (t := 44) ?hr ?_; (case hd => rfl); (case hg => rfl); (case hr => first | (go_simp; done) | (go_simp; rfl)); intro gb153 hg w6 hbox hb; have n0_ := Aside0.mk (below_step (by repeat (first | (with_reducible first | exact HB.out | apply below_alloc | apply pw_below_drewN | apply below_drew1) | exact HB.out)) hb); have n1_ := Aside0.mk (hbox); have n2_ := Aside0.mk ((by rw [hg]; exact (below_size (by repeat (first | (with_reducible first | exact HB.out | apply below_alloc | apply pw_below_drewN | apply below_drew1) | exact HB.out))) : w.heap.size ≤ gb153)); have n3_ := Aside0.mk ((by rw [hg]; exact (below_size (by repeat (first | (with_reducible first | exact HB.out | apply below_alloc | apply pw_below_drewN | apply below_drew1) | exact HB.out))) : w.heap.size ≤ gb153)); clear HB; have HB := n0_; have BK153 := n1_; have GW153 := n2_; have GE153 := n3_; clear n0_ n1_ n2_ n3_; clear hb hbox hg; have hcz7_0 : w6.cell? ⟨gb153, 0, none⟩ = some (.int .i64 a0_0) := (blk_cell BK153.out 0).trans rfl; have hcz7_1 : w6.cell? ⟨gb153, 1, none⟩ = some (.bool a0_1) := (blk_cell BK153.out 1).trans rfl; have hcz7_2 : w6.cell? ⟨gb153, 2, none⟩ = some (.int .i64 a0_2) := (blk_cell BK153.out 2).trans rfl; have hcz7_3 : w6.cell? ⟨gb153, 3, none⟩ = some (.string a0_3) := (blk_cell BK153.out 3).trans rfl; have hcz7_4 : w6.cell? ⟨gb153, 4, none⟩ = some (.slice A0_4 l0_4.length c0_4) := (blk_cell BK153.out 4).trans rfl; have hfz7_0 := blk_frozen BK153.out 0; have hfz7_1 := blk_frozen BK153.out 1; have hfz7_2 := blk_frozen BK153.out 2; have hfz7_3 := blk_frozen BK153.out 3; have hfz7_4 := blk_frozen BK153.out 4) | ((with_reducible refine gate_callee (f := 43) rfl ?_); refine goesL_ (some 7) rfl rfl Tryd.func43 (by kernel_rfl) rfl #[.agg #[.int .i64 a0_0, .bool a0_1, .int .i64 a0_2, .string a0_3, .slice A0_4 l0_4.length c0_4]] rfl (by (try simp only [List.map_toArray, List.map_cons, List.map_nil]); first | done | rfl | (simp only [List.length_drop, List.length_take]; rfl)) ?_; (with_reducible refine (ber_Right.calls k a0_0 a0_1 a0_2 a0_3 _ _ l0_4 true _ ?side1 ?side2 A2.out).mono ?_); (case side1 => repeat (first | exact (Kd.C_below HR0_4.out HB.out) | (with_reducible refine Kd.C_alloc ?_ _) | (with_reducible refine Kd.C_drewN ?_ _) | (with_reducible refine Kd.C_drew ?_))); (case side2 => exact HC0_4.out); rintro e w8 ⟨rfl, hb⟩; refine ⟨_, rfl, ?_⟩; have n0_ := Aside0.mk (blk_below (g := gb153) (o := .cells #[.int .i64 a0_0, .bool a0_1, .int .i64 a0_2, .string a0_3, .slice A0_4 l0_4.length c0_4] 44 (0, 0)) (by (with_reducible repeat (first | refine blk_drewN ?_ _ | refine blk_drew ?_ | refine blk_alloc ?_ _)); exact BK153.out) hb); have n1_ := Aside0.mk (below_step (by repeat (first | (with_reducible first | exact HB.out | apply below_alloc | apply pw_below_drewN | apply below_drew1 | refine below_set ?_ GE153.out) | exact HB.out)) hb); clear BK153; clear HB; have BK153 := n0_; have HB := n1_; clear n0_ n1_; (try clear hb); (try clear hb2); (try clear hk); (try clear hi); have hcz9_0 : w8.cell? ⟨gb153, 0, none⟩ = some (.int .i64 a0_0) := (blk_cell BK153.out 0).trans rfl; have hcz9_1 : w8.cell? ⟨gb153, 1, none⟩ = some (.bool a0_1) := (blk_cell BK153.out 1).trans rfl; have hcz9_2 : w8.cell? ⟨gb153, 2, none⟩ = some (.int .i64 a0_2) := (blk_cell BK153.out 2).trans rfl; have hcz9_3 : w8.cell? ⟨gb153, 3, none⟩ = some (.string a0_3) := (blk_cell BK153.out 3).trans rfl; have hcz9_4 : w8.cell? ⟨gb153, 4, none⟩ = some (.slice A0_4 l0_4.length c0_4) := (blk_cell BK153.out 4).trans rfl; have hfz9_0 := blk_frozen BK153.out 0; have hfz9_1 := blk_frozen BK153.out 1; have hfz9_2 := blk_frozen BK153.out 2; have hfz9_3 := blk_frozen BK153.out 3; have hfz9_4 := blk_frozen BK153.out 4) | ((with_reducible refine gate_callee (f := 44) rfl ?_); refine goesL_ (some 11) rfl rfl Tryd.func44 (by kernel_rfl) rfl #[.agg #[.int .i64 a0_0, .bool a0_1, .int .i64 a0_2, .string a0_3, .slice A0_4 l0_4.length c0_4]] rfl (by (try simp only [List.map_toArray, List.map_cons, List.map_nil]); first | done | rfl | (simp only [List.length_drop, List.length_take]; rfl)) ?_; (with_reducible refine (ber_encode.calls k a0_0 a0_1 a0_2 a0_3 _ _ l0_4 t155 true _ ?side1 ?side2 A4.out).mono ?_); (case side1 => repeat (first | exact (Kd.C_below HR0_4.out HB.out) | (with_reducible refine Kd.C_alloc ?_ _) | (with_reducible refine Kd.C_drewN ?_ _) | (with_reducible refine Kd.C_drew ?_))); (case side2 => exact HC0_4.out); rintro e w10 ⟨rfl, hb⟩; refine ⟨_, rfl, ?_⟩; have n0_ := Aside0.mk (blk_below (g := gb153) (o := .cells #[.int .i64 a0_0, .bool a0_1, .int .i64 a0_2, .string a0_3, .slice A0_4 l0_4.length c0_4] 44 (0, 0)) (by (with_reducible repeat (first | refine blk_drewN ?_ _ | refine blk_drew ?_ | refine blk_alloc ?_ _)); exact BK153.out) hb); have n1_ := Aside0.mk (below_step (by repeat (first | (with_reducible first | exact HB.out | apply below_alloc | apply pw_below_drewN | apply below_drew1 | refine below_set ?_ GE153.out) | exact HB.out)) hb); clear BK153; clear HB; have BK153 := n0_; have HB := n1_; clear n0_ n1_; (try clear hb); (try clear hb2); (try clear hk); (try clear hi)))
      go_ret2
      exact ⟨by first | rfl | (simp [errW_none, errW_some] <;> rfl) | (simp [*, errW_none, errW_some] <;> rfl), by repeat (first | (with_reducible first | exact HB.out | apply below_alloc | apply pw_below_drewN | apply below_drew1 | refine below_set ?_ GE153.out) | exact HB.out)⟩
    · replace c5 := Bool.eq_false_iff.mpr c5
      subst c5
      have H1 : (some ((⟨#[]⟩ : ByteArray), 5)) = some (r1, r2) := by rw [if_neg (show ¬ (false = true) by decide)] at H; exact H
      clear H
      have H := H1
      clear H1
      simp only [Option.some.injEq, Prod.mk.injEq] at H
      obtain ⟨rfl, rfl⟩ := H
      go_enter Tryd.func22, Tryd.ntmps22
      go_wp2_with (first | ((with_reducible refine gate_dst (N := 1) rfl ?_); refine box_event ?hg (N := 1) ?hd (cs := #[.int .i64 a0_0, .bool a0_1, .int .i64 a0_2, .string a0_3, .slice A0_4 l0_4.length c0_4]) (t := 44) ?hr ?_; (case hd => rfl); (case hg => rfl); (case hr => first | (go_simp; done) | (go_simp; rfl)); intro gb153 hg w11 hbox hb; have n0_ := Aside0.mk (below_step (by repeat (first | (with_reducible first | exact HB.out | apply below_alloc | apply pw_below_drewN | apply below_drew1) | exact HB.out)) hb); have n1_ := Aside0.mk (hbox); have n2_ := Aside0.mk ((by rw [hg]; exact (below_size (by repeat (first | (with_reducible first | exact HB.out | apply below_alloc | apply pw_below_drewN | apply below_drew1) | exact HB.out))) : w.heap.size ≤ gb153)); have n3_ := Aside0.mk ((by rw [hg]; exact (below_size (by repeat (first | (with_reducible first | exact HB.out | apply below_alloc | apply pw_below_drewN | apply below_drew1) | exact HB.out))) : w.heap.size ≤ gb153)); clear HB; have HB := n0_; have BK153 := n1_; have GW153 := n2_; have GE153 := n3_; clear n0_ n1_ n2_ n3_; clear hb hbox hg; have hcz12_0 : w11.cell? ⟨gb153, 0, none⟩ = some (.int .i64 a0_0) := (blk_cell BK153.out 0).trans rfl; have hcz12_1 : w11.cell? ⟨gb153, 1, none⟩ = some (.bool a0_1) := (blk_cell BK153.out 1).trans rfl; have hcz12_2 : w11.cell? ⟨gb153, 2, none⟩ = some (.int .i64 a0_2) := (blk_cell BK153.out 2).trans rfl; have hcz12_3 : w11.cell? ⟨gb153, 3, none⟩ = some (.string a0_3) := (blk_cell BK153.out 3).trans rfl; have hcz12_4 : w11.cell? ⟨gb153, 4, none⟩ = some (.slice A0_4 l0_4.length c0_4) := (blk_cell BK153.out 4).trans rfl; have hfz12_0 := blk_frozen BK153.out 0; have hfz12_1 := blk_frozen BK153.out 1; have hfz12_2 := blk_frozen BK153.out 2; have hfz12_3 := blk_frozen BK153.out 3; have hfz12_4 := blk_frozen BK153.out 4) | ((with_reducible refine gate_callee (f := 43) rfl ?_); refine goesL_ (some 7) rfl rfl Tryd.func43 (by kernel_rfl) rfl #[.agg #[.int .i64 a0_0, .bool a0_1, .int .i64 a0_2, .string a0_3, .slice A0_4 l0_4.length c0_4]] rfl (by (try simp only [List.map_toArray, List.map_cons, List.map_nil]); first | done | rfl | (simp only [List.length_drop, List.length_take]; rfl)) ?_; (with_reducible refine (ber_Right.calls k a0_0 a0_1 a0_2 a0_3 _ _ l0_4 true _ ?side1 ?side2 A2.out).mono ?_); (case side1 => repeat (first | exact (Kd.C_below HR0_4.out HB.out) | (with_reducible refine Kd.C_alloc ?_ _) | (with_reducible refine Kd.C_drewN ?_ _) | (with_reducible refine Kd.C_drew ?_))); (case side2 => exact HC0_4.out); rintro e w13 ⟨rfl, hb⟩; refine ⟨_, rfl, ?_⟩; have n0_ := Aside0.mk (blk_below (g := gb153) (o := .cells #[.int .i64 a0_0, .bool a0_1, .int .i64 a0_2, .string a0_3, .slice A0_4 l0_4.length c0_4] 44 (0, 0)) (by (with_reducible repeat (first | refine blk_drewN ?_ _ | refine blk_drew ?_ | refine blk_alloc ?_ _)); exact BK153.out) hb); have n1_ := Aside0.mk (below_step (by repeat (first | (with_reducible first | exact HB.out | apply below_alloc | apply pw_below_drewN | apply below_drew1 | refine below_set ?_ GE153.out) | exact HB.out)) hb); clear BK153; clear HB; have BK153 := n0_; have HB := n1_; clear n0_ n1_; (try clear hb); (try clear hb2); (try clear hk); (try clear hi); have hcz14_0 : w13.cell? ⟨gb153, 0, none⟩ = some (.int .i64 a0_0) := (blk_cell BK153.out 0).trans rfl; have hcz14_1 : w13.cell? ⟨gb153, 1, none⟩ = some (.bool a0_1) := (blk_cell BK153.out 1).trans rfl; have hcz14_2 : w13.cell? ⟨gb153, 2, none⟩ = some (.int .i64 a0_2) := (blk_cell BK153.out 2).trans rfl; have hcz14_3 : w13.cell? ⟨gb153, 3, none⟩ = some (.string a0_3) := (blk_cell BK153.out 3).trans rfl; have hcz14_4 : w13.cell? ⟨gb153, 4, none⟩ = some (.slice A0_4 l0_4.length c0_4) := (blk_cell BK153.out 4).trans rfl; have hfz14_0 := blk_frozen BK153.out 0; have hfz14_1 := blk_frozen BK153.out 1; have hfz14_2 := blk_frozen BK153.out 2; have hfz14_3 := blk_frozen BK153.out 3; have hfz14_4 := blk_frozen BK153.out 4) | ((with_reducible refine gate_callee (f := 44) rfl ?_); refine goesL_ (some 11) rfl rfl Tryd.func44 (by kernel_rfl) rfl #[.agg #[.int .i64 a0_0, .bool a0_1, .int .i64 a0_2, .string a0_3, .slice A0_4 l0_4.length c0_4]] rfl (by (try simp only [List.map_toArray, List.map_cons, List.map_nil]); first | done | rfl | (simp only [List.length_drop, List.length_take]; rfl)) ?_; (with_reducible refine (ber_encode.calls k a0_0 a0_1 a0_2 a0_3 _ _ l0_4 t155 false _ ?side1 ?side2 A4.out).mono ?_); (case side1 => repeat (first | exact (Kd.C_below HR0_4.out HB.out) | (with_reducible refine Kd.C_alloc ?_ _) | (with_reducible refine Kd.C_drewN ?_ _) | (with_reducible refine Kd.C_drew ?_))); (case side2 => exact HC0_4.out); rintro e w15 ⟨rfl, hb⟩; refine ⟨_, rfl, ?_⟩; have n0_ := Aside0.mk (blk_below (g := gb153) (o := .cells #[.int .i64 a0_0, .bool a0_1, .int .i64 a0_2, .string a0_3, .slice A0_4 l0_4.length c0_4] 44 (0, 0)) (by (with_reducible repeat (first | refine blk_drewN ?_ _ | refine blk_drew ?_ | refine blk_alloc ?_ _)); exact BK153.out) hb); have n1_ := Aside0.mk (below_step (by repeat (first | (with_reducible first | exact HB.out | apply below_alloc | apply pw_below_drewN | apply below_drew1 | refine below_set ?_ GE153.out) | exact HB.out)) hb); clear BK153; clear HB; have BK153 := n0_; have HB := n1_; clear n0_ n1_; (try clear hb); (try clear hb2); (try clear hk); (try clear hi)))
      go_ret2
      exact ⟨by first | rfl | (simp [errW_none, errW_some] <;> rfl) | (simp [*, errW_none, errW_some] <;> rfl), by repeat (first | (with_reducible first | exact HB.out | apply below_alloc | apply pw_below_drewN | apply below_drew1 | refine below_set ?_ GE153.out) | exact HB.out)⟩
  · replace c3 := Bool.eq_false_iff.mpr c3
    subst c3
    have H1 : (some ((⟨#[]⟩ : ByteArray), 4)) = some (r1, r2) := by rw [if_neg (show ¬ (false = true) by decide)] at H; exact H
    clear H
    have H := H1
    clear H1
    simp only [Option.some.injEq, Prod.mk.injEq] at H
    obtain ⟨rfl, rfl⟩ := H
    go_enter Tryd.func22, Tryd.ntmps22
    go_wp2_with (first | ((with_reducible refine gate_dst (N := 1) rfl ?_); refine box_event ?hg (N := 1) ?hd (cs := #[.int .i64 a0_0, .bool a0_1, .int .i64 a0_2, .string a0_3, .slice A0_4 l0_4.length c0_4]) (t := 44) ?hr ?_; (case hd => rfl); (case hg => rfl); (case hr => first | (go_simp; done) | (go_simp; rfl)); intro gb153 hg w16 hbox hb; have n0_ := Aside0.mk (below_step (by repeat (first | (with_reducible first | exact HB.out | apply below_alloc | apply pw_below_drewN | apply below_drew1) | exact HB.out)) hb); have n1_ := Aside0.mk (hbox); have n2_ := Aside0.mk ((by rw [hg]; exact (below_size (by repeat (first | (with_reducible first | exact HB.out | apply below_alloc | apply pw_below_drewN | apply below_drew1) | exact HB.out))) : w.heap.size ≤ gb153)); have n3_ := Aside0.mk ((by rw [hg]; exact (below_size (by repeat (first | (with_reducible first | exact HB.out | apply below_alloc | apply pw_below_drewN | apply below_drew1) | exact HB.out))) : w.heap.size ≤ gb153)); clear HB; have HB := n0_; have BK153 := n1_; have GW153 := n2_; have GE153 := n3_; clear n0_ n1_ n2_ n3_; clear hb hbox hg; have hcz17_0 : w16.cell? ⟨gb153, 0, none⟩ = some (.int .i64 a0_0) := (blk_cell BK153.out 0).trans rfl; have hcz17_1 : w16.cell? ⟨gb153, 1, none⟩ = some (.bool a0_1) := (blk_cell BK153.out 1).trans rfl; have hcz17_2 : w16.cell? ⟨gb153, 2, none⟩ = some (.int .i64 a0_2) := (blk_cell BK153.out 2).trans rfl; have hcz17_3 : w16.cell? ⟨gb153, 3, none⟩ = some (.string a0_3) := (blk_cell BK153.out 3).trans rfl; have hcz17_4 : w16.cell? ⟨gb153, 4, none⟩ = some (.slice A0_4 l0_4.length c0_4) := (blk_cell BK153.out 4).trans rfl; have hfz17_0 := blk_frozen BK153.out 0; have hfz17_1 := blk_frozen BK153.out 1; have hfz17_2 := blk_frozen BK153.out 2; have hfz17_3 := blk_frozen BK153.out 3; have hfz17_4 := blk_frozen BK153.out 4) | ((with_reducible refine gate_callee (f := 43) rfl ?_); refine goesL_ (some 7) rfl rfl Tryd.func43 (by kernel_rfl) rfl #[.agg #[.int .i64 a0_0, .bool a0_1, .int .i64 a0_2, .string a0_3, .slice A0_4 l0_4.length c0_4]] rfl (by (try simp only [List.map_toArray, List.map_cons, List.map_nil]); first | done | rfl | (simp only [List.length_drop, List.length_take]; rfl)) ?_; (with_reducible refine (ber_Right.calls k a0_0 a0_1 a0_2 a0_3 _ _ l0_4 false _ ?side1 ?side2 A2.out).mono ?_); (case side1 => repeat (first | exact (Kd.C_below HR0_4.out HB.out) | (with_reducible refine Kd.C_alloc ?_ _) | (with_reducible refine Kd.C_drewN ?_ _) | (with_reducible refine Kd.C_drew ?_))); (case side2 => exact HC0_4.out); rintro e w18 ⟨rfl, hb⟩; refine ⟨_, rfl, ?_⟩; have n0_ := Aside0.mk (blk_below (g := gb153) (o := .cells #[.int .i64 a0_0, .bool a0_1, .int .i64 a0_2, .string a0_3, .slice A0_4 l0_4.length c0_4] 44 (0, 0)) (by (with_reducible repeat (first | refine blk_drewN ?_ _ | refine blk_drew ?_ | refine blk_alloc ?_ _)); exact BK153.out) hb); have n1_ := Aside0.mk (below_step (by repeat (first | (with_reducible first | exact HB.out | apply below_alloc | apply pw_below_drewN | apply below_drew1 | refine below_set ?_ GE153.out) | exact HB.out)) hb); clear BK153; clear HB; have BK153 := n0_; have HB := n1_; clear n0_ n1_; (try clear hb); (try clear hb2); (try clear hk); (try clear hi)))
    go_ret2
    exact ⟨by first | rfl | (simp [errW_none, errW_some] <;> rfl) | (simp [*, errW_none, errW_some] <;> rfl), by repeat (first | (with_reducible first | exact HB.out | apply below_alloc | apply pw_below_drewN | apply below_drew1 | refine below_set ?_ GE153.out) | exact HB.out)⟩

/-! ### ber_head: function 72 -/
mutual
def ber_head.j0 : Nat → ByteArray → Int → Bool → Option (Int × Int × Int)
  | 0, _, _, _ => none
  | k + 1, x0, x5, x31 => if x31 = true then (some (0, 0, 4)) else (if (x0.size : Int) < (wrap64 (2 + x5)) then (some (0, 0, 3)) else (ber_head.l0 k x0 x5 0 x5 0))
def ber_head.l0 : Nat → ByteArray → Int → Int → Int → Int → Option (Int × Int × Int)
  | 0, _, _, _, _, _ => none
  | k + 1, x0, x5, x6, x44, x45 => if x45 < x44 then (if 0 ≤ (wrap64 (2 + x45)) then (if (wrap64 (2 + x45)) < (x0.size : Int) then (ber_head.l0 k x0 x5 (Go.bits .or .i64 (wrap64 (x6 * 256)) (wrap64 (bt x0 (wrap64 (2 + x45))))) x44 (wrap64 (x45 + 1))) else (none)) else (none)) else (some (wrap64 (2 + x5), x6, 0))
end
def ber_head.f (k : Nat) (a0 : ByteArray) : Option (Int × Int × Int) := if a0.toList = ([] : List UInt8) then (some (0, 0, 3)) else (if 0 < (a0.size : Int) then (if (Go.bits .and .u8 (bt a0 0) 31) = 31 then (some (0, 0, 4)) else (if (a0.size : Int) < 2 then (some (0, 0, 3)) else (if 1 < (a0.size : Int) then (if (bt a0 1) < 128 then (some (2, wrap64 (bt a0 1), 0)) else (if (wrap64 (Go.bits .andNot .u8 (bt a0 1) 128)) = 0 then (ber_head.j0 k a0 (wrap64 (Go.bits .andNot .u8 (bt a0 1) 128)) true) else (ber_head.j0 k a0 (wrap64 (Go.bits .andNot .u8 (bt a0 1) 128)) (decide ((wrap64 (Go.bits .andNot .u8 (bt a0 1) 128)) > 4))))) else (none)))) else (none))
theorem ber_head.mono_l : ∀ k, (∀ y0 y1 y2, LeO (ber_head.j0 k y0 y1 y2) (ber_head.j0 (k + 1) y0 y1 y2)) ∧ (∀ y0 y1 y2 y3 y4, LeO (ber_head.l0 k y0 y1 y2 y3 y4) (ber_head.l0 (k + 1) y0 y1 y2 y3 y4))
  | 0 => ⟨fun _ _ _ r h => by simp [ber_head.j0] at h, fun _ _ _ _ _ r h => by simp [ber_head.l0] at h⟩
  | k + 1 => by
    obtain ⟨ih0, ih1⟩ := ber_head.mono_l k
    refine ⟨?_, ?_⟩
    · intro y0 y1 y2
      unfold ber_head.j0
      repeat' first
      | (with_reducible exact ih0 _ _ _)
      | (with_reducible exact ih1 _ _ _ _ _)
      | (with_reducible exact LeO.refl _)
      | (with_reducible exact LeO.none _)
      | (with_reducible refine LeO.ite ?_ ?_)
      | (with_reducible refine LeO.bind ?_ (fun _ => ?_))
      | exact ih0 _ _ _
      | exact ih1 _ _ _ _ _
      | exact LeO.none _
      | refine LeO.ite ?_ ?_
      | refine LeO.bind ?_ (fun _ => ?_)
    · intro y0 y1 y2 y3 y4
      unfold ber_head.l0
      repeat' first
      | (with_reducible exact ih0 _ _ _)
      | (with_reducible exact ih1 _ _ _ _ _)
      | (with_reducible exact LeO.refl _)
      | (with_reducible exact LeO.none _)
      | (with_reducible refine LeO.ite ?_ ?_)
      | (with_reducible refine LeO.bind ?_ (fun _ => ?_))
      | exact ih0 _ _ _
      | exact ih1 _ _ _ _ _
      | exact LeO.none _
      | refine LeO.ite ?_ ?_
      | refine LeO.bind ?_ (fun _ => ?_)
theorem ber_head.mono : ∀ a0 k, LeO (ber_head.f k a0) (ber_head.f (k + 1) a0) := by
  intro a0 k
  obtain ⟨ih0, ih1⟩ := ber_head.mono_l k
  unfold ber_head.f
  repeat' first
      | (with_reducible exact ih0 _ _ _)
      | (with_reducible exact ih1 _ _ _ _ _)
      | (with_reducible exact LeO.refl _)
      | (with_reducible exact LeO.none _)
      | (with_reducible refine LeO.ite ?_ ?_)
      | (with_reducible refine LeO.bind ?_ (fun _ => ?_))
      | exact ih0 _ _ _
      | exact ih1 _ _ _ _ _
      | exact LeO.none _
      | refine LeO.ite ?_ ?_
      | refine LeO.bind ?_ (fun _ => ?_)
set_option maxHeartbeats 8000000 in
set_option maxRecDepth 100000 in
theorem ber_head.calls (k : Nat) (a0 : ByteArray) (r1 : Int) (r2 : Int) (r3 : Int) (w : World) (h : ber_head.f k a0 = some (r1, r2, r3)) :
    Calls Tryd.prog 72 #[.string a0] w fun e w' => e = .returned (.tuple #[.int .i64 r1, .int .i64 r2, .int .i64 r3]) ∧ Drawn0 w w' := by
  have H : (if a0.toList = ([] : List UInt8) then (some (0, 0, 3)) else (if 0 < (a0.size : Int) then (if (Go.bits .and .u8 (bt a0 0) 31) = 31 then (some (0, 0, 4)) else (if (a0.size : Int) < 2 then (some (0, 0, 3)) else (if 1 < (a0.size : Int) then (if (bt a0 1) < 128 then (some (2, wrap64 (bt a0 1), 0)) else (if (wrap64 (Go.bits .andNot .u8 (bt a0 1) 128)) = 0 then (ber_head.j0 k a0 (wrap64 (Go.bits .andNot .u8 (bt a0 1) 128)) true) else (ber_head.j0 k a0 (wrap64 (Go.bits .andNot .u8 (bt a0 1) 128)) (decide ((wrap64 (Go.bits .andNot .u8 (bt a0 1) 128)) > 4))))) else (none)))) else (none))) = some (r1, r2, r3) := h
  clear h
  by_cases c2 : a0.toList = ([] : List UInt8)
  · rw [if_pos c2] at H
    have c2b0 : (a0.toList == ([] : List UInt8)) = true := beq_iff_eq.mpr c2
    have c2b1 : (a0.toList != ([] : List UInt8)) = false := bne_eq_false_iff_eq.mpr c2
    clear c2
    simp only [Option.some.injEq, Prod.mk.injEq] at H
    obtain ⟨rfl, rfl, rfl⟩ := H
    go_enter Tryd.func72, Tryd.ntmps72
    go_wp2
    repeat (go_quiet (fail); try go_wp2)
    go_ret3
    exact ⟨by first | rfl | (simp; done) | (simp [*]; done), by repeat (first | exact Drawn0.refl _ | apply Drawn0.step)⟩
  · rw [if_neg c2] at H
    have c2b0 : (a0.toList == ([] : List UInt8)) = false := beq_eq_false_iff_ne.mpr c2
    have c2b1 : (a0.toList != ([] : List UInt8)) = true := bne_iff_ne.mpr c2
    by_cases c3 : 0 < (a0.size : Int)
    · rw [if_pos c3] at H
      have c3b0 : decide (0 < (a0.size : Int)) = true := decide_eq_true c3
      have c3b1 : decide (0 < a0.size) = true := decide_eq_true (by omega)
      clear c3
      by_cases c5 : (Go.bits .and .u8 (bt a0 0) 31) = 31
      · rw [if_pos c5] at H
        have c5b0 : ((Go.bits .and .u8 (bt a0 0) 31) == 31) = true := beq_iff_eq.mpr c5
        have c5b1 : ((Go.bits .and .u8 (bt a0 0) 31) != 31) = false := bne_eq_false_iff_eq.mpr c5
        clear c5
        simp only [Option.some.injEq, Prod.mk.injEq] at H
        obtain ⟨rfl, rfl, rfl⟩ := H
        have p4 : 0 ≤ (0 : Int) := (by omega)
        have q4 : 0 < a0.size := (by have : (0 : Int) < (a0.size : Int) := of_decide_eq_true (by first | (with_reducible assumption) | assumption); omega)
        have hx4 : ∀ h : 0 < a0.size, ((a0[0]'h).toNat : Int) = bt a0 0 := bt_at a0 0
        clear p4
        have qi4 : (0 < (a0.size : Int)) = True := eq_true (of_decide_eq_true (by first | (with_reducible assumption) | assumption))
        replace q4 := eq_true q4
        go_enter Tryd.func72, Tryd.ntmps72
        go_wp2
        repeat (go_quiet (fail); try go_wp2)
        go_ret3
        exact ⟨by first | rfl | (simp; done) | (simp [*]; done), by repeat (first | exact Drawn0.refl _ | apply Drawn0.step)⟩
      · rw [if_neg c5] at H
        have c5b0 : ((Go.bits .and .u8 (bt a0 0) 31) == 31) = false := beq_eq_false_iff_ne.mpr c5
        have c5b1 : ((Go.bits .and .u8 (bt a0 0) 31) != 31) = true := bne_iff_ne.mpr c5
        by_cases c6 : (a0.size : Int) < 2
        · rw [if_pos c6] at H
          have c6b0 : decide ((a0.size : Int) < 2) = true := decide_eq_true c6
          have c6b1 : decide (a0.size < 2) = true := decide_eq_true (by omega)
          clear c6
          simp only [Option.some.injEq, Prod.mk.injEq] at H
          obtain ⟨rfl, rfl, rfl⟩ := H
          have p4 : 0 ≤ (0 : Int) := (by omega)
          have q4 : 0 < a0.size := (by have : (0 : Int) < (a0.size : Int) := of_decide_eq_true (by first | (with_reducible assumption) | assumption); omega)
          have hx4 : ∀ h : 0 < a0.size, ((a0[0]'h).toNat : Int) = bt a0 0 := bt_at a0 0
          clear p4
          have qi4 : (0 < (a0.size : Int)) = True := eq_true (of_decide_eq_true (by first | (with_reducible assumption) | assumption))
          replace q4 := eq_true q4
          go_enter Tryd.func72, Tryd.ntmps72
          go_wp2
          repeat (go_quiet (fail); try go_wp2)
          go_ret3
          exact ⟨by first | rfl | (simp; done) | (simp [*]; done), by repeat (first | exact Drawn0.refl _ | apply Drawn0.step)⟩
        · rw [if_neg c6] at H
          have c6b0 : decide ((a0.size : Int) < 2) = false := decide_eq_false c6
          have c6b1 : decide (a0.size < 2) = false := decide_eq_false (by omega)
          clear c6
          by_cases c7 : 1 < (a0.size : Int)
          · rw [if_pos c7] at H
            have c7b0 : decide (1 < (a0.size : Int)) = true := decide_eq_true c7
            have c7b1 : decide (1 < a0.size) = true := decide_eq_true (by omega)
            clear c7
            by_cases c9 : (bt a0 1) < 128
            · rw [if_pos c9] at H
              have c9b0 : decide ((bt a0 1) < 128) = true := decide_eq_true c9
              clear c9
              simp only [Option.some.injEq, Prod.mk.injEq] at H
              obtain ⟨rfl, rfl, rfl⟩ := H
              have p4 : 0 ≤ (0 : Int) := (by omega)
              have q4 : 0 < a0.size := (by have : (0 : Int) < (a0.size : Int) := of_decide_eq_true (by first | (with_reducible assumption) | assumption); omega)
              have hx4 : ∀ h : 0 < a0.size, ((a0[0]'h).toNat : Int) = bt a0 0 := bt_at a0 0
              clear p4
              have qi4 : (0 < (a0.size : Int)) = True := eq_true (of_decide_eq_true (by first | (with_reducible assumption) | assumption))
              replace q4 := eq_true q4
              have p8 : 0 ≤ (1 : Int) := (by omega)
              have q8 : 1 < a0.size := (by have : (1 : Int) < (a0.size : Int) := of_decide_eq_true (by first | (with_reducible assumption) | assumption); omega)
              have hx8 : ∀ h : 1 < a0.size, ((a0[1]'h).toNat : Int) = bt a0 1 := bt_at a0 1
              clear p8
              have qi8 : (1 < (a0.size : Int)) = True := eq_true (of_decide_eq_true (by first | (with_reducible assumption) | assumption))
              replace q8 := eq_true q8
              have p10 : 0 ≤ (1 : Int) := (by omega)
              have q10 : 1 < a0.size := (by have : (1 : Int) < (a0.size : Int) := of_decide_eq_true (by first | (with_reducible assumption) | assumption); omega)
              have hx10 : ∀ h : 1 < a0.size, ((a0[1]'h).toNat : Int) = bt a0 1 := bt_at a0 1
              clear p10
              have qi10 : (1 < (a0.size : Int)) = True := eq_true (of_decide_eq_true (by first | (with_reducible assumption) | assumption))
              replace q10 := eq_true q10
              go_enter Tryd.func72, Tryd.ntmps72
              go_wp2
              repeat (go_quiet (fail); try go_wp2)
              go_ret3
              exact ⟨by first | rfl | (simp; done) | (simp [*]; done), by repeat (first | exact Drawn0.refl _ | apply Drawn0.step)⟩
            · rw [if_neg c9] at H
              have c9b0 : decide ((bt a0 1) < 128) = false := decide_eq_false c9
              clear c9
              have HC12 := Aside0.mk H
              clear H
              have p4 : 0 ≤ (0 : Int) := (by omega)
              have q4 : 0 < a0.size := (by have : (0 : Int) < (a0.size : Int) := of_decide_eq_true (by first | (with_reducible assumption) | assumption); omega)
              have hx4 : ∀ h : 0 < a0.size, ((a0[0]'h).toNat : Int) = bt a0 0 := bt_at a0 0
              clear p4
              have qi4 : (0 < (a0.size : Int)) = True := eq_true (of_decide_eq_true (by first | (with_reducible assumption) | assumption))
              replace q4 := eq_true q4
              have p8 : 0 ≤ (1 : Int) := (by omega)
              have q8 : 1 < a0.size := (by have : (1 : Int) < (a0.size : Int) := of_decide_eq_true (by first | (with_reducible assumption) | assumption); omega)
              have hx8 : ∀ h : 1 < a0.size, ((a0[1]'h).toNat : Int) = bt a0 1 := bt_at a0 1
              clear p8
              have qi8 : (1 < (a0.size : Int)) = True := eq_true (of_decide_eq_true (by first | (with_reducible assumption) | assumption))
              replace q8 := eq_true q8
              have p11 : 0 ≤ (1 : Int) := (by omega)
              have q11 : 1 < a0.size := (by have : (1 : Int) < (a0.size : Int) := of_decide_eq_true (by first | (with_reducible assumption) | assumption); omega)
              have hx11 : ∀ h : 1 < a0.size, ((a0[1]'h).toNat : Int) = bt a0 1 := bt_at a0 1
              clear p11
              have qi11 : (1 < (a0.size : Int)) = True := eq_true (of_decide_eq_true (by first | (with_reducible assumption) | assumption))
              replace q11 := eq_true q11
              go_enter Tryd.func72, Tryd.ntmps72
              go_upto_region 10 with (fail)
              repeat (go_quiet (fail); go_upto_region 10 with (fail))
              go_cut [31] (fun v31 wc => ∃ (kq : Nat) (x31_11 : Bool), v31 = .bool x31_11 ∧ Aside0 (ber_head.j0 kq a0 (wrap64 (Go.bits .andNot .u8 (bt a0 1) 128)) x31_11 = some (r1, r2, r3)) ∧ Aside0 (kq ≤ k) ∧ Drawn0 w wc)
              case first =>
                have H := HC12.out
                clear HC12
                by_cases c13 : (wrap64 (Go.bits .andNot .u8 (bt a0 1) 128)) = 0
                · rw [if_pos c13] at H
                  have c13b0 : ((wrap64 (Go.bits .andNot .u8 (bt a0 1) 128)) == 0) = true := beq_iff_eq.mpr c13
                  have c13b1 : ((wrap64 (Go.bits .andNot .u8 (bt a0 1) 128)) != 0) = false := bne_eq_false_iff_eq.mpr c13
                  clear c13
                  (first | rw [c13b0] | (simp only [i64_w, i32_w]; rw [c13b0]) | skip)
                  have H' := Aside0.mk H
                  clear H
                  go_wp2
                  repeat (go_quiet (fail); try go_wp2)
                  go_meet
                  case rel => exact ⟨_, (true), (by first | rfl | (simp; done) | (simp [*]; done)), H', ⟨by first | omega | exact Nat.le_refl _⟩, by repeat (first | exact Drawn0.refl _ | apply Drawn0.step)⟩
                · rw [if_neg c13] at H
                  have c13b0 : ((wrap64 (Go.bits .andNot .u8 (bt a0 1) 128)) == 0) = false := beq_eq_false_iff_ne.mpr c13
                  have c13b1 : ((wrap64 (Go.bits .andNot .u8 (bt a0 1) 128)) != 0) = true := bne_iff_ne.mpr c13
                  (first | rw [c13b0] | (simp only [i64_w, i32_w]; rw [c13b0]) | skip)
                  have H' := Aside0.mk H
                  clear H
                  go_wp2
                  repeat (go_quiet (fail); try go_wp2)
                  go_meet
                  case rel => exact ⟨_, (decide ((wrap64 (Go.bits .andNot .u8 (bt a0 1) 128)) > 4)), (by first | rfl | (simp; done) | (simp [*]; done)), H', ⟨by first | omega | exact Nat.le_refl _⟩, by repeat (first | exact Drawn0.refl _ | apply Drawn0.step)⟩
              case rest =>
                clear HC12
                try clear c1
                try clear p1
                try clear q1
                try clear hx1
                try clear qi1
                try clear c2
                try clear c2b0
                try clear c2b1
                try clear p2
                try clear c3
                try clear c3b0
                try clear c3b1
                try clear p4
                try clear q4
                try clear hx4
                try clear qi4
                try clear c5
                try clear c5b0
                try clear c5b1
                try clear c6
                try clear c6b0
                try clear c6b1
                try clear p6
                try clear c7
                try clear c7b0
                try clear c7b1
                try clear p8
                try clear q8
                try clear hx8
                try clear qi8
                try clear c9
                try clear c9b0
                try clear p10
                try clear q10
                try clear hx10
                try clear qi10
                try clear p11
                try clear q11
                try clear hx11
                try clear qi11
                try clear c13
                try clear c13b0
                try clear c13b1
                try clear p10
                try clear p11
                try clear p4
                try clear p8
                try clear q10
                try clear q11
                try clear q4
                try clear q8
                obtain ⟨kq, x31_11, rfl, HA, HJ11, ⟨mc11, rfl⟩⟩ := hcut
                cases kq with
                | zero => exact absurd HA.out (by simp [ber_head.j0])
                | succ kj11 =>
                  have H := HA.out
                  clear HA
                  simp only [ber_head.j0] at H
                  by_cases c14 : x31_11 = true
                  · subst c14
                    have H1 : (some (0, 0, 4)) = some (r1, r2, r3) := by rw [if_pos rfl] at H; exact H
                    clear H
                    have H := H1
                    clear H1
                    simp only [Option.some.injEq, Prod.mk.injEq] at H
                    obtain ⟨rfl, rfl, rfl⟩ := H
                    go_wp2
                    repeat (go_quiet (fail); try go_wp2)
                    go_ret3
                    exact ⟨by first | rfl | (simp; done) | (simp [*]; done), by repeat (first | exact Drawn0.refl _ | apply Drawn0.step)⟩
                  · replace c14 := Bool.eq_false_iff.mpr c14
                    subst c14
                    have H1 : (if (a0.size : Int) < (wrap64 (2 + (wrap64 (Go.bits .andNot .u8 (bt a0 1) 128)))) then (some (0, 0, 3)) else (ber_head.l0 kj11 a0 (wrap64 (Go.bits .andNot .u8 (bt a0 1) 128)) 0 (wrap64 (Go.bits .andNot .u8 (bt a0 1) 128)) 0)) = some (r1, r2, r3) := by rw [if_neg (show ¬ (false = true) by decide)] at H; exact H
                    clear H
                    have H := H1
                    clear H1
                    by_cases c15 : (a0.size : Int) < (wrap64 (2 + (wrap64 (Go.bits .andNot .u8 (bt a0 1) 128))))
                    · rw [if_pos c15] at H
                      have c15b0 : decide ((a0.size : Int) < (wrap64 (2 + (wrap64 (Go.bits .andNot .u8 (bt a0 1) 128))))) = true := decide_eq_true c15
                      clear c15
                      simp only [Option.some.injEq, Prod.mk.injEq] at H
                      obtain ⟨rfl, rfl, rfl⟩ := H
                      go_wp2
                      repeat (go_quiet (fail); try go_wp2)
                      go_ret3
                      exact ⟨by first | rfl | (simp; done) | (simp [*]; done), by repeat (first | exact Drawn0.refl _ | apply Drawn0.step)⟩
                    · rw [if_neg c15] at H
                      have c15b0 : decide ((a0.size : Int) < (wrap64 (2 + (wrap64 (Go.bits .andNot .u8 (bt a0 1) 128))))) = false := decide_eq_false c15
                      clear c15
                      have H' := Aside0.mk H
                      clear H
                      go_wp2
                      repeat (go_quiet (fail); try go_wp2)
                      go_loopg [6, 45] kj11 (fun kq v6 v45 w' => ∃ (x6_2 : Int) (x45_2 : Int), v6 = .int .i64 x6_2 ∧ v45 = .int .i64 x45_2 ∧ Aside0 (ber_head.l0 kq a0 (wrap64 (Go.bits .andNot .u8 (bt a0 1) 128)) x6_2 (wrap64 (Go.bits .andNot .u8 (bt a0 1) 128)) x45_2 = some (r1, r2, r3)) ∧ Aside0 (kq ≤ kj11) ∧ Drawn0 w w')
                      case atStart => exact ⟨(0), (0), (by first | rfl | (simp; done) | (simp [*]; done)), (by first | rfl | (simp; done) | (simp [*]; done)), H', ⟨Nat.le_refl _⟩, by repeat (first | exact Drawn0.refl _ | apply Drawn0.step)⟩
                      case round =>
                        clear H'
                        try clear c1
                        try clear p1
                        try clear q1
                        try clear hx1
                        try clear qi1
                        try clear c2
                        try clear c2b0
                        try clear c2b1
                        try clear p2
                        try clear c3
                        try clear c3b0
                        try clear c3b1
                        try clear p4
                        try clear q4
                        try clear hx4
                        try clear qi4
                        try clear c5
                        try clear c5b0
                        try clear c5b1
                        try clear c6
                        try clear c6b0
                        try clear c6b1
                        try clear p6
                        try clear c7
                        try clear c7b0
                        try clear c7b1
                        try clear p8
                        try clear q8
                        try clear hx8
                        try clear qi8
                        try clear c9
                        try clear c9b0
                        try clear p10
                        try clear q10
                        try clear hx10
                        try clear qi10
                        try clear c11
                        try clear p11
                        try clear q11
                        try clear hx11
                        try clear qi11
                        try clear c13
                        try clear c13b0
                        try clear c13b1
                        try clear c14
                        try clear c15
                        try clear c15b0
                        try clear p1
                        try clear p10
                        try clear p11
                        try clear p2
                        try clear p4
                        try clear p6
                        try clear p8
                        try clear q1
                        try clear q10
                        try clear q11
                        try clear q4
                        try clear q8
                        obtain ⟨x6_2, x45_2, rfl, rfl, HA, HK2, ⟨m2, rfl⟩⟩ := hrel
                        cases gk with
                        | zero => exact absurd HA.out (by simp [ber_head.l0])
                        | succ k2 =>
                          have H := HA.out
                          clear HA
                          simp only [ber_head.l0] at H
                          by_cases c16 : x45_2 < (wrap64 (Go.bits .andNot .u8 (bt a0 1) 128))
                          · rw [if_pos c16] at H
                            have c16b0 : decide (x45_2 < (wrap64 (Go.bits .andNot .u8 (bt a0 1) 128))) = true := decide_eq_true c16
                            clear c16
                            obtain ⟨ji17, hji17⟩ : ∃ j_ : Int, (wrap64 (2 + x45_2)) = j_ := ⟨_, rfl⟩
                            replace H : (if 0 ≤ (ji17) then (if (ji17) < (a0.size : Int) then (ber_head.l0 k2 a0 (wrap64 (Go.bits .andNot .u8 (bt a0 1) 128)) (Go.bits .or .i64 (wrap64 (x6_2 * 256)) (wrap64 (bt a0 (ji17)))) (wrap64 (Go.bits .andNot .u8 (bt a0 1) 128)) (wrap64 (x45_2 + 1))) else (none)) else (none)) = some (r1, r2, r3) := by first | (rw [hji17] at H; exact H) | (simp only [hji17] at H ⊢; exact H)
                            have hji17w : (IntKind.i64.wrap (2 + x45_2)) = ji17 := (i64_w _).trans hji17
                            by_cases c18 : 0 ≤ (ji17)
                            · rw [if_pos c18] at H
                              have c18b0 : decide (0 ≤ (ji17)) = true := decide_eq_true c18
                              clear c18
                              by_cases c19 : (ji17) < (a0.size : Int)
                              · rw [if_pos c19] at H
                                have c19b0 : decide ((ji17) < (a0.size : Int)) = true := decide_eq_true c19
                                clear c19
                                have H' := Aside0.mk H
                                clear H
                                have p20 : 0 ≤ ((ji17) : Int) := of_decide_eq_true (by first | (with_reducible assumption) | assumption)
                                have q20 : (ji17) < (a0.size : Int) := of_decide_eq_true (by first | (with_reducible assumption) | assumption)
                                have hx20 := bt_at a0 (ji17)
                                replace p20 := eq_true p20
                                replace q20 := eq_true q20
                                go_wp2
                                repeat (go_quiet (fail); try go_wp2)
                                go_roundg k2
                                case measure => have := HJ11.out; have := HK2.out; omega
                                case rel => exact ⟨(Go.bits .or .i64 (wrap64 (x6_2 * 256)) (wrap64 (bt a0 (ji17)))), (wrap64 (x45_2 + 1)), (by first | rfl | (simp; done) | (simp only [← hji17] <;> (first | rfl | simp)) | (simp [*]; done)), (by first | rfl | (simp; done) | (simp [*]; done)), H', ⟨by have := HJ11.out; have := HK2.out; omega⟩, by repeat (first | exact Drawn0.refl _ | apply Drawn0.step)⟩
                              · rw [if_neg c19] at H
                                exact absurd H (by simp)
                            · rw [if_neg c18] at H
                              exact absurd H (by simp)
                          · rw [if_neg c16] at H
                            have c16b0 : decide (x45_2 < (wrap64 (Go.bits .andNot .u8 (bt a0 1) 128))) = false := decide_eq_false c16
                            clear c16
                            simp only [Option.some.injEq, Prod.mk.injEq] at H
                            obtain ⟨rfl, rfl, rfl⟩ := H
                            go_wp2
                            repeat (go_quiet (fail); try go_wp2)
                            go_ret3
                            exact ⟨by first | rfl | (simp; done) | (simp [*]; done), by repeat (first | exact Drawn0.refl _ | apply Drawn0.step)⟩
          · rw [if_neg c7] at H
            exact absurd H (by simp)
    · rw [if_neg c3] at H
      exact absurd H (by simp)

/-! ### ber_Length: function 45 -/
def ber_Length.f (k : Nat) (a0 : ByteArray) : Option (Int × Int) := (ber_head.f k a0).bind fun bt157 => (if bt157.2.2 = 0 then (if bt157.2.1 > (wrap64 (8192 - bt157.1)) then (some (0, 5)) else (some (wrap64 (bt157.1 + bt157.2.1), 0))) else (some (0, bt157.2.2)))
theorem ber_Length.mono : ∀ a0 k, LeO (ber_Length.f k a0) (ber_Length.f (k + 1) a0) := by
  intro a0 k
  unfold ber_Length.f
  repeat' first
      | (with_reducible exact ber_head.mono _ _)
      | (with_reducible exact LeO.refl _)
      | (with_reducible exact LeO.none _)
      | (with_reducible refine LeO.ite ?_ ?_)
      | (with_reducible refine LeO.bind ?_ (fun _ => ?_))
      | exact ber_head.mono _ _
      | exact LeO.none _
      | refine LeO.ite ?_ ?_
      | refine LeO.bind ?_ (fun _ => ?_)
set_option maxHeartbeats 8000000 in
set_option maxRecDepth 100000 in
theorem ber_Length.calls (k : Nat) (a0 : ByteArray) (r1 : Int) (r2 : Int) (w : World) (h : ber_Length.f k a0 = some (r1, r2)) :
    Calls Tryd.prog 45 #[.string a0] w fun e w' => e = .returned (.tuple #[.int .i64 r1, .int .i64 r2]) ∧ Drawn0 w w' := by
  have H : ((ber_head.f k a0).bind fun bt157 => (if bt157.2.2 = 0 then (if bt157.2.1 > (wrap64 (8192 - bt157.1)) then (some (0, 5)) else (some (wrap64 (bt157.1 + bt157.2.1), 0))) else (some (0, bt157.2.2)))) = some (r1, r2) := h
  clear h
  replace H := Option.bind_eq_some_iff.mp H
  obtain ⟨⟨t157, t158, t159⟩, A20, H⟩ := H
  replace H : (if t159 = 0 then (if t158 > (wrap64 (8192 - t157)) then (some (0, 5)) else (some (wrap64 (t157 + t158), 0))) else (some (0, t159))) = some (r1, r2) := H
  have A2 := Aside0.mk A20
  clear A20
  by_cases c3 : t159 = 0
  · rw [if_pos c3] at H
    have c3b0 : (t159 == 0) = true := beq_iff_eq.mpr c3
    have c3b1 : (t159 != 0) = false := bne_eq_false_iff_eq.mpr c3
    clear c3
    by_cases c4 : t158 > (wrap64 (8192 - t157))
    · rw [if_pos c4] at H
      have c4b0 : decide ((wrap64 (8192 - t157)) < t158) = true := decide_eq_true c4
      clear c4
      simp only [Option.some.injEq, Prod.mk.injEq] at H
      obtain ⟨rfl, rfl⟩ := H
      go_enter Tryd.func45, Tryd.ntmps45
      go_wp2_with (first | ((with_reducible refine gate_callee (f := 72) rfl ?_); refine goesL_ (some 9) rfl rfl Tryd.func72 (by kernel_rfl) rfl #[.string a0] rfl (by (try simp only [List.map_toArray, List.map_cons, List.map_nil]); first | done | rfl | (simp only [List.length_drop, List.length_take]; rfl)) ?_; (with_reducible refine (ber_head.calls k a0 t157 t158 t159 _ A2.out).mono ?_); rintro e w' ⟨rfl, ⟨nd, rfl⟩⟩; refine ⟨_, rfl, ?_⟩))
      go_ret2
      exact ⟨by first | rfl | (simp; done) | (simp [*]; done), by repeat (first | exact Drawn0.refl _ | apply Drawn0.step)⟩
    · rw [if_neg c4] at H
      have c4b0 : decide ((wrap64 (8192 - t157)) < t158) = false := decide_eq_false c4
      clear c4
      simp only [Option.some.injEq, Prod.mk.injEq] at H
      obtain ⟨rfl, rfl⟩ := H
      go_enter Tryd.func45, Tryd.ntmps45
      go_wp2_with (first | ((with_reducible refine gate_callee (f := 72) rfl ?_); refine goesL_ (some 9) rfl rfl Tryd.func72 (by kernel_rfl) rfl #[.string a0] rfl (by (try simp only [List.map_toArray, List.map_cons, List.map_nil]); first | done | rfl | (simp only [List.length_drop, List.length_take]; rfl)) ?_; (with_reducible refine (ber_head.calls k a0 t157 t158 t159 _ A2.out).mono ?_); rintro e w' ⟨rfl, ⟨nd, rfl⟩⟩; refine ⟨_, rfl, ?_⟩))
      go_ret2
      exact ⟨by first | rfl | (simp; done) | (simp [*]; done), by repeat (first | exact Drawn0.refl _ | apply Drawn0.step)⟩
  · rw [if_neg c3] at H
    have c3b0 : (t159 == 0) = false := beq_eq_false_iff_ne.mpr c3
    have c3b1 : (t159 != 0) = true := bne_iff_ne.mpr c3
    simp only [Option.some.injEq, Prod.mk.injEq] at H
    obtain ⟨rfl, rfl⟩ := H
    go_enter Tryd.func45, Tryd.ntmps45
    go_wp2_with (first | ((with_reducible refine gate_callee (f := 72) rfl ?_); refine goesL_ (some 9) rfl rfl Tryd.func72 (by kernel_rfl) rfl #[.string a0] rfl (by (try simp only [List.map_toArray, List.map_cons, List.map_nil]); first | done | rfl | (simp only [List.length_drop, List.length_take]; rfl)) ?_; (with_reducible refine (ber_head.calls k a0 t157 t158 t159 _ A2.out).mono ?_); rintro e w' ⟨rfl, ⟨nd, rfl⟩⟩; refine ⟨_, rfl, ?_⟩))
    go_ret2
    exact ⟨by first | rfl | (simp; done) | (simp [*]; done), by repeat (first | exact Drawn0.refl _ | apply Drawn0.step)⟩

end Go.Proofs.YtghkgclbfjoilaaDoor.R
