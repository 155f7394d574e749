/- Messages: may, must, end, number, text, truth, list. -/
import Derived.Test.YtghkgclbfjoilaaDoorMsgA
import Derived.Outline
set_option linter.unusedVariables false
set_option linter.unusedSimpArgs false
namespace Go.Proofs.YtghkgclbfjoilaaDoor.Msg
open Go.RowKit Go.Proofs.YtghkgclbfjoilaaDoorW.PrintWords Go.Proofs.YtghkgclbfjoilaaDoorW.PrintLast Go.Proofs.YtghkgclbfjoilaaDoorW.PrintMore Go.Proofs.YtghkgclbfjoilaaDoor.Pl Go.Proofs.YtghkgclbfjoilaaDoor.R

def IsRow (Z w : World) (g : Nat) (l : List S44) : Prop := ∃ A c, w.heap[g]? = some (.cells #[.slice A l.length c] 70 (0, 0)) ∧ l.length ≤ c ∧ l.length ≤ 9223372036854775807 ∧ Rw Z A l
def IsVal (Z : World) (x : S44) (v : Value) : Prop := ∃ A4 c4, v = .agg #[.int .i64 x.f0, .bool x.f1, .int .i64 x.f2, .string x.f3, .slice A4 x.f4.length c4] ∧ x.f4.length ≤ c4 ∧ x.f4.length ≤ 9223372036854775807 ∧ Rw Z A4 x.f4
theorem IsRow.keep {Z w w' : World} {g : Nat} {l : List S44} {s : List Nat} (h : IsRow Z w g l) (hk : Kp s w w') (hg : g ∉ s) : IsRow Z w' g l := by
  obtain ⟨A, c, h1, h2⟩ := h
  exact ⟨A, c, (hk.2 g (blk_lt h1) hg).trans h1, h2⟩
theorem row_not {Z w : World} {g : Nat} {l : List S44} (h : IsRow Z w g l) (ag : Agree Z w) : ¬ ok44 Z g := by
  obtain ⟨A, c, h1, _⟩ := h
  exact not_ok ag h1 (by decide)
theorem row_agree {Z w w' : World} {g : Nat} {l : List S44} (h : IsRow Z w g l) (ag : Agree Z w) (hk : Kp [g] w w') : Agree Z w' :=
  hk.agree ag (fun k hm => by rw [List.mem_singleton] at hm; rw [hm]; exact row_not h ag) (fun k hk2 => agree_lt ag k hk2)
def zeroV : Value := .agg #[.int .i64 0, .bool false, .int .i64 0, .string (⟨#[]⟩ : ByteArray), .slice none 0 0]
def missB (l : List S44) (c t : Int) (k : Bool) : Prop := ∀ x l', l = x :: l' → isB x c t k = false
theorem may_end {R : Ending → World → Prop} {tm : Array Value} {W : World} {gR : Nat} {t0 t1 t2 t3 t4 : Value} {b : Bool} (hT : W.heap[gR]? = some (.cells #[t0, t1, t2, t3, t4] 44 (0, 0)))
    (p4 : tm.getD 8 undef = .pointer (some ⟨gR, 0, none⟩)) (p5 : tm.getD 9 undef = .bool b) (h : R (.returned (.tuple #[.agg #[t0, t1, t2, t3, t4], .bool b])) W) :
    bodyPost Tryd.prog Tryd.f28 R .ret { tmps := tm, defers := [] } W := by
  refine bodyPost_ret (results_ct (p := 8) (u := 9) (ty := 44) rfl tm W gR 44 #[t0, t1, t2, t3, t4] (0, 0) _ p4 hT Tryd.underlying44 rfl (by kernel_rfl)) rfl ?_
  rw [p5]
  exact h
theorem put5 {W : World} {g : Nat} {t : TypeId} {v0 v1 v2 v3 v4 u0 u1 u2 u3 u4 : Value} (h : W.heap[g]? = some (.cells #[v0, v1, v2, v3, v4] t (0, 0))) :
    (((((W.setCell ⟨g, 0, none⟩ u0).setCell ⟨g, 1, none⟩ u1).setCell ⟨g, 2, none⟩ u2).setCell ⟨g, 3, none⟩ u3).setCell ⟨g, 4, none⟩ u4).heap[g]? = some (.cells #[u0, u1, u2, u3, u4] t (0, 0)) :=
  blk_put (blk_put (blk_put (blk_put (blk_put h 0 u0 rfl) 1 u1 rfl) 2 u2 rfl) 3 u3 rfl) 4 u4 rfl
theorem far5b {W : World} {g b : Nat} {cs : Array Value} {t : TypeId} (h : W.heap[b]? = some (.cells cs t (0, 0))) (hne : g ≠ b) (u0 u1 u2 u3 u4 : Value) :
    (((((W.setCell ⟨g, 0, none⟩ u0).setCell ⟨g, 1, none⟩ u1).setCell ⟨g, 2, none⟩ u2).setCell ⟨g, 3, none⟩ u3).setCell ⟨g, 4, none⟩ u4).heap[b]? = some (.cells cs t (0, 0)) :=
  blk_far (blk_far (blk_far (blk_far (blk_far h hne.symm _) hne.symm _) hne.symm _) hne.symm _) hne.symm _
theorem below5 {w W : World} {g : Nat} (h : Below w.heap.size w W) (hg : w.heap.size ≤ g) (u0 u1 u2 u3 u4 : Value) :
    Below w.heap.size w (((((W.setCell ⟨g, 0, none⟩ u0).setCell ⟨g, 1, none⟩ u1).setCell ⟨g, 2, none⟩ u2).setCell ⟨g, 3, none⟩ u3).setCell ⟨g, 4, none⟩ u4) :=
  below_set (below_set (below_set (below_set (below_set h hg) hg) hg) hg) hg

set_option maxHeartbeats 1000000 in
set_option maxRecDepth 100000 in
theorem may_nil (Z : World) (g : Nat) (c t : Int) (k : Bool) (w : World) (hr : IsRow Z w g []) :
    Calls Tryd.prog 28 #[.pointer (some ⟨g, 0, none⟩), .int .i64 c, .int .i64 t, .bool k] w fun e w' => e = .returned (.tuple #[zeroV, .bool false]) ∧ Below w.heap.size w w' := by
  obtain ⟨A, cc, hg, _, _, _⟩ := hr
  simp only [List.length_nil] at hg
  have HGB := Aside0.mk hg
  clear hg
  have hu44 := Tryd.underlying44
  go_enter Tryd.func28, Tryd.ntmps28
  go_upto_region 1 with ((with_reducible refine gate_dst (N := 8) rfl ?_); refine box_event ?hg (N := 8) ?hd (cs := #[.int .i64 0, .bool false, .int .i64 0, .string (⟨#[]⟩ : ByteArray), .slice none 0 0]) (t := 44) ?hr ?_; (case hd => rfl); (case hg => rfl); (case hr => first | (go_simp; done) | (go_simp; rfl)); intro gR hg_gR w2 hbox_gR hb_gR; have HG := Aside0.mk hg_gR; have BK := Aside0.mk hbox_gR; have HB := Aside0.mk hb_gR; have BG := Aside0.mk (blk_below HGB.out hb_gR); clear hg_gR hbox_gR hb_gR)
  have hG0 : w2.cell? ⟨g, 0, none⟩ = some (.slice A 0 cc) := (blk_cell BG.out 0).trans rfl
  have hgR0 : w2.cell? ⟨gR, 0, none⟩ = some (.int .i64 0) := (blk_cell BK.out 0).trans rfl
  have hgR1 : w2.cell? ⟨gR, 1, none⟩ = some (.bool false) := (blk_cell BK.out 1).trans rfl
  have hgR2 : w2.cell? ⟨gR, 2, none⟩ = some (.int .i64 0) := (blk_cell BK.out 2).trans rfl
  have hgR3 : w2.cell? ⟨gR, 3, none⟩ = some (.string (⟨#[]⟩ : ByteArray)) := (blk_cell BK.out 3).trans rfl
  have hgR4 : w2.cell? ⟨gR, 4, none⟩ = some (.slice none 0 0) := (blk_cell BK.out 4).trans rfl
  have fgR0 := blk_frozen BK.out 0
  have fgR1 := blk_frozen BK.out 1
  have fgR2 := blk_frozen BK.out 2
  have fgR3 := blk_frozen BK.out 3
  have fgR4 := blk_frozen BK.out 4
  have hgR : w.heap.size ≤ gR := Nat.le_of_eq HG.out.symm
  go_wp2_with fail
  exact may_end (put5 BK.out) rfl rfl ⟨rfl, below5 HB.out hgR _ _ _ _ _⟩

set_option maxHeartbeats 2000000 in
set_option maxRecDepth 100000 in
theorem may_no (Z : World) (g : Nat) (x : S44) (l : List S44) (c t : Int) (k : Bool) (w : World) (hr : IsRow Z w g (x :: l)) (ag : Agree Z w) (hx : isB x c t k = false) :
    Calls Tryd.prog 28 #[.pointer (some ⟨g, 0, none⟩), .int .i64 c, .int .i64 t, .bool k] w fun e w' => e = .returned (.tuple #[zeroV, .bool false]) ∧ Below w.heap.size w w' := by
  obtain ⟨A, cc, hg, hcc, hmx, hrw⟩ := hr
  obtain ⟨q, o, A4, c4, e, hok, hrl, h4, h4m, hr4, z0, z1, z2, z3, z4⟩ := rw_head hrw
  subst e
  simp only [List.length_cons] at hg hcc hmx
  have HGB := Aside0.mk hg
  have hq : w.heap[q]? = Z.heap[q]? := ag q hok
  have hql := agree_lt ag q hok
  have y0 := (cell_at (o := o) hq).trans z0
  have y1 := (cell_at (o := o + 1) hq).trans z1
  have y2 := (cell_at (o := o + 2) hq).trans z2
  have y3 := (cell_at (o := o + 3) hq).trans z3
  have y4 := (cell_at (o := o + 4) hq).trans z4
  have HY := Aside0.mk (And.intro y0 (And.intro y1 (And.intro y2 (And.intro y3 y4))))
  have HC := Aside0.mk (fun W : World => hx ▸ is_calls x (.slice A4 x.f4.length c4) c t k W)
  have hl0 : ((l.length : Int) + 1 == 0) = false := by rw [beq_eq_false_iff_ne]; omega
  have hl1 : (0 : Int) < (l.length : Int) + 1 := by omega
  clear hg z0 z1 z2 z3 z4 y0 y1 y2 y3 y4 hq hrl hr4 hrw hok hx
  have hu44 := Tryd.underlying44
  go_enter Tryd.func28, Tryd.ntmps28
  go_upto_region 1 with ((with_reducible refine gate_dst (N := 8) rfl ?_); refine box_event ?hg (N := 8) ?hd (cs := #[.int .i64 0, .bool false, .int .i64 0, .string (⟨#[]⟩ : ByteArray), .slice none 0 0]) (t := 44) ?hr ?_; (case hd => rfl); (case hg => rfl); (case hr => first | (go_simp; done) | (go_simp; rfl)); intro gR hg_gR w2 hbox_gR hb_gR; have HG := Aside0.mk hg_gR; have BK := Aside0.mk hbox_gR; have HB := Aside0.mk hb_gR; have BG := Aside0.mk (blk_below HGB.out hb_gR); clear hg_gR hbox_gR hb_gR)
  have hG0 : w2.cell? ⟨g, 0, none⟩ = some (.slice (some ⟨q, o, none⟩) (l.length + 1) cc) := (blk_cell BG.out 0).trans rfl
  have hq2 : w2.heap[q]? = w.heap[q]? := HB.out.block q hql
  have y0 := (cell_at (o := o) hq2).trans HY.out.1
  have y1 := (cell_at (o := o + 1) hq2).trans HY.out.2.1
  have y2 := (cell_at (o := o + 2) hq2).trans HY.out.2.2.1
  have y3 := (cell_at (o := o + 3) hq2).trans HY.out.2.2.2.1
  have y4 := (cell_at (o := o + 4) hq2).trans HY.out.2.2.2.2
  clear hq2
  have hgR : w.heap.size ≤ gR := Nat.le_of_eq HG.out.symm
  go_upto_region 2 with (go_at_call 24; refine (HC.out _).mono ?_; rintro e w3 ⟨rfl, hb3⟩; have BK3 := Aside0.mk (blk_below BK.out hb3); have HB3 := Aside0.mk (below_step HB.out hb3); clear hb3)
  have hgR0 : w3.cell? ⟨gR, 0, none⟩ = some (.int .i64 0) := (blk_cell BK3.out 0).trans rfl
  have hgR1 : w3.cell? ⟨gR, 1, none⟩ = some (.bool false) := (blk_cell BK3.out 1).trans rfl
  have hgR2 : w3.cell? ⟨gR, 2, none⟩ = some (.int .i64 0) := (blk_cell BK3.out 2).trans rfl
  have hgR3 : w3.cell? ⟨gR, 3, none⟩ = some (.string (⟨#[]⟩ : ByteArray)) := (blk_cell BK3.out 3).trans rfl
  have hgR4 : w3.cell? ⟨gR, 4, none⟩ = some (.slice none 0 0) := (blk_cell BK3.out 4).trans rfl
  have fgR0 := blk_frozen BK3.out 0
  have fgR1 := blk_frozen BK3.out 1
  have fgR2 := blk_frozen BK3.out 2
  have fgR3 := blk_frozen BK3.out 3
  have fgR4 := blk_frozen BK3.out 4
  go_wp2_with fail
  exact may_end (put5 BK3.out) rfl rfl ⟨rfl, below5 HB3.out hgR _ _ _ _ _⟩

theorem cut_one (q o n cc : Nat) (hn : n + 1 ≤ cc) : ∃ A' : Option Addr, (∀ W : World, (Instr.slice 42 (.slice (some ⟨q, o, none⟩) (n + 1) cc) (some (.int .i64 1)) none none).run Tryd.prog W = .ok (.slice A' n (cc - 1)) W) ∧ (A' = some ⟨q, o + 5, none⟩ ∨ n = 0) := by
  obtain ⟨i0, hi, hz⟩ := Option.map_eq_some_iff.1 info44
  simp only [Prod.mk.injEq] at hz
  refine ⟨_, cut_from 42 44 .i64 Tryd.underlying42 hi 5 hz.2.1 (some ⟨q, o, none⟩) (n + 1) cc 1 (by omega) (by omega), ?_⟩
  by_cases h : cc = 1
  · right; omega
  · left
    rw [if_neg (show ¬ cc = Int.toNat 1 from h)]
    exact congrArg some (addr_add q o 5)

set_option maxHeartbeats 2000000 in
set_option maxRecDepth 100000 in
theorem may_yes (Z : World) (g : Nat) (x : S44) (l : List S44) (c t : Int) (k : Bool) (w : World) (hr : IsRow Z w g (x :: l)) (ag : Agree Z w) (hx : isB x c t k = true) :
    Calls Tryd.prog 28 #[.pointer (some ⟨g, 0, none⟩), .int .i64 c, .int .i64 t, .bool k] w fun e w' => ∃ v, e = .returned (.tuple #[v, .bool true]) ∧ IsVal Z x v ∧ IsRow Z w' g l ∧ Kp [g] w w' := by
  obtain ⟨A, cc, hg, hcc, hmx, hrw⟩ := hr
  obtain ⟨q, o, A4, c4, e, hok, hrl, h4, h4m, hr4, z0, z1, z2, z3, z4⟩ := rw_head hrw
  subst e
  simp only [List.length_cons] at hg hcc hmx
  have HGB := Aside0.mk hg
  have hgl := blk_lt hg
  have hq : w.heap[q]? = Z.heap[q]? := ag q hok
  have hql := agree_lt ag q hok
  have hqg : q ≠ g := by
    rintro rfl
    exact not_ok ag hg (by decide) hok
  have y0 := (cell_at (o := o) hq).trans z0
  have y1 := (cell_at (o := o + 1) hq).trans z1
  have y2 := (cell_at (o := o + 2) hq).trans z2
  have y3 := (cell_at (o := o + 3) hq).trans z3
  have y4 := (cell_at (o := o + 4) hq).trans z4
  have HY := Aside0.mk (And.intro y0 (And.intro y1 (And.intro y2 (And.intro y3 y4))))
  have HC := Aside0.mk (fun W : World => hx ▸ is_calls x (.slice A4 x.f4.length c4) c t k W)
  have hl0 : ((l.length : Int) + 1 == 0) = false := by rw [beq_eq_false_iff_ne]; omega
  have hl1 : (0 : Int) < (l.length : Int) + 1 := by omega
  obtain ⟨A', hcut, hA'⟩ := cut_one q o l.length cc hcc
  have hrl2 : Rw Z A' l := by
    rcases hA' with rfl | h0
    · exact hrl
    · rw [List.eq_nil_of_length_eq_zero h0]
      exact rw_nil _ _
  have HV := Aside0.mk (show IsVal Z x (.agg #[.int .i64 x.f0, .bool x.f1, .int .i64 x.f2, .string x.f3, .slice A4 x.f4.length c4]) from ⟨A4, c4, rfl, h4, h4m, hr4⟩)
  have HL := Aside0.mk (And.intro (show l.length ≤ cc - 1 by omega) (And.intro (show l.length ≤ 9223372036854775807 by omega) hrl2))
  clear hg z0 z1 z2 z3 z4 y0 y1 y2 y3 y4 hq hrl hr4 hrw hok hx hA' hrl2 h4 h4m hcc hmx
  have hu44 := Tryd.underlying44
  go_enter Tryd.func28, Tryd.ntmps28
  go_upto_region 1 with ((with_reducible refine gate_dst (N := 8) rfl ?_); refine box_event ?hg (N := 8) ?hd (cs := #[.int .i64 0, .bool false, .int .i64 0, .string (⟨#[]⟩ : ByteArray), .slice none 0 0]) (t := 44) ?hr ?_; (case hd => rfl); (case hg => rfl); (case hr => first | (go_simp; done) | (go_simp; rfl)); intro gR hg_gR w2 hbox_gR hb_gR; have HG := Aside0.mk hg_gR; have BK := Aside0.mk hbox_gR; have HB := Aside0.mk hb_gR; have BG := Aside0.mk (blk_below HGB.out hb_gR); clear hg_gR hbox_gR hb_gR)
  have hG0 : w2.cell? ⟨g, 0, none⟩ = some (.slice (some ⟨q, o, none⟩) (l.length + 1) cc) := (blk_cell BG.out 0).trans rfl
  have hq2 : w2.heap[q]? = w.heap[q]? := HB.out.block q hql
  have y0 := (cell_at (o := o) hq2).trans HY.out.1
  have y1 := (cell_at (o := o + 1) hq2).trans HY.out.2.1
  have y2 := (cell_at (o := o + 2) hq2).trans HY.out.2.2.1
  have y3 := (cell_at (o := o + 3) hq2).trans HY.out.2.2.2.1
  have y4 := (cell_at (o := o + 4) hq2).trans HY.out.2.2.2.2
  have hgR : w.heap.size ≤ gR := Nat.le_of_eq HG.out.symm
  clear hq2
  go_upto_region 4 with (first | (go_at_call 24; refine (HC.out _).mono ?_; rintro e w3 ⟨rfl, hb3⟩; have BK3 := Aside0.mk (blk_below BK.out hb3); have BG3 := Aside0.mk (blk_below BG.out hb3); have HB3 := Aside0.mk (below_step HB.out hb3); clear hb3 y0 y1 y2 y3 y4 hG0; have hG0 : w3.cell? ⟨g, 0, none⟩ = some (.slice (some ⟨q, o, none⟩) (l.length + 1) cc) := (blk_cell BG3.out 0).trans rfl; have hq2 := Aside0.mk (HB3.out.block q hql : w3.heap[q]? = w.heap[q]?); have y0 := (cell_at (o := o) hq2.out).trans HY.out.1; have y1 := (cell_at (o := o + 1) hq2.out).trans HY.out.2.1; have y2 := (cell_at (o := o + 2) hq2.out).trans HY.out.2.2.1; have y3 := (cell_at (o := o + 3) hq2.out).trans HY.out.2.2.2.1; have y4 := (cell_at (o := o + 4) hq2.out).trans HY.out.2.2.2.2) | ((with_reducible refine gate_dst (N := 10) rfl ?_); refine box_event ?hg (N := 10) ?hd (cs := #[.int .i64 0, .bool false, .int .i64 0, .string (⟨#[]⟩ : ByteArray), .slice none 0 0]) (t := 44) ?hr ?_; (case hd => rfl); (case hg => rfl); (case hr => first | (go_simp; done) | (go_simp; rfl)); intro gK hg_gK w4 hbox_gK hb_gK; have hgK0 : w4.cell? ⟨gK, 0, none⟩ = some (.int .i64 0) := (blk_cell hbox_gK 0).trans rfl; have hgK1 : w4.cell? ⟨gK, 1, none⟩ = some (.bool false) := (blk_cell hbox_gK 1).trans rfl; have hgK2 : w4.cell? ⟨gK, 2, none⟩ = some (.int .i64 0) := (blk_cell hbox_gK 2).trans rfl; have hgK3 : w4.cell? ⟨gK, 3, none⟩ = some (.string (⟨#[]⟩ : ByteArray)) := (blk_cell hbox_gK 3).trans rfl; have hgK4 : w4.cell? ⟨gK, 4, none⟩ = some (.slice none 0 0) := (blk_cell hbox_gK 4).trans rfl; have fgK0 := blk_frozen hbox_gK 0; have fgK1 := blk_frozen hbox_gK 1; have fgK2 := blk_frozen hbox_gK 2; have fgK3 := blk_frozen hbox_gK 3; have fgK4 := blk_frozen hbox_gK 4; have HGK := Aside0.mk hg_gK; have BT4 := Aside0.mk hbox_gK; have BK4 := Aside0.mk (blk_below BK3.out hb_gK); have BG4 := Aside0.mk (blk_below BG3.out hb_gK); have HB4 := Aside0.mk (below_step HB3.out hb_gK); have lK := Aside0.mk (hg_gK ▸ And.intro (blk_lt BK3.out) (blk_lt BG3.out) : gR < gK ∧ g < gK); clear hg_gK hbox_gK hb_gK))
  have lK1 := lK.out.1
  have lK2 := lK.out.2
  have hgK : w.heap.size ≤ gK := Nat.le_trans HB3.out.size (Nat.le_of_eq HGK.out.symm)
  have BT5 := Aside0.mk (put5 (u0 := .int .i64 x.f0) (u1 := .bool x.f1) (u2 := .int .i64 x.f2) (u3 := .string x.f3) (u4 := .slice A4 x.f4.length c4) BT4.out)
  have BK5 := Aside0.mk (far5b BK4.out (Nat.ne_of_gt lK1) (.int .i64 x.f0) (.bool x.f1) (.int .i64 x.f2) (.string x.f3) (.slice A4 x.f4.length c4))
  have BG5 := Aside0.mk (far5b BG4.out (Nat.ne_of_gt lK2) (.int .i64 x.f0) (.bool x.f1) (.int .i64 x.f2) (.string x.f3) (.slice A4 x.f4.length c4))
  have HB5 := Aside0.mk (below5 HB4.out hgK (.int .i64 x.f0) (.bool x.f1) (.int .i64 x.f2) (.string x.f3) (.slice A4 x.f4.length c4))
  clear y0 y1 y2 y3 y4 hG0 BT4 BK4 BG4 HB4 hgK0 hgK1 hgK2 hgK3 hgK4 fgK0 fgK1 fgK2 fgK3 fgK4 BK3 BG3 HB3 hq2 HGK lK HY HC
  generalize ((((w4.setCell ⟨gK, 0, none⟩ (.int .i64 x.f0)).setCell ⟨gK, 1, none⟩ (.bool x.f1)).setCell ⟨gK, 2, none⟩ (.int .i64 x.f2)).setCell ⟨gK, 3, none⟩ (.string x.f3)).setCell ⟨gK, 4, none⟩ (.slice A4 x.f4.length c4) = w5 at *
  have hG0 : w5.cell? ⟨g, 0, none⟩ = some (.slice (some ⟨q, o, none⟩) (l.length + 1) cc) := (blk_cell BG5.out 0).trans rfl
  have fG0 := blk_frozen BG5.out 0
  have hK0 : w5.cell? ⟨gK, 0, none⟩ = some (.int .i64 x.f0) := (blk_cell BT5.out 0).trans rfl
  have hK1 : w5.cell? ⟨gK, 1, none⟩ = some (.bool x.f1) := (blk_cell BT5.out 1).trans rfl
  have hK2 : w5.cell? ⟨gK, 2, none⟩ = some (.int .i64 x.f2) := (blk_cell BT5.out 2).trans rfl
  have hK3 : w5.cell? ⟨gK, 3, none⟩ = some (.string x.f3) := (blk_cell BT5.out 3).trans rfl
  have hK4 : w5.cell? ⟨gK, 4, none⟩ = some (.slice A4 x.f4.length c4) := (blk_cell BT5.out 4).trans rfl
  have hgR0 : w5.cell? ⟨gR, 0, none⟩ = some (.int .i64 0) := (blk_cell BK5.out 0).trans rfl
  have hgR1 : w5.cell? ⟨gR, 1, none⟩ = some (.bool false) := (blk_cell BK5.out 1).trans rfl
  have hgR2 : w5.cell? ⟨gR, 2, none⟩ = some (.int .i64 0) := (blk_cell BK5.out 2).trans rfl
  have hgR3 : w5.cell? ⟨gR, 3, none⟩ = some (.string (⟨#[]⟩ : ByteArray)) := (blk_cell BK5.out 3).trans rfl
  have hgR4 : w5.cell? ⟨gR, 4, none⟩ = some (.slice none 0 0) := (blk_cell BK5.out 4).trans rfl
  have fgR0 := blk_frozen BK5.out 0
  have fgR1 := blk_frozen BK5.out 1
  have fgR2 := blk_frozen BK5.out 2
  have fgR3 := blk_frozen BK5.out 3
  have fgR4 := blk_frozen BK5.out 4
  have n1 : g ≠ gR := Nat.ne_of_lt (Nat.lt_of_lt_of_le hgl hgR)
  have n2 : g ≠ gK := Nat.ne_of_lt lK2
  have n3 : gR ≠ gK := Nat.ne_of_lt lK1
  have n1' := n1.symm
  have n2' := n2.symm
  have n3' := n3.symm
  go_wp2_with fail
  refine may_end (put5 (blk_far BK5.out n1' _)) rfl rfl ⟨_, rfl, HV.out, ?_, ?_⟩
  · exact ⟨A', cc - 1, far5b (blk_put BG5.out 0 _ rfl) n1' _ _ _ _ _, HL.out.1, HL.out.2.1, HL.out.2.2⟩
  · have hk5 : Kp [g] w w5 := Kp.below HB5.out
    have hk6 : Kp [g] w (w5.setCell ⟨g, 0, none⟩ (.slice A' l.length (cc - 1))) := hk5.trans (Kp.set w5 g 0 _ (.inl (List.mem_singleton.mpr rfl)))
    refine ⟨by simpa [World.setCell] using hk6.1, fun i hi hs => ?_, hk6.3⟩
    have hne : i ≠ gR := by omega
    have hb : ∀ (W : World) (j : Nat) (u : Value), (W.setCell ⟨gR, j, none⟩ u).heap[i]? = W.heap[i]? := fun W j u => Below.heap_setCell W ⟨gR, j, none⟩ u i hne
    rw [hb, hb, hb, hb, hb]
    exact hk6.2 i hi hs
end Go.Proofs.YtghkgclbfjoilaaDoor.Msg
