/- Messages: must, end, text, number, truth, list. -/
import Derived.Test.YtghkgclbfjoilaaDoorMsgM
import Derived.Test.YtghkgclbfjoilaaDoorNumB
import Derived.WalkLawsBesides
set_option linter.unusedVariables false
set_option linter.unusedSimpArgs false
namespace Go.Proofs.YtghkgclbfjoilaaDoor.Msg
open Go.RowKit Go.Proofs.YtghkgclbfjoilaaDoorW.PrintWords Go.Proofs.YtghkgclbfjoilaaDoorW.PrintLast Go.Proofs.YtghkgclbfjoilaaDoorW.PrintMore Go.Proofs.YtghkgclbfjoilaaDoor.Pl Go.Proofs.YtghkgclbfjoilaaDoor.R

abbrev pan : Ending := .panicked [{ v := .iface 67 (.agg #[]), recovered := false }]
theorem agree_below {Z w w' : World} (ag : Agree Z w) (h : Below w.heap.size w w') : Agree Z w' := (Kp.below (s := []) h).agree ag (fun k hm => by cases hm) (fun k hk => agree_lt ag k hk)
theorem row_below {Z w w' : World} {g : Nat} {l : List S44} (h : IsRow Z w g l) (hb : Below w.heap.size w w') : IsRow Z w' g l := h.keep (Kp.below (s := []) hb) (by simp)
theorem row_lt {Z w : World} {g : Nat} {l : List S44} (h : IsRow Z w g l) : g < w.heap.size := by
  obtain ⟨A, c, h1, _⟩ := h
  exact blk_lt h1
theorem must_end {R : Ending → World → Prop} {tm : Array Value} {W : World} {gR : Nat} {t0 t1 t2 t3 t4 : Value} (hT : W.heap[gR]? = some (.cells #[t0, t1, t2, t3, t4] 44 (0, 0)))
    (p4 : tm.getD 8 undef = .pointer (some ⟨gR, 0, none⟩)) (h : R (.returned (.agg #[t0, t1, t2, t3, t4])) W) :
    bodyPost Tryd.prog Tryd.f49 R .ret { tmps := tm, defers := [] } W :=
  bodyPost_ret (results_cell_row (p := 8) (ty := 44) rfl tm W gR 44 #[t0, t1, t2, t3, t4] (0, 0) _ p4 hT Tryd.underlying44 rfl (by kernel_rfl)) rfl h
theorem kp1 {s : List Nat} {w W : World} {g j : Nat} (h : Kp s w W) (hg : w.heap.size ≤ g) (u : Value) : Kp s w (W.setCell ⟨g, j, none⟩ u) := by
  refine ⟨by simpa [World.setCell] using h.1, fun i hi hs => ?_, (rfl : (W.setCell ⟨g, j, none⟩ u).os = W.os).trans h.3.1, (rfl : (W.setCell ⟨g, j, none⟩ u).output = W.output).trans h.3.2⟩
  rw [Below.heap_setCell W ⟨g, j, none⟩ u i (by show i ≠ g; omega)]
  exact h.2 i hi hs
theorem kp5 {s : List Nat} {w W : World} {g : Nat} (h : Kp s w W) (hg : w.heap.size ≤ g) (u0 u1 u2 u3 u4 : Value) :
    Kp s w (((((W.setCell ⟨g, 0, none⟩ u0).setCell ⟨g, 1, none⟩ u1).setCell ⟨g, 2, none⟩ u2).setCell ⟨g, 3, none⟩ u3).setCell ⟨g, 4, none⟩ u4) :=
  kp1 (kp1 (kp1 (kp1 (kp1 h hg u0) hg u1) hg u2) hg u3) hg u4
theorem row_far5 {Z W : World} {g q : Nat} {l : List S44} (h : IsRow Z W g l) (hne : q ≠ g) (u0 u1 u2 u3 u4 : Value) :
    IsRow Z (((((W.setCell ⟨q, 0, none⟩ u0).setCell ⟨q, 1, none⟩ u1).setCell ⟨q, 2, none⟩ u2).setCell ⟨q, 3, none⟩ u3).setCell ⟨q, 4, none⟩ u4) g l := by
  obtain ⟨A, c, h1, h2⟩ := h
  exact ⟨A, c, far5b h1 hne _ _ _ _ _, h2⟩
theorem kp_blk {w w' : World} {g h : Nat} {o : Obj} (hb : w.heap[h]? = some o) (hk : Kp [g] w w') (hne : h ≠ g) : w'.heap[h]? = some o :=
  (hk.2 h (Array.getElem?_eq_some_iff.1 hb).1 (by simpa using hne)).trans hb
theorem kp_below {s : List Nat} {w w1 w2 : World} (h : Kp s w w1) (hb : Below w1.heap.size w1 w2) : Kp s w w2 := h.trans (Kp.below hb)
/-- w' is w with new blocks, and the row g moved -/
theorem kp_step {w w1 w2 : World} {g : Nat} (hb : Below w.heap.size w w1) (hk : Kp [g] w1 w2) : Kp [g] w w2 := (Kp.below hb).trans hk

set_option maxHeartbeats 2000000 in
set_option maxRecDepth 100000 in
theorem must_no (Z : World) (g : Nat) (l : List S44) (c t : Int) (k : Bool) (w : World) (hr : IsRow Z w g l) (ag : Agree Z w) (hx : missB l c t k) :
    Calls Tryd.prog 49 #[.pointer (some ⟨g, 0, none⟩), .int .i64 c, .int .i64 t, .bool k] w fun e w' => e = pan ∧ Below w.heap.size w w' := by
  have HC := Aside0.mk (fun (W : World) (hb : Below w.heap.size w W) => (show Calls Tryd.prog 28 #[.pointer (some ⟨g, 0, none⟩), .int .i64 c, .int .i64 t, .bool k] W (fun e w' => e = .returned (.tuple #[.agg #[.int .i64 0, .bool false, .int .i64 0, .string (⟨#[]⟩ : ByteArray), .slice none 0 0], .bool false]) ∧ Below W.heap.size W w') from by
    cases l with
    | nil => exact may_nil Z g c t k W (row_below hr hb)
    | cons x l => exact may_no Z g x l c t k W (row_below hr hb) (agree_below ag hb) (hx x l rfl)))
  clear hr ag hx
  have hu44 := Tryd.underlying44
  go_enter Tryd.func49, Tryd.ntmps49
  go_wp2_with (first | ((with_reducible refine gate_dst (N := 8) rfl ?_); refine box_event ?hg (N := 8) ?hd (cs := #[.int .i64 0, .bool false, .int .i64 0, .string (⟨#[]⟩ : ByteArray), .slice none 0 0]) (t := 44) ?hr ?_; (case hd => rfl); (case hg => rfl); (case hr => first | (go_simp; done) | (go_simp; rfl)); intro gR hg_gR w2 hbox_gR hb_gR; have HB := Aside0.mk hb_gR; clear hg_gR hbox_gR hb_gR) | (go_at_call 28; refine (HC.out _ HB.out).mono ?_; rintro e w3 ⟨rfl, hb3⟩; have HB3 := Aside0.mk (below_step HB.out hb3); clear hb3) | ((with_reducible refine gate_dst (N := 9) rfl ?_); refine box_event ?hg (N := 9) ?hd (cs := #[.int .i64 0, .bool false, .int .i64 0, .string (⟨#[]⟩ : ByteArray), .slice none 0 0]) (t := 44) ?hr ?_; (case hd => rfl); (case hg => rfl); (case hr => first | (go_simp; done) | (go_simp; rfl)); intro gK hg_gK w4 hbox_gK hb_gK; have hgK0 : w4.cell? ⟨gK, 0, none⟩ = some (.int .i64 0) := (blk_cell hbox_gK 0).trans rfl; have hgK1 : w4.cell? ⟨gK, 1, none⟩ = some (.bool false) := (blk_cell hbox_gK 1).trans rfl; have hgK2 : w4.cell? ⟨gK, 2, none⟩ = some (.int .i64 0) := (blk_cell hbox_gK 2).trans rfl; have hgK3 : w4.cell? ⟨gK, 3, none⟩ = some (.string (⟨#[]⟩ : ByteArray)) := (blk_cell hbox_gK 3).trans rfl; have hgK4 : w4.cell? ⟨gK, 4, none⟩ = some (.slice none 0 0) := (blk_cell hbox_gK 4).trans rfl; have fgK0 := blk_frozen hbox_gK 0; have fgK1 := blk_frozen hbox_gK 1; have fgK2 := blk_frozen hbox_gK 2; have fgK3 := blk_frozen hbox_gK 3; have fgK4 := blk_frozen hbox_gK 4; have HB4 := Aside0.mk (below_step HB3.out hb_gK); have HGK := Aside0.mk hg_gK; clear hg_gK hbox_gK hb_gK))
  exact ⟨rfl, rfl, below5 HB4.out (Nat.le_trans HB3.out.size (Nat.le_of_eq HGK.out.symm)) _ _ _ _ _⟩

set_option maxHeartbeats 2000000 in
set_option maxRecDepth 100000 in
theorem must_yes (Z : World) (g : Nat) (x : S44) (l : List S44) (c t : Int) (k : Bool) (w : World) (hr : IsRow Z w g (x :: l)) (ag : Agree Z w) (hx : isB x c t k = true) :
    Calls Tryd.prog 49 #[.pointer (some ⟨g, 0, none⟩), .int .i64 c, .int .i64 t, .bool k] w fun e w' => ∃ v, e = .returned v ∧ IsVal Z x v ∧ IsRow Z w' g l ∧ Kp [g] w w' := by
  have hgl := row_lt hr
  have HC := Aside0.mk (fun (W : World) (hb : Below w.heap.size w W) => may_yes Z g x l c t k W (row_below hr hb) (agree_below ag hb) hx)
  clear hr ag hx
  have hu44 := Tryd.underlying44
  go_enter Tryd.func49, Tryd.ntmps49
  go_wp2_with (first | ((with_reducible refine gate_dst (N := 8) rfl ?_); refine box_event ?hg (N := 8) ?hd (cs := #[.int .i64 0, .bool false, .int .i64 0, .string (⟨#[]⟩ : ByteArray), .slice none 0 0]) (t := 44) ?hr ?_; (case hd => rfl); (case hg => rfl); (case hr => first | (go_simp; done) | (go_simp; rfl)); intro gR hg_gR w2 hbox_gR hb_gR; have HG := Aside0.mk hg_gR; have BK := Aside0.mk hbox_gR; have HB := Aside0.mk hb_gR; clear hg_gR hbox_gR hb_gR) | (go_at_call 28; refine (HC.out _ HB.out).mono ?_; rintro e w3 ⟨v, rfl, ⟨A4, c4, rfl, hv1, hv2, hv3⟩, hrow, hk3⟩; have HV := Aside0.mk (And.intro hv1 (And.intro hv2 hv3)); have HR3 := Aside0.mk hrow; have lR := Aside0.mk (Nat.ne_of_gt (Nat.lt_of_lt_of_le hgl (Nat.le_of_eq HG.out.symm)) : gR ≠ g); have BK3 := Aside0.mk (kp_blk BK.out hk3 lR.out); have HK3 := Aside0.mk (kp_step HB.out hk3); clear hv1 hv2 hv3 hrow hk3) | ((with_reducible refine gate_dst (N := 9) rfl ?_); refine box_event ?hg (N := 9) ?hd (cs := #[.int .i64 0, .bool false, .int .i64 0, .string (⟨#[]⟩ : ByteArray), .slice none 0 0]) (t := 44) ?hr ?_; (case hd => rfl); (case hg => rfl); (case hr => first | (go_simp; done) | (go_simp; rfl)); intro gK hg_gK w4 hbox_gK hb_gK; have hgK0 : w4.cell? ⟨gK, 0, none⟩ = some (.int .i64 0) := (blk_cell hbox_gK 0).trans rfl; have hgK1 : w4.cell? ⟨gK, 1, none⟩ = some (.bool false) := (blk_cell hbox_gK 1).trans rfl; have hgK2 : w4.cell? ⟨gK, 2, none⟩ = some (.int .i64 0) := (blk_cell hbox_gK 2).trans rfl; have hgK3 : w4.cell? ⟨gK, 3, none⟩ = some (.string (⟨#[]⟩ : ByteArray)) := (blk_cell hbox_gK 3).trans rfl; have hgK4 : w4.cell? ⟨gK, 4, none⟩ = some (.slice none 0 0) := (blk_cell hbox_gK 4).trans rfl; have fgK0 := blk_frozen hbox_gK 0; have fgK1 := blk_frozen hbox_gK 1; have fgK2 := blk_frozen hbox_gK 2; have fgK3 := blk_frozen hbox_gK 3; have fgK4 := blk_frozen hbox_gK 4; have HGK := Aside0.mk hg_gK; have BK4 := Aside0.mk (blk_below BK3.out hb_gK); have HK4 := Aside0.mk (kp_below HK3.out hb_gK); have HR4 := Aside0.mk (row_below HR3.out hb_gK); have BT4 := Aside0.mk hbox_gK; have lK := Aside0.mk (hg_gK ▸ And.intro (blk_lt BK3.out) (row_lt HR3.out) : gR < gK ∧ g < gK); clear hg_gK hbox_gK hb_gK; have hgR0 : w4.cell? ⟨gR, 0, none⟩ = some (.int .i64 0) := (blk_cell BK4.out 0).trans rfl; have hgR1 : w4.cell? ⟨gR, 1, none⟩ = some (.bool false) := (blk_cell BK4.out 1).trans rfl; have hgR2 : w4.cell? ⟨gR, 2, none⟩ = some (.int .i64 0) := (blk_cell BK4.out 2).trans rfl; have hgR3 : w4.cell? ⟨gR, 3, none⟩ = some (.string (⟨#[]⟩ : ByteArray)) := (blk_cell BK4.out 3).trans rfl; have hgR4 : w4.cell? ⟨gR, 4, none⟩ = some (.slice none 0 0) := (blk_cell BK4.out 4).trans rfl; have fgR0 := blk_frozen BK4.out 0; have fgR1 := blk_frozen BK4.out 1; have fgR2 := blk_frozen BK4.out 2; have fgR3 := blk_frozen BK4.out 3; have fgR4 := blk_frozen BK4.out 4; have n1 := Nat.ne_of_lt lK.out.1; have n2 := Nat.ne_of_gt lK.out.1))
  have hgR := Nat.le_of_eq HG.out.symm
  have hgK : w.heap.size ≤ gK := Nat.le_trans HK3.out.1 (Nat.le_of_eq HGK.out.symm)
  refine must_end (put5 (far5b BK4.out n2 _ _ _ _ _)) rfl ⟨_, rfl, ⟨A4, c4, rfl, HV.out.1, HV.out.2.1, HV.out.2.2⟩, ?_, ?_⟩
  · exact row_far5 (row_far5 HR4.out (Nat.ne_of_gt lK.out.2) _ _ _ _ _) lR.out _ _ _ _ _
  · exact kp5 (kp5 HK4.out hgK _ _ _ _ _) hgR _ _ _ _ _

/-! end -/
set_option maxHeartbeats 1000000 in
set_option maxRecDepth 100000 in
theorem end_yes (Z : World) (g : Nat) (w : World) (hr : IsRow Z w g []) : Calls Tryd.prog 30 #[.pointer (some ⟨g, 0, none⟩)] w fun e w' => e = .returned (.tuple #[]) ∧ w = w' := by
  obtain ⟨A, cc, hg, _, _, _⟩ := hr
  have hG0 : w.cell? ⟨g, 0, none⟩ = some (.slice A 0 cc) := (blk_cell hg 0).trans rfl
  clear hg
  go_enter Tryd.func30, Tryd.ntmps30
  go_wp2
  go_end0
  exact ⟨rfl, rfl⟩
set_option maxHeartbeats 1000000 in
set_option maxRecDepth 100000 in
theorem end_no (Z : World) (g : Nat) (x : S44) (l : List S44) (w : World) (hr : IsRow Z w g (x :: l)) : Calls Tryd.prog 30 #[.pointer (some ⟨g, 0, none⟩)] w fun e w' => e = pan ∧ w = w' := by
  obtain ⟨A, cc, hg, _, _, _⟩ := hr
  have hG0 : w.cell? ⟨g, 0, none⟩ = some (.slice A (l.length + 1) cc) := (blk_cell hg 0).trans rfl
  clear hg
  have h0 : (0 : Int) < (l.length : Int) + 1 := by omega
  go_enter Tryd.func30, Tryd.ntmps30
  go_wp2
  exact ⟨rfl, rfl, rfl⟩

theorem fld3 (a : Int) (b : Bool) (c : Int) (s : ByteArray) (A : Option Addr) (n m : Nat) (W : World) : (Instr.field 44 (.agg #[.int .i64 a, .bool b, .int .i64 c, .string s, .slice A n m]) 3).run Tryd.prog W = .ok (.string s) W := by kernel_rfl
theorem fld4 (a : Int) (b : Bool) (c : Int) (s : ByteArray) (A : Option Addr) (n m : Nat) (W : World) : (Instr.field 44 (.agg #[.int .i64 a, .bool b, .int .i64 c, .string s, .slice A n m]) 4).run Tryd.prog W = .ok (.slice A n m) W := by kernel_rfl
/-! text -/
set_option maxHeartbeats 1000000 in
set_option maxRecDepth 100000 in
theorem text_yes (Z : World) (g : Nat) (x : S44) (l : List S44) (w : World) (hr : IsRow Z w g (x :: l)) (ag : Agree Z w) (hx : isB x 0 4 false = true) :
    Calls Tryd.prog 52 #[.pointer (some ⟨g, 0, none⟩)] w fun e w' => e = .returned (.string x.f3) ∧ IsRow Z w' g l ∧ Kp [g] w w' := by
  have HC := Aside0.mk (must_yes Z g x l 0 4 false w hr ag hx)
  clear hr ag hx
  have hfld := fld3
  go_enter Tryd.func52, Tryd.ntmps52
  go_wp2_with (go_at_call 49; refine HC.out.mono ?_; rintro e w3 ⟨v, rfl, ⟨A4, c4, rfl, hv1, hv2, hv3⟩, hrow, hk3⟩; have HR3 := Aside0.mk hrow; have HK3 := Aside0.mk hk3; clear hv1 hv2 hv3 hrow hk3)
  go_ret
  exact ⟨rfl, HR3.out, HK3.out⟩
set_option maxHeartbeats 1000000 in
set_option maxRecDepth 100000 in
theorem text_no (Z : World) (g : Nat) (l : List S44) (w : World) (hr : IsRow Z w g l) (ag : Agree Z w) (hx : missB l 0 4 false) :
    Calls Tryd.prog 52 #[.pointer (some ⟨g, 0, none⟩)] w fun e w' => e = pan ∧ Below w.heap.size w w' := by
  have HC := Aside0.mk (must_no Z g l 0 4 false w hr ag hx)
  clear hr ag hx
  have hfld := fld3
  go_enter Tryd.func52, Tryd.ntmps52
  go_wp2_with (go_at_call 49; refine HC.out.mono ?_; rintro e w3 ⟨rfl, hb⟩)
  exact ⟨rfl, rfl, hb⟩

/-! list -/
set_option maxHeartbeats 1000000 in
set_option maxRecDepth 100000 in
theorem list_yes (Z : World) (g : Nat) (x : S44) (l : List S44) (t : Int) (w : World) (hr : IsRow Z w g (x :: l)) (ag : Agree Z w) (hx : isB x 0 t true = true) :
    Calls Tryd.prog 51 #[.pointer (some ⟨g, 0, none⟩), .int .i64 t] w fun e w' => ∃ g2, e = .returned (.pointer (some ⟨g2, 0, none⟩)) ∧ w.heap.size ≤ g2 ∧ IsRow Z w' g2 x.f4 ∧ IsRow Z w' g l ∧ Kp [g] w w' := by
  have hgl := row_lt hr
  have HC := Aside0.mk (must_yes Z g x l 0 t true w hr ag hx)
  clear hr ag hx
  have hfld := fld4
  go_enter Tryd.func51, Tryd.ntmps51
  go_wp2_with (go_at_call 49; refine HC.out.mono ?_; rintro e w3 ⟨v, rfl, ⟨A4, c4, rfl, hv1, hv2, hv3⟩, hrow, hk3⟩; have HV := Aside0.mk (And.intro hv1 (And.intro hv2 hv3)); have HR3 := Aside0.mk hrow; have HK3 := Aside0.mk hk3; clear hv1 hv2 hv3 hrow hk3)
  go_ret
  refine ⟨_, rfl, HK3.out.1, ⟨A4, c4, heap_alloc_new w3 _, HV.out⟩, row_below HR3.out (below_alloc (Below.refl _ _) _), kp_below HK3.out (below_alloc (Below.refl _ _) _)⟩
set_option maxHeartbeats 1000000 in
set_option maxRecDepth 100000 in
theorem list_no (Z : World) (g : Nat) (l : List S44) (t : Int) (w : World) (hr : IsRow Z w g l) (ag : Agree Z w) (hx : missB l 0 t true) :
    Calls Tryd.prog 51 #[.pointer (some ⟨g, 0, none⟩), .int .i64 t] w fun e w' => e = pan ∧ Below w.heap.size w w' := by
  have HC := Aside0.mk (must_no Z g l 0 t true w hr ag hx)
  clear hr ag hx
  have hfld := fld4
  go_enter Tryd.func51, Tryd.ntmps51
  go_wp2_with (go_at_call 49; refine HC.out.mono ?_; rintro e w3 ⟨rfl, hb⟩)
  exact ⟨rfl, rfl, hb⟩

/-! number -/
theorem number_calls (x : S44) (A4 : Option Addr) (c4 : Nat) (w : World) (hc : Kd.C k44 w A4 x.f4.length x.f4) (hl : x.f4.length ≤ c4) :
    Calls Tryd.prog 48 #[.agg #[.int .i64 x.f0, .bool x.f1, .int .i64 x.f2, .string x.f3, .slice A4 x.f4.length c4]] w fun e w' => e = .returned (.tuple #[.int .i64 (numP x.f1 (L x.f3)).1, .int .i64 (numP x.f1 (L x.f3)).2]) ∧ Below w.heap.size w w' := by
  obtain ⟨k, hk⟩ := ev_out (number_ev x.f0 x.f1 x.f2 x.f3 x.f4).1
  exact ber_Number.calls k x.f0 x.f1 x.f2 x.f3 A4 c4 x.f4 _ _ w hc hl hk
def numOk (x : S44) (lo hi : Int) : Prop := (numP x.f1 (L x.f3)).2 = 0 ∧ lo ≤ (numP x.f1 (L x.f3)).1 ∧ (numP x.f1 (L x.f3)).1 ≤ hi
def numV (x : S44) : Int := (numP x.f1 (L x.f3)).1
set_option maxHeartbeats 1000000 in
set_option maxRecDepth 100000 in
theorem rnumber_yes (Z : World) (g : Nat) (x : S44) (l : List S44) (t lo hi : Int) (w : World) (hr : IsRow Z w g (x :: l)) (ag : Agree Z w) (hx : isB x 0 t false = true) (hn : numOk x lo hi) :
    Calls Tryd.prog 26 #[.pointer (some ⟨g, 0, none⟩), .int .i64 t, .int .i64 lo, .int .i64 hi] w fun e w' => e = .returned (.int .i64 (numV x)) ∧ IsRow Z w' g l ∧ Kp [g] w w' := by
  have HC := Aside0.mk (must_yes Z g x l 0 t false w hr ag hx)
  have HA := Aside0.mk (fun (W : World) (hk : Kp [g] w W) => row_agree hr ag hk)
  have HN := Aside0.mk (number_calls x)
  obtain ⟨h1, h2, h3⟩ := hn
  have HW := Aside0.mk (fun W : World => (show Calls Tryd.prog 36 #[.int .i64 (numP x.f1 (L x.f3)).1, .int .i64 lo, .int .i64 hi] W (fun e w' => e = .returned (.bool true) ∧ W = w') from by have := within_calls (numP x.f1 (L x.f3)).1 lo hi W; rwa [decide_eq_true (And.intro h2 h3)] at this))
  unfold numV
  generalize numP x.f1 (L x.f3) = np at *
  obtain ⟨n, e0⟩ := np
  simp only at h1 h2 h3 HW HN ⊢
  subst h1
  clear hr ag hx h2 h3
  go_enter Tryd.func26, Tryd.ntmps26
  go_wp2_with (first | (go_at_call 49; refine HC.out.mono ?_; rintro e w3 ⟨v, rfl, ⟨A4, c4, rfl, hv1, hv2, hv3⟩, hrow, hk3⟩; have HV := Aside0.mk (And.intro hv1 (And.intro hv2 hv3)); have HR3 := Aside0.mk hrow; have HK3 := Aside0.mk hk3; clear hv1 hv2 hv3 hrow hk3) | (go_at_call 48; refine (HN.out A4 c4 _ (rw_C HV.out.2.2 HV.out.2.1 (HA.out _ HK3.out)) HV.out.1).mono ?_; rintro e w5 ⟨rfl, hb5⟩; have HB5 := Aside0.mk hb5; clear hb5) | (go_at_call 36; refine (HW.out _).mono ?_; rintro e w6 ⟨rfl, rfl⟩))
  go_ret
  exact ⟨rfl, row_below HR3.out HB5.out, kp_below HK3.out HB5.out⟩
set_option maxHeartbeats 1000000 in
set_option maxRecDepth 100000 in
theorem rnumber_bad (Z : World) (g : Nat) (x : S44) (l : List S44) (t lo hi : Int) (w : World) (hr : IsRow Z w g (x :: l)) (ag : Agree Z w) (hx : isB x 0 t false = true) (hn : ¬ numOk x lo hi) :
    Calls Tryd.prog 26 #[.pointer (some ⟨g, 0, none⟩), .int .i64 t, .int .i64 lo, .int .i64 hi] w fun e w' => e = pan ∧ Kp [g] w w' := by
  have HC := Aside0.mk (must_yes Z g x l 0 t false w hr ag hx)
  have HA := Aside0.mk (fun (W : World) (hk : Kp [g] w W) => row_agree hr ag hk)
  have HN := Aside0.mk (number_calls x)
  unfold numOk at hn
  have HW := Aside0.mk (fun W : World => within_calls (numP x.f1 (L x.f3)).1 lo hi W)
  generalize numP x.f1 (L x.f3) = np at *
  obtain ⟨n, e0⟩ := np
  simp only at HW HN hn
  clear hr ag hx
  by_cases h0 : e0 = 0
  · subst h0
    have hd : decide (lo ≤ n ∧ n ≤ hi) = false := decide_eq_false (fun h => hn ⟨rfl, h⟩)
    rw [hd] at HW
    clear hd hn
    go_enter Tryd.func26, Tryd.ntmps26
    go_wp2_with (first | (go_at_call 49; refine HC.out.mono ?_; rintro e w3 ⟨v, rfl, ⟨A4, c4, rfl, hv1, hv2, hv3⟩, hrow, hk3⟩; have HV := Aside0.mk (And.intro hv1 (And.intro hv2 hv3)); have HR3 := Aside0.mk hrow; have HK3 := Aside0.mk hk3; clear hv1 hv2 hv3 hrow hk3) | (go_at_call 48; refine (HN.out A4 c4 _ (rw_C HV.out.2.2 HV.out.2.1 (HA.out _ HK3.out)) HV.out.1).mono ?_; rintro e w5 ⟨rfl, hb5⟩; have HB5 := Aside0.mk hb5; clear hb5) | (go_at_call 36; refine (HW.out _).mono ?_; rintro e w6 ⟨rfl, rfl⟩))
    exact ⟨rfl, rfl, kp_below HK3.out HB5.out⟩
  · have h0b : (e0 != 0) = true := bne_iff_ne.mpr h0
    clear hn h0 HW
    go_enter Tryd.func26, Tryd.ntmps26
    go_wp2_with (first | (go_at_call 49; refine HC.out.mono ?_; rintro e w3 ⟨v, rfl, ⟨A4, c4, rfl, hv1, hv2, hv3⟩, hrow, hk3⟩; have HV := Aside0.mk (And.intro hv1 (And.intro hv2 hv3)); have HR3 := Aside0.mk hrow; have HK3 := Aside0.mk hk3; clear hv1 hv2 hv3 hrow hk3) | (go_at_call 48; refine (HN.out A4 c4 _ (rw_C HV.out.2.2 HV.out.2.1 (HA.out _ HK3.out)) HV.out.1).mono ?_; rintro e w5 ⟨rfl, hb5⟩; have HB5 := Aside0.mk hb5; clear hb5))
    exact ⟨rfl, rfl, kp_below HK3.out HB5.out⟩
set_option maxHeartbeats 1000000 in
set_option maxRecDepth 100000 in
theorem rnumber_no (Z : World) (g : Nat) (l : List S44) (t lo hi : Int) (w : World) (hr : IsRow Z w g l) (ag : Agree Z w) (hx : missB l 0 t false) :
    Calls Tryd.prog 26 #[.pointer (some ⟨g, 0, none⟩), .int .i64 t, .int .i64 lo, .int .i64 hi] w fun e w' => e = pan ∧ Below w.heap.size w w' := by
  have HC := Aside0.mk (must_no Z g l 0 t false w hr ag hx)
  clear hr ag hx
  go_enter Tryd.func26, Tryd.ntmps26
  go_wp2_with (go_at_call 49; refine HC.out.mono ?_; rintro e w3 ⟨rfl, hb⟩)
  exact ⟨rfl, rfl, hb⟩
end Go.Proofs.YtghkgclbfjoilaaDoor.Msg
