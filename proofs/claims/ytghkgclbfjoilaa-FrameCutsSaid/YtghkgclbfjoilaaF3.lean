-- Written by a program of this claim (wip/tools/pp.py) out of the translation.
import Derived.Test.YtghkgclbfjoilaaF0
import Derived.Test.YtghkgclbfjoilaaF1
import Derived.Test.YtghkgclbfjoilaaF2
namespace Go.Proofs.Ytghkgclbfjoilaa.F
open Go.RowKit Go.Proofs.YtghkgclbfjoilaaW.PrintWords Go.Proofs.YtghkgclbfjoilaaW.PrintLast Go.Proofs.YtghkgclbfjoilaaW.PrintMore
attribute [local go_sem] max2_int min2_int max_two min_two max_three min_three max_four min_four   -- for this text's walks alone
set_option linter.unusedVariables false
set_option linter.unusedSimpArgs false

/-! ### rollbooklaw27_FrameCuts: function 5 -/
mutual
def rollbooklaw27_FrameCuts.l0 : Nat → List Int → List ByteArray → Int → Int → List ByteArray → ByteArray → Int → Int → ByteArray → Bool → Option (Bool)
  | 0, _, _, _, _, _, _, _, _, _, _ => none
  | k + 1, x1, x5, x6, x7, x9, x10, x11, x12, x154000, x154001 => if x12 ≤ (x1.length : Int) then (rollbooklaw27_FrameCuts.j1 k x1 x5 x6 x7 x9 x10 x11 x12 (decide (x12 ≤ 30)) x154000 x154001) else (rollbooklaw27_FrameCuts.j1 k x1 x5 x6 x7 x9 x10 x11 x12 false x154000 x154001)
def rollbooklaw27_FrameCuts.j1 : Nat → List Int → List ByteArray → Int → Int → List ByteArray → ByteArray → Int → Int → Bool → ByteArray → Bool → Option (Bool)
  | 0, _, _, _, _, _, _, _, _, _, _, _ => none
  | k + 1, x1, x5, x6, x7, x9, x10, x11, x12, x37, x154000, x154001 => if x37 = true then (if x12 < (x1.length : Int) then (rollbooklaw27_FrameCuts.j2 k x1 x5 x6 x7 x9 x10 x11 x12 (x10.size : Int) (decide (x12 < 30)) x154000 x154001) else (rollbooklaw27_FrameCuts.j2 k x1 x5 x6 x7 x9 x10 x11 x12 (x10.size : Int) false x154000 x154001)) else (if x10.toList = ([] : List UInt8) then (if x11 = x7 then ((rollbookref01_Same.f k x9 x5).bind fun t167 => (if t167 = true then ((frame_Framer_Rest.f x154000 x154001).bind fun bt168 => (if bt168.1 = x6 then ((frame_Framer_Broken.f bt168.2.1 bt168.2.2).bind fun bt171 => (some (bt171.1 == (x7 != 0)))) else (some false))) else (some false))) else (some false)) else (some false))
def rollbooklaw27_FrameCuts.j2 : Nat → List Int → List ByteArray → Int → Int → List ByteArray → ByteArray → Int → Int → Int → Bool → ByteArray → Bool → Option (Bool)
  | 0, _, _, _, _, _, _, _, _, _, _, _, _ => none
  | k + 1, x1, x5, x6, x7, x9, x10, x11, x12, x13, x49, x154000, x154001 => if x49 = true then (if 0 ≤ x12 then (if x12 < (x1.length : Int) then (if (IntKind.u64.wrap (wrap64 ((x10.size : Int) + 1))) = 0 then (none) else (rollbooklaw27_FrameCuts.j3 k x1 x5 x6 x7 x9 x10 x11 x12 (wrap64 (Int.tmod (IntKind.u64.wrap (rd x1 x12)) (IntKind.u64.wrap (wrap64 ((x10.size : Int) + 1))))) x154000 x154001)) else (none)) else (none)) else (rollbooklaw27_FrameCuts.j3 k x1 x5 x6 x7 x9 x10 x11 x12 x13 x154000 x154001)
def rollbooklaw27_FrameCuts.j3 : Nat → List Int → List ByteArray → Int → Int → List ByteArray → ByteArray → Int → Int → Int → ByteArray → Bool → Option (Bool)
  | 0, _, _, _, _, _, _, _, _, _, _, _ => none
  | k + 1, x1, x5, x6, x7, x9, x10, x11, x12, x13, x154000, x154001 => if 0 ≤ x13 then (if x13 ≤ (x10.size : Int) then ((frame_Framer_Feed.f k x154000 x154001 (x10.extract 0 (x13 : Int).toNat)).bind fun bt158 => (if x11 = 0 then (if x9.length + bt158.1.length < 8796093022208 then (rollbooklaw27_FrameCuts.l0 k x1 x5 x6 x7 (x9 ++ bt158.1) (x10.extract (x13 : Int).toNat x10.size) bt158.2.1 (wrap64 (x12 + 1)) bt158.2.2.1 bt158.2.2.2) else (none)) else (if bt158.2.1 = 12 then (if (bt158.1.length : Int) = 0 then (rollbooklaw27_FrameCuts.l0 k x1 x5 x6 x7 x9 (x10.extract (x13 : Int).toNat x10.size) x11 (wrap64 (x12 + 1)) bt158.2.2.1 bt158.2.2.2) else (some false)) else (some false)))) else (none)) else (none)
end
def rollbooklaw27_FrameCuts.f (k : Nat) (a0 : ByteArray) (l1 : List Int) : Option (Bool) := (rollbooklaw27_awake.f k).bind fun t145 => (if t145 = true then (if (a0.size : Int) > 20000 then (some true) else ((frame_Cut.f k a0).bind fun bt146 => ((frame_New.f).bind fun bt151 => (rollbooklaw27_FrameCuts.l0 k l1 bt146.1 bt146.2.1 bt146.2.2 (([] : List ByteArray)) a0 0 0 bt151.1 bt151.2)))) else (some false))
theorem rollbooklaw27_FrameCuts.mono_l : ∀ k, (∀ y0 y1 y2 y3 y4 y5 y6 y7 y8 y9, LeO (rollbooklaw27_FrameCuts.l0 k y0 y1 y2 y3 y4 y5 y6 y7 y8 y9) (rollbooklaw27_FrameCuts.l0 (k + 1) y0 y1 y2 y3 y4 y5 y6 y7 y8 y9)) ∧ (∀ y0 y1 y2 y3 y4 y5 y6 y7 y8 y9 y10, LeO (rollbooklaw27_FrameCuts.j1 k y0 y1 y2 y3 y4 y5 y6 y7 y8 y9 y10) (rollbooklaw27_FrameCuts.j1 (k + 1) y0 y1 y2 y3 y4 y5 y6 y7 y8 y9 y10)) ∧ (∀ y0 y1 y2 y3 y4 y5 y6 y7 y8 y9 y10 y11, LeO (rollbooklaw27_FrameCuts.j2 k y0 y1 y2 y3 y4 y5 y6 y7 y8 y9 y10 y11) (rollbooklaw27_FrameCuts.j2 (k + 1) y0 y1 y2 y3 y4 y5 y6 y7 y8 y9 y10 y11)) ∧ (∀ y0 y1 y2 y3 y4 y5 y6 y7 y8 y9 y10, LeO (rollbooklaw27_FrameCuts.j3 k y0 y1 y2 y3 y4 y5 y6 y7 y8 y9 y10) (rollbooklaw27_FrameCuts.j3 (k + 1) y0 y1 y2 y3 y4 y5 y6 y7 y8 y9 y10))
  | 0 => ⟨fun _ _ _ _ _ _ _ _ _ _ r h => by simp [rollbooklaw27_FrameCuts.l0] at h, fun _ _ _ _ _ _ _ _ _ _ _ r h => by simp [rollbooklaw27_FrameCuts.j1] at h, fun _ _ _ _ _ _ _ _ _ _ _ _ r h => by simp [rollbooklaw27_FrameCuts.j2] at h, fun _ _ _ _ _ _ _ _ _ _ _ r h => by simp [rollbooklaw27_FrameCuts.j3] at h⟩
  | k + 1 => by
    obtain ⟨ih0, ih1, ih2, ih3⟩ := rollbooklaw27_FrameCuts.mono_l k
    refine ⟨?_, ?_, ?_, ?_⟩
    · intro y0 y1 y2 y3 y4 y5 y6 y7 y8 y9
      unfold rollbooklaw27_FrameCuts.l0
      repeat' first
      | (with_reducible exact ih0 _ _ _ _ _ _ _ _ _ _)
      | (with_reducible exact ih1 _ _ _ _ _ _ _ _ _ _ _)
      | (with_reducible exact ih2 _ _ _ _ _ _ _ _ _ _ _ _)
      | (with_reducible exact ih3 _ _ _ _ _ _ _ _ _ _ _)
      | (with_reducible exact frame_Cut.mono _ _)
      | (with_reducible exact frame_Framer_Feed.mono _ _ _ _)
      | (with_reducible exact rollbooklaw27_awake.mono _)
      | (with_reducible exact rollbookref01_Same.mono _ _ _)
      | (with_reducible exact LeO.refl _)
      | (with_reducible exact LeO.none _)
      | (with_reducible refine LeO.ite ?_ ?_)
      | (with_reducible refine LeO.bind ?_ (fun _ => ?_))
      | exact ih0 _ _ _ _ _ _ _ _ _ _
      | exact ih1 _ _ _ _ _ _ _ _ _ _ _
      | exact ih2 _ _ _ _ _ _ _ _ _ _ _ _
      | exact ih3 _ _ _ _ _ _ _ _ _ _ _
      | exact frame_Cut.mono _ _
      | exact frame_Framer_Feed.mono _ _ _ _
      | exact rollbooklaw27_awake.mono _
      | exact rollbookref01_Same.mono _ _ _
      | exact LeO.none _
      | refine LeO.ite ?_ ?_
      | refine LeO.bind ?_ (fun _ => ?_)
    · intro y0 y1 y2 y3 y4 y5 y6 y7 y8 y9 y10
      unfold rollbooklaw27_FrameCuts.j1
      repeat' first
      | (with_reducible exact ih0 _ _ _ _ _ _ _ _ _ _)
      | (with_reducible exact ih1 _ _ _ _ _ _ _ _ _ _ _)
      | (with_reducible exact ih2 _ _ _ _ _ _ _ _ _ _ _ _)
      | (with_reducible exact ih3 _ _ _ _ _ _ _ _ _ _ _)
      | (with_reducible exact frame_Cut.mono _ _)
      | (with_reducible exact frame_Framer_Feed.mono _ _ _ _)
      | (with_reducible exact rollbooklaw27_awake.mono _)
      | (with_reducible exact rollbookref01_Same.mono _ _ _)
      | (with_reducible exact LeO.refl _)
      | (with_reducible exact LeO.none _)
      | (with_reducible refine LeO.ite ?_ ?_)
      | (with_reducible refine LeO.bind ?_ (fun _ => ?_))
      | exact ih0 _ _ _ _ _ _ _ _ _ _
      | exact ih1 _ _ _ _ _ _ _ _ _ _ _
      | exact ih2 _ _ _ _ _ _ _ _ _ _ _ _
      | exact ih3 _ _ _ _ _ _ _ _ _ _ _
      | exact frame_Cut.mono _ _
      | exact frame_Framer_Feed.mono _ _ _ _
      | exact rollbooklaw27_awake.mono _
      | exact rollbookref01_Same.mono _ _ _
      | exact LeO.none _
      | refine LeO.ite ?_ ?_
      | refine LeO.bind ?_ (fun _ => ?_)
    · intro y0 y1 y2 y3 y4 y5 y6 y7 y8 y9 y10 y11
      unfold rollbooklaw27_FrameCuts.j2
      repeat' first
      | (with_reducible exact ih0 _ _ _ _ _ _ _ _ _ _)
      | (with_reducible exact ih1 _ _ _ _ _ _ _ _ _ _ _)
      | (with_reducible exact ih2 _ _ _ _ _ _ _ _ _ _ _ _)
      | (with_reducible exact ih3 _ _ _ _ _ _ _ _ _ _ _)
      | (with_reducible exact frame_Cut.mono _ _)
      | (with_reducible exact frame_Framer_Feed.mono _ _ _ _)
      | (with_reducible exact rollbooklaw27_awake.mono _)
      | (with_reducible exact rollbookref01_Same.mono _ _ _)
      | (with_reducible exact LeO.refl _)
      | (with_reducible exact LeO.none _)
      | (with_reducible refine LeO.ite ?_ ?_)
      | (with_reducible refine LeO.bind ?_ (fun _ => ?_))
      | exact ih0 _ _ _ _ _ _ _ _ _ _
      | exact ih1 _ _ _ _ _ _ _ _ _ _ _
      | exact ih2 _ _ _ _ _ _ _ _ _ _ _ _
      | exact ih3 _ _ _ _ _ _ _ _ _ _ _
      | exact frame_Cut.mono _ _
      | exact frame_Framer_Feed.mono _ _ _ _
      | exact rollbooklaw27_awake.mono _
      | exact rollbookref01_Same.mono _ _ _
      | exact LeO.none _
      | refine LeO.ite ?_ ?_
      | refine LeO.bind ?_ (fun _ => ?_)
    · intro y0 y1 y2 y3 y4 y5 y6 y7 y8 y9 y10
      unfold rollbooklaw27_FrameCuts.j3
      repeat' first
      | (with_reducible exact ih0 _ _ _ _ _ _ _ _ _ _)
      | (with_reducible exact ih1 _ _ _ _ _ _ _ _ _ _ _)
      | (with_reducible exact ih2 _ _ _ _ _ _ _ _ _ _ _ _)
      | (with_reducible exact ih3 _ _ _ _ _ _ _ _ _ _ _)
      | (with_reducible exact frame_Cut.mono _ _)
      | (with_reducible exact frame_Framer_Feed.mono _ _ _ _)
      | (with_reducible exact rollbooklaw27_awake.mono _)
      | (with_reducible exact rollbookref01_Same.mono _ _ _)
      | (with_reducible exact LeO.refl _)
      | (with_reducible exact LeO.none _)
      | (with_reducible refine LeO.ite ?_ ?_)
      | (with_reducible refine LeO.bind ?_ (fun _ => ?_))
      | exact ih0 _ _ _ _ _ _ _ _ _ _
      | exact ih1 _ _ _ _ _ _ _ _ _ _ _
      | exact ih2 _ _ _ _ _ _ _ _ _ _ _ _
      | exact ih3 _ _ _ _ _ _ _ _ _ _ _
      | exact frame_Cut.mono _ _
      | exact frame_Framer_Feed.mono _ _ _ _
      | exact rollbooklaw27_awake.mono _
      | exact rollbookref01_Same.mono _ _ _
      | exact LeO.none _
      | refine LeO.ite ?_ ?_
      | refine LeO.bind ?_ (fun _ => ?_)
theorem rollbooklaw27_FrameCuts.mono : ∀ a0 a1 k, LeO (rollbooklaw27_FrameCuts.f k a0 a1) (rollbooklaw27_FrameCuts.f (k + 1) a0 a1) := by
  intro a0 a1 k
  obtain ⟨ih0, ih1, ih2, ih3⟩ := rollbooklaw27_FrameCuts.mono_l k
  unfold rollbooklaw27_FrameCuts.f
  repeat' first
      | (with_reducible exact ih0 _ _ _ _ _ _ _ _ _ _)
      | (with_reducible exact ih1 _ _ _ _ _ _ _ _ _ _ _)
      | (with_reducible exact ih2 _ _ _ _ _ _ _ _ _ _ _ _)
      | (with_reducible exact ih3 _ _ _ _ _ _ _ _ _ _ _)
      | (with_reducible exact frame_Cut.mono _ _)
      | (with_reducible exact frame_Framer_Feed.mono _ _ _ _)
      | (with_reducible exact rollbooklaw27_awake.mono _)
      | (with_reducible exact rollbookref01_Same.mono _ _ _)
      | (with_reducible exact LeO.refl _)
      | (with_reducible exact LeO.none _)
      | (with_reducible refine LeO.ite ?_ ?_)
      | (with_reducible refine LeO.bind ?_ (fun _ => ?_))
      | exact ih0 _ _ _ _ _ _ _ _ _ _
      | exact ih1 _ _ _ _ _ _ _ _ _ _ _
      | exact ih2 _ _ _ _ _ _ _ _ _ _ _ _
      | exact ih3 _ _ _ _ _ _ _ _ _ _ _
      | exact frame_Cut.mono _ _
      | exact frame_Framer_Feed.mono _ _ _ _
      | exact rollbooklaw27_awake.mono _
      | exact rollbookref01_Same.mono _ _ _
      | exact LeO.none _
      | refine LeO.ite ?_ ?_
      | refine LeO.bind ?_ (fun _ => ?_)
set_option maxHeartbeats 8000000 in
set_option maxRecDepth 100000 in
theorem rollbooklaw27_FrameCuts.calls (k : Nat) (a0 : ByteArray) (A1 : Option Addr) (c1 : Nat) (l1 : List Int) (r : Bool) (w : World) (hr1 : Kd.C (Kd.int .i64) w A1 l1.length l1) (hc1 : l1.length ≤ c1) (h : rollbooklaw27_FrameCuts.f k a0 l1 = some r) :
    Calls Try.prog 5 #[.string a0, .slice A1 l1.length c1] w fun e w' => e = .returned (.bool r) ∧ Below w.heap.size w w' := by
  have HR1 := Aside0.mk hr1
  have HC1 := Aside0.mk hc1
  clear hr1 hc1
  have HB := Aside0.mk (Below.refl w.heap.size w)
  have H : ((rollbooklaw27_awake.f k).bind fun t145 => (if t145 = true then (if (a0.size : Int) > 20000 then (some true) else ((frame_Cut.f k a0).bind fun bt146 => ((frame_New.f).bind fun bt151 => (rollbooklaw27_FrameCuts.l0 k l1 bt146.1 bt146.2.1 bt146.2.2 (([] : List ByteArray)) a0 0 0 bt151.1 bt151.2)))) else (some false))) = some r := h
  clear h
  replace H := Option.bind_eq_some_iff.mp H
  obtain ⟨t145, A30, H⟩ := H
  replace H : (if t145 = true then (if (a0.size : Int) > 20000 then (some true) else ((frame_Cut.f k a0).bind fun bt146 => ((frame_New.f).bind fun bt151 => (rollbooklaw27_FrameCuts.l0 k l1 bt146.1 bt146.2.1 bt146.2.2 (([] : List ByteArray)) a0 0 0 bt151.1 bt151.2)))) else (some false)) = some r := H
  have A3 := Aside0.mk A30
  clear A30
  by_cases c4 : t145 = true
  · subst c4
    have H1 : (if (a0.size : Int) > 20000 then (some true) else ((frame_Cut.f k a0).bind fun bt146 => ((frame_New.f).bind fun bt151 => (rollbooklaw27_FrameCuts.l0 k l1 bt146.1 bt146.2.1 bt146.2.2 (([] : List ByteArray)) a0 0 0 bt151.1 bt151.2)))) = some r := by rw [if_pos rfl] at H; exact H
    clear H
    have H := H1
    clear H1
    by_cases c5 : (a0.size : Int) > 20000
    · rw [if_pos c5] at H
      have c5b0 : decide (20000 < (a0.size : Int)) = true := decide_eq_true c5
      have c5b1 : decide (20000 < a0.size) = true := decide_eq_true (by omega)
      clear c5
      obtain rfl := Option.some.inj H
      go_enter Try.func5, Try.ntmps5
      go_wp2_with (first | ((with_reducible refine gate_callee (f := 10) rfl ?_); refine goesL_ (some 16) rfl rfl Try.func10 (by kernel_rfl) rfl #[] rfl (by (try simp only [List.map_toArray, List.map_cons, List.map_nil]); first | done | rfl | (simp only [List.length_drop, List.length_take]; rfl)) ?_; (with_reducible refine (rollbooklaw27_awake.calls k  true _ A3.out).mono ?_); rintro e w6 ⟨rfl, hb⟩; refine ⟨_, rfl, ?_⟩; have n0_ := Aside0.mk (below_step (by repeat (first | (with_reducible first | exact HB.out | apply below_alloc | apply pw_below_drewN | apply below_drew1) | exact HB.out)) hb); clear HB; have HB := n0_; clear n0_; (try clear hb); (try clear hb2); (try clear hk); (try clear hi)))
      go_ret
      exact ⟨by first | rfl | (simp [errW_none, errW_some] <;> rfl) | (simp [*, errW_none, errW_some] <;> rfl), by repeat (first | (with_reducible first | exact HB.out | apply below_alloc | apply pw_below_drewN | apply below_drew1) | exact HB.out)⟩
    · rw [if_neg c5] at H
      have c5b0 : decide (20000 < (a0.size : Int)) = false := decide_eq_false c5
      have c5b1 : decide (20000 < a0.size) = false := decide_eq_false (by omega)
      clear c5
      replace H := Option.bind_eq_some_iff.mp H
      obtain ⟨⟨t146, t147, t148⟩, A70, H⟩ := H
      replace H : ((frame_New.f).bind fun bt151 => (rollbooklaw27_FrameCuts.l0 k l1 t146 t147 t148 (([] : List ByteArray)) a0 0 0 bt151.1 bt151.2)) = some r := H
      have A7 := Aside0.mk A70
      clear A70
      replace H := Option.bind_eq_some_iff.mp H
      obtain ⟨⟨t151, t152⟩, A80, H⟩ := H
      replace H : (rollbooklaw27_FrameCuts.l0 k l1 t146 t147 t148 (([] : List ByteArray)) a0 0 0 t151 t152) = some r := H
      have A8 := Aside0.mk A80
      clear A80
      obtain ⟨y154, hy154⟩ : ∃ y_ : List ByteArray, y_ = (([] : List ByteArray)) := ⟨_, rfl⟩
      replace H : (rollbooklaw27_FrameCuts.l0 k l1 t146 t147 t148 y154 a0 0 0 t151 t152) = some r := by first | (rw [hy154]; with_reducible exact H) | (have H2_ := (Option.bind_some _ _).symm.trans H; rw [hy154]; with_reducible exact H2_) | (have H2_ := (Option.bind_some _ _).symm.trans H; with_reducible exact H2_) | with_reducible exact H | (rw [hy154]; exact H) | exact H
      have Ny154 := Aside0.mk hy154
      clear hy154
      have H' := Aside0.mk H
      clear H
      go_enter Try.func5, Try.ntmps5
      go_wp2_with (first | ((with_reducible refine gate_callee (f := 10) rfl ?_); refine goesL_ (some 16) rfl rfl Try.func10 (by kernel_rfl) rfl #[] rfl (by (try simp only [List.map_toArray, List.map_cons, List.map_nil]); first | done | rfl | (simp only [List.length_drop, List.length_take]; rfl)) ?_; (with_reducible refine (rollbooklaw27_awake.calls k  true _ A3.out).mono ?_); rintro e w9 ⟨rfl, hb⟩; refine ⟨_, rfl, ?_⟩; have n0_ := Aside0.mk (below_step (by repeat (first | (with_reducible first | exact HB.out | apply below_alloc | apply pw_below_drewN | apply below_drew1) | exact HB.out)) hb); clear HB; have HB := n0_; clear n0_; (try clear hb); (try clear hb2); (try clear hk); (try clear hi)) | ((with_reducible refine gate_callee (f := 17) rfl ?_); refine goesL_ (some 23) rfl rfl Try.func17 (by kernel_rfl) rfl #[.string a0] rfl (by (try simp only [List.map_toArray, List.map_cons, List.map_nil]); first | done | rfl | (simp only [List.length_drop, List.length_take]; rfl)) ?_; (with_reducible refine (frame_Cut.calls k a0 t146 t147 t148 _ A7.out).mono ?_); rintro e w10 ⟨v149, rfl, ho0, hb⟩; refine ⟨_, rfl, ?_⟩; have n0_ := Aside0.mk (Kd.R_lower ho0 (below_size (by repeat (first | (with_reducible first | exact HB.out | apply below_alloc | apply pw_below_drewN | apply below_drew1) | exact HB.out)))); have n1_ := Aside0.mk (below_step (by repeat (first | (with_reducible first | exact HB.out | apply below_alloc | apply pw_below_drewN | apply below_drew1) | exact HB.out)) hb); clear HB; have HO150 := n0_; have HB := n1_; clear n0_ n1_; (try clear hb); (try clear hb2); (try clear hk); (try clear hi); (try clear ho0)) | ((with_reducible refine gate_callee (f := 11) rfl ?_); refine goesL_ (some 27) rfl rfl Try.func11 (by kernel_rfl) rfl #[] rfl (by (try simp only [List.map_toArray, List.map_cons, List.map_nil]); first | done | rfl | (simp only [List.length_drop, List.length_take]; rfl)) ?_; (with_reducible refine (frame_New.calls  t151 t152 w _ ?side1 A8.out).mono ?_); (case side1 => repeat (first | (with_reducible first | exact HB.out | apply below_alloc | apply pw_below_drewN | apply below_drew1) | exact HB.out)); rintro e w11 ⟨g153, rfl, hi, hb, hb2⟩; refine ⟨_, rfl, ?_⟩; have n0_ := Aside0.mk (Kd.R_below (by (with_reducible repeat (first | apply Kd.R_alloc | apply Kd.R_drewN | apply Kd.R_drew)); exact HO150.out) hb2); have n1_ := Aside0.mk (hb); have n2_ := Aside0.mk (hi); clear HO150; clear HB; have HO150 := n0_; have HB := n1_; have HI153 := n2_; clear n0_ n1_ n2_; (try clear hb); (try clear hb2); (try clear hk); (try clear hi)) | ((with_reducible refine gate_dst (N := 28) rfl ?_); (try (refine gate_guard (by rfl) ?_; dsimp only)); refine Kd.R_lit Kd.string _ 9 ?hg (N := 28) ?hd (xs := ([] : List ByteArray)) (inner := []) (ok := fun _ => True) (okp := fun _ => True) ?hr ?hp (fun _ hk => hk) trivial (Below.refl _ _) (Nat.le_refl _) (by simp) ?_; (case hd => rfl); (case hg => rfl); (case hr => first | (go_simp; done) | (go_simp; rfl)); (case hp => exact (Reps.none _ _)); intro v155 w12 ho13 hb hg_ hnew_; clear hg_ hnew_; (first | rw [← Ny154.out] at ho13 | (simp only [Int.reduceToNat] at ho13; rw [← Ny154.out] at ho13)); have n0_ := Aside0.mk (Kd.R_elder' (by (with_reducible repeat (first | apply Kd.R_alloc | apply Kd.R_drewN | apply Kd.R_drew)); exact HO150.out) (Kd.R_base ho13) hb); have n1_ := Aside0.mk (Kd.R_lower (Kd.R_new' ho13 (Kd.R_lt (by (with_reducible repeat (first | apply Kd.R_alloc | apply Kd.R_drewN | apply Kd.R_drew)); exact HO150.out))) (below_size (by repeat (first | (with_reducible first | exact HB.out | apply below_alloc | apply pw_below_drewN | apply below_drew1 | refine below_set ?_ (IsS63.ge HI153.out)) | exact HB.out)))); have n2_ := Aside0.mk (IsS63.below (by repeat (first | (with_reducible first | exact HI153.out | apply IsS63.alloc | apply IsS63.drewN | apply IsS63.drew | apply IsS63.set_0 | apply IsS63.set_1) | exact HI153.out)) hb); have n3_ := Aside0.mk (below_step (by repeat (first | (with_reducible first | exact HB.out | apply below_alloc | apply pw_below_drewN | apply below_drew1 | refine below_set ?_ (IsS63.ge HI153.out)) | exact HB.out)) hb); clear HO150; clear HI153; clear HB; have HO150 := n0_; have HO156 := n1_; have HI153 := n2_; have HB := n3_; clear n0_ n1_ n2_ n3_; clear hb ho13))
      go_loopg [9, 10, 11, 12] k (fun kq v9 v10 v11 v12 w' => ∃ (x9_1 : List ByteArray) (x10_1 : ByteArray) (x11_1 : Int) (x12_1 : Int) (x154000_1 : ByteArray) (x154001_1 : Bool), v10 = .string x10_1 ∧ v11 = .int .i64 x11_1 ∧ v12 = .int .i64 x12_1 ∧ Aside0 (rollbooklaw27_FrameCuts.l0 kq l1 t146 t147 t148 x9_1 x10_1 x11_1 x12_1 x154000_1 x154001_1 = some r) ∧ Aside0 (kq ≤ k) ∧ Aside0 (Kd.R Kd.string 9 w' w.heap.size (fun k_ => some k_ ≠ (v9 : Value).ownBlock) v149 t146) ∧ Aside0 (Kd.R Kd.string 9 w' w.heap.size (fun k_ => some k_ ≠ (v149 : Value).ownBlock) v9 x9_1) ∧ Aside0 (IsS63 w w' g153 x154000_1 x154001_1) ∧ Aside0 (Below w.heap.size w w'))
      case atStart => exact ⟨(y154), (a0), (0), (0), (t151), (t152), (by first | rfl | (simp; done) | (simp [*]; done)), (by first | rfl | (simp; done) | (simp [*]; done)), (by first | rfl | (simp; done) | (simp [*]; done)), H', ⟨Nat.le_refl _⟩, ⟨by (with_reducible repeat (first | apply Kd.R_alloc | apply Kd.R_drewN | apply Kd.R_drew)); exact Kd.R_mono HO150.out (fun _ hk => hk.2)⟩, ⟨by (with_reducible repeat (first | apply Kd.R_alloc | apply Kd.R_drewN | apply Kd.R_drew)); exact Kd.R_mono HO156.out (fun _ hk => hk.2)⟩, ⟨by repeat (first | (with_reducible first | exact HI153.out | apply IsS63.alloc | apply IsS63.drewN | apply IsS63.drew | apply IsS63.set_0 | apply IsS63.set_1) | exact HI153.out)⟩, ⟨by repeat (first | (with_reducible first | exact HB.out | apply below_alloc | apply pw_below_drewN | apply below_drew1 | refine below_set ?_ (IsS63.ge HI153.out)) | exact HB.out)⟩⟩
      case round =>
        clear H'
        try clear c1
        try clear p2
        try clear c4
        try clear c5
        try clear c5b0
        try clear c5b1
        try clear c10
        try clear c11
        obtain ⟨x9_1, x10_1, x11_1, x12_1, x154000_1, x154001_1, rfl, rfl, rfl, HA, HK1, HO_5, HO_9, HI153, HB⟩ := hrel
        cases gk with
        | zero => exact absurd HA.out (by simp [rollbooklaw27_FrameCuts.l0])
        | succ k1 =>
          have H := HA.out
          clear HA
          simp only [rollbooklaw27_FrameCuts.l0] at H
          have HC14 := Aside0.mk H
          clear H
          go_upto_region 11 with (fail)
          go_cut [37] (fun v37 wc => ∃ (kq : Nat) (x37_13 : Bool), v37 = .bool x37_13 ∧ Aside0 (rollbooklaw27_FrameCuts.j1 kq l1 t146 t147 t148 x9_1 x10_1 x11_1 x12_1 x37_13 x154000_1 x154001_1 = some r) ∧ Aside0 (kq ≤ k1) ∧ Aside0 (Kd.R Kd.string 9 wc w.heap.size (fun k_ => some k_ ≠ (u9 : Value).ownBlock) v149 t146) ∧ Aside0 (Kd.R Kd.string 9 wc w.heap.size (fun k_ => some k_ ≠ (v149 : Value).ownBlock) u9 x9_1) ∧ Aside0 (IsS63 w wc g153 x154000_1 x154001_1) ∧ Aside0 (Below w.heap.size w wc))
          case first =>
            have H := HC14.out
            clear HC14
            by_cases c15 : x12_1 ≤ (l1.length : Int)
            · rw [if_pos c15] at H
              have c15b0 : decide (x12_1 ≤ (l1.length : Int)) = true := decide_eq_true c15
              clear c15
              (first | rw [c15b0] | (simp only [i64_w, i32_w]; rw [c15b0]) | skip)
              have H' := Aside0.mk H
              clear H
              go_wp2
              go_meet
              case rel => exact ⟨_, (decide (x12_1 ≤ 30)), (by first | rfl | (simp; done) | (simp [*]; done)), H', ⟨by have := HK1.out; first | omega | exact Nat.le_refl _⟩, ⟨by (with_reducible repeat (first | apply Kd.R_alloc | apply Kd.R_drewN | apply Kd.R_drew)); exact HO_5.out⟩, ⟨by (with_reducible repeat (first | apply Kd.R_alloc | apply Kd.R_drewN | apply Kd.R_drew)); exact HO_9.out⟩, ⟨by repeat (first | (with_reducible first | exact HI153.out | apply IsS63.alloc | apply IsS63.drewN | apply IsS63.drew | apply IsS63.set_0 | apply IsS63.set_1) | exact HI153.out)⟩, ⟨by repeat (first | (with_reducible first | exact HB.out | apply below_alloc | apply pw_below_drewN | apply below_drew1 | refine below_set ?_ (IsS63.ge HI153.out)) | exact HB.out)⟩⟩
            · rw [if_neg c15] at H
              have c15b0 : decide (x12_1 ≤ (l1.length : Int)) = false := decide_eq_false c15
              clear c15
              (first | rw [c15b0] | (simp only [i64_w, i32_w]; rw [c15b0]) | skip)
              have H' := Aside0.mk H
              clear H
              go_wp2
              go_meet
              case rel => exact ⟨_, (false), (by first | rfl | (simp; done) | (simp [*]; done)), H', ⟨by have := HK1.out; first | omega | exact Nat.le_refl _⟩, ⟨by (with_reducible repeat (first | apply Kd.R_alloc | apply Kd.R_drewN | apply Kd.R_drew)); exact HO_5.out⟩, ⟨by (with_reducible repeat (first | apply Kd.R_alloc | apply Kd.R_drewN | apply Kd.R_drew)); exact HO_9.out⟩, ⟨by repeat (first | (with_reducible first | exact HI153.out | apply IsS63.alloc | apply IsS63.drewN | apply IsS63.drew | apply IsS63.set_0 | apply IsS63.set_1) | exact HI153.out)⟩, ⟨by repeat (first | (with_reducible first | exact HB.out | apply below_alloc | apply pw_below_drewN | apply below_drew1 | refine below_set ?_ (IsS63.ge HI153.out)) | exact HB.out)⟩⟩
          case rest =>
            clear HC14
            try clear c1
            try clear p2
            try clear c4
            try clear c5
            try clear c5b0
            try clear c5b1
            try clear c10
            try clear c11
            try clear c15
            try clear c15b0
            try clear p2
            obtain ⟨kq, x37_13, rfl, HA, HJ13, HO_5, HO_9, HI153, HB⟩ := hcut
            cases kq with
            | zero => exact absurd HA.out (by simp [rollbooklaw27_FrameCuts.j1])
            | succ kj13 =>
              have H := HA.out
              clear HA
              simp only [rollbooklaw27_FrameCuts.j1] at H
              by_cases c16 : x37_13 = true
              · subst c16
                have H1 : (if x12_1 < (l1.length : Int) then (rollbooklaw27_FrameCuts.j2 kj13 l1 t146 t147 t148 x9_1 x10_1 x11_1 x12_1 (x10_1.size : Int) (decide (x12_1 < 30)) x154000_1 x154001_1) else (rollbooklaw27_FrameCuts.j2 kj13 l1 t146 t147 t148 x9_1 x10_1 x11_1 x12_1 (x10_1.size : Int) false x154000_1 x154001_1)) = some r := by rw [if_pos rfl] at H; exact H
                clear H
                have H := H1
                clear H1
                have HC17 := Aside0.mk H
                clear H
                go_upto_region 14 with (fail)
                go_cut [49] (fun v49 wc => ∃ (kq : Nat) (x49_16 : Bool), v49 = .bool x49_16 ∧ Aside0 (rollbooklaw27_FrameCuts.j2 kq l1 t146 t147 t148 x9_1 x10_1 x11_1 x12_1 (x10_1.size : Int) x49_16 x154000_1 x154001_1 = some r) ∧ Aside0 (kq ≤ kj13) ∧ Aside0 (Kd.R Kd.string 9 wc w.heap.size (fun k_ => some k_ ≠ (u9 : Value).ownBlock) v149 t146) ∧ Aside0 (Kd.R Kd.string 9 wc w.heap.size (fun k_ => some k_ ≠ (v149 : Value).ownBlock) u9 x9_1) ∧ Aside0 (IsS63 w wc g153 x154000_1 x154001_1) ∧ Aside0 (Below w.heap.size w wc))
                case first =>
                  have H := HC17.out
                  clear HC17
                  by_cases c18 : x12_1 < (l1.length : Int)
                  · rw [if_pos c18] at H
                    have c18b0 : decide (x12_1 < (l1.length : Int)) = true := decide_eq_true c18
                    clear c18
                    (first | rw [c18b0] | (simp only [i64_w, i32_w]; rw [c18b0]) | skip)
                    have H' := Aside0.mk H
                    clear H
                    go_wp2
                    go_meet
                    case rel => exact ⟨_, (decide (x12_1 < 30)), (by first | rfl | (simp; done) | (simp [*]; done)), H', ⟨by have := HK1.out; have := HJ13.out; first | omega | exact Nat.le_refl _⟩, ⟨by (with_reducible repeat (first | apply Kd.R_alloc | apply Kd.R_drewN | apply Kd.R_drew)); exact HO_5.out⟩, ⟨by (with_reducible repeat (first | apply Kd.R_alloc | apply Kd.R_drewN | apply Kd.R_drew)); exact HO_9.out⟩, ⟨by repeat (first | (with_reducible first | exact HI153.out | apply IsS63.alloc | apply IsS63.drewN | apply IsS63.drew | apply IsS63.set_0 | apply IsS63.set_1) | exact HI153.out)⟩, ⟨by repeat (first | (with_reducible first | exact HB.out | apply below_alloc | apply pw_below_drewN | apply below_drew1 | refine below_set ?_ (IsS63.ge HI153.out)) | exact HB.out)⟩⟩
                  · rw [if_neg c18] at H
                    have c18b0 : decide (x12_1 < (l1.length : Int)) = false := decide_eq_false c18
                    clear c18
                    (first | rw [c18b0] | (simp only [i64_w, i32_w]; rw [c18b0]) | skip)
                    have H' := Aside0.mk H
                    clear H
                    go_wp2
                    go_meet
                    case rel => exact ⟨_, (false), (by first | rfl | (simp; done) | (simp [*]; done)), H', ⟨by have := HK1.out; have := HJ13.out; first | omega | exact Nat.le_refl _⟩, ⟨by (with_reducible repeat (first | apply Kd.R_alloc | apply Kd.R_drewN | apply Kd.R_drew)); exact HO_5.out⟩, ⟨by (with_reducible repeat (first | apply Kd.R_alloc | apply Kd.R_drewN | apply Kd.R_drew)); exact HO_9.out⟩, ⟨by repeat (first | (with_reducible first | exact HI153.out | apply IsS63.alloc | apply IsS63.drewN | apply IsS63.drew | apply IsS63.set_0 | apply IsS63.set_1) | exact HI153.out)⟩, ⟨by repeat (first | (with_reducible first | exact HB.out | apply below_alloc | apply pw_below_drewN | apply below_drew1 | refine below_set ?_ (IsS63.ge HI153.out)) | exact HB.out)⟩⟩
                case rest =>
                  clear HC17
                  try clear c1
                  try clear p2
                  try clear c4
                  try clear c5
                  try clear c5b0
                  try clear c5b1
                  try clear c10
                  try clear c11
                  try clear c15
                  try clear c15b0
                  try clear c16
                  try clear c17
                  try clear c18
                  try clear c18b0
                  try clear p2
                  obtain ⟨kq, x49_16, rfl, HA, HJ16, HO_5, HO_9, HI153, HB⟩ := hcut
                  cases kq with
                  | zero => exact absurd HA.out (by simp [rollbooklaw27_FrameCuts.j2])
                  | succ kj16 =>
                    have H := HA.out
                    clear HA
                    simp only [rollbooklaw27_FrameCuts.j2] at H
                    have HC19 := Aside0.mk H
                    clear H
                    go_upto_if 49 with (fail)
                    go_cut [13] (fun v13 wc => ∃ (kq : Nat) (x13_18 : Int), v13 = .int .i64 x13_18 ∧ Aside0 (rollbooklaw27_FrameCuts.j3 kq l1 t146 t147 t148 x9_1 x10_1 x11_1 x12_1 x13_18 x154000_1 x154001_1 = some r) ∧ Aside0 (kq ≤ kj16) ∧ Aside0 (Kd.R Kd.string 9 wc w.heap.size (fun k_ => some k_ ≠ (u9 : Value).ownBlock) v149 t146) ∧ Aside0 (Kd.R Kd.string 9 wc w.heap.size (fun k_ => some k_ ≠ (v149 : Value).ownBlock) u9 x9_1) ∧ Aside0 (IsS63 w wc g153 x154000_1 x154001_1) ∧ Aside0 (Below w.heap.size w wc))
                    case first =>
                      have H := HC19.out
                      clear HC19
                      by_cases c20 : x49_16 = true
                      · subst c20
                        have H1 : (if 0 ≤ x12_1 then (if x12_1 < (l1.length : Int) then (if (IntKind.u64.wrap (wrap64 ((x10_1.size : Int) + 1))) = 0 then (none) else (rollbooklaw27_FrameCuts.j3 kj16 l1 t146 t147 t148 x9_1 x10_1 x11_1 x12_1 (wrap64 (Int.tmod (IntKind.u64.wrap (rd l1 x12_1)) (IntKind.u64.wrap (wrap64 ((x10_1.size : Int) + 1))))) x154000_1 x154001_1)) else (none)) else (none)) = some r := by rw [if_pos rfl] at H; exact H
                        clear H
                        have H := H1
                        clear H1
                        by_cases c21 : 0 ≤ x12_1
                        · rw [if_pos c21] at H
                          have c21b0 : decide (0 ≤ x12_1) = true := decide_eq_true c21
                          clear c21
                          (first | rw [c21b0] | (simp only [i64_w, i32_w]; rw [c21b0]) | skip)
                          by_cases c22 : x12_1 < (l1.length : Int)
                          · rw [if_pos c22] at H
                            have c22b0 : decide (x12_1 < (l1.length : Int)) = true := decide_eq_true c22
                            clear c22
                            by_cases c23 : (IntKind.u64.wrap (wrap64 ((x10_1.size : Int) + 1))) = 0
                            · rw [if_pos c23] at H
                              exact absurd H (by simp)
                            · rw [if_neg c23] at H
                              have c23b0 : ((IntKind.u64.wrap (wrap64 ((x10_1.size : Int) + 1))) == 0) = false := beq_eq_false_iff_ne.mpr c23
                              have c23b1 : ((IntKind.u64.wrap (wrap64 ((x10_1.size : Int) + 1))) != 0) = true := bne_iff_ne.mpr c23
                              have H' := Aside0.mk H
                              clear H
                              have p157 : 0 ≤ (x12_1 : Int) := of_decide_eq_true (by first | (with_reducible assumption) | assumption)
                              have q157 : x12_1 < (l1.length : Int) := of_decide_eq_true (by first | (with_reducible assumption) | assumption)
                              obtain ⟨ad157, e157, hx157_0⟩ := Kd.at_int HR1.out x12_1 p157 q157
                              cases e157
                              replace hx157_0 := (HB.out.cell (World.block_lt_of_cell? w _ hx157_0)).trans hx157_0
                              replace p157 := eq_true p157
                              replace q157 := eq_true q157
                              go_wp2
                              go_meet
                              case rel => exact ⟨_, (wrap64 (Int.tmod (IntKind.u64.wrap (rd l1 x12_1)) (IntKind.u64.wrap (wrap64 ((x10_1.size : Int) + 1))))), (by first | rfl | (simp; done) | (simp [*]; done)), H', ⟨by have := HK1.out; have := HJ13.out; have := HJ16.out; first | omega | exact Nat.le_refl _⟩, ⟨by (with_reducible repeat (first | apply Kd.R_alloc | apply Kd.R_drewN | apply Kd.R_drew)); exact HO_5.out⟩, ⟨by (with_reducible repeat (first | apply Kd.R_alloc | apply Kd.R_drewN | apply Kd.R_drew)); exact HO_9.out⟩, ⟨by repeat (first | (with_reducible first | exact HI153.out | apply IsS63.alloc | apply IsS63.drewN | apply IsS63.drew | apply IsS63.set_0 | apply IsS63.set_1) | exact HI153.out)⟩, ⟨by repeat (first | (with_reducible first | exact HB.out | apply below_alloc | apply pw_below_drewN | apply below_drew1 | refine below_set ?_ (IsS63.ge HI153.out)) | exact HB.out)⟩⟩
                          · rw [if_neg c22] at H
                            exact absurd H (by simp)
                        · rw [if_neg c21] at H
                          exact absurd H (by simp)
                      · replace c20 := Bool.eq_false_iff.mpr c20
                        subst c20
                        have H1 : (rollbooklaw27_FrameCuts.j3 kj16 l1 t146 t147 t148 x9_1 x10_1 x11_1 x12_1 (x10_1.size : Int) x154000_1 x154001_1) = some r := by rw [if_neg (show ¬ (false = true) by decide)] at H; exact H
                        clear H
                        have H := H1
                        clear H1
                        have H' := Aside0.mk H
                        clear H
                        go_wp2
                        go_meet
                        case rel => exact ⟨_, ((x10_1.size : Int)), (by first | rfl | (simp; done) | (simp [*]; done)), H', ⟨by have := HK1.out; have := HJ13.out; have := HJ16.out; first | omega | exact Nat.le_refl _⟩, ⟨by (with_reducible repeat (first | apply Kd.R_alloc | apply Kd.R_drewN | apply Kd.R_drew)); exact HO_5.out⟩, ⟨by (with_reducible repeat (first | apply Kd.R_alloc | apply Kd.R_drewN | apply Kd.R_drew)); exact HO_9.out⟩, ⟨by repeat (first | (with_reducible first | exact HI153.out | apply IsS63.alloc | apply IsS63.drewN | apply IsS63.drew | apply IsS63.set_0 | apply IsS63.set_1) | exact HI153.out)⟩, ⟨by repeat (first | (with_reducible first | exact HB.out | apply below_alloc | apply pw_below_drewN | apply below_drew1 | refine below_set ?_ (IsS63.ge HI153.out)) | exact HB.out)⟩⟩
                    case rest =>
                      clear HC19
                      try clear c1
                      try clear p1
                      try clear q1
                      try clear hx1
                      try clear c2
                      try clear p2
                      try clear c4
                      try clear c5
                      try clear c5b0
                      try clear c5b1
                      try clear p6
                      try clear c10
                      try clear c11
                      try clear c15
                      try clear c15b0
                      try clear p15
                      try clear q15
                      try clear hx15
                      try clear c16
                      try clear c17
                      try clear c18
                      try clear c18b0
                      try clear c20
                      try clear c21
                      try clear c21b0
                      try clear c22
                      try clear c22b0
                      try clear c23
                      try clear c23b0
                      try clear c23b1
                      try clear hx157_0
                      try clear p157
                      try clear p2
                      try clear q157
                      obtain ⟨kq, x13_18, rfl, HA, HJ18, HO_5, HO_9, HI153, HB⟩ := hcut
                      cases kq with
                      | zero => exact absurd HA.out (by simp [rollbooklaw27_FrameCuts.j3])
                      | succ kj18 =>
                        have H := HA.out
                        clear HA
                        simp only [rollbooklaw27_FrameCuts.j3] at H
                        by_cases c24 : 0 ≤ x13_18
                        · rw [if_pos c24] at H
                          have c24b0 := eq_true c24
                          have c24b1 : decide (0 ≤ x13_18) = true := decide_eq_true c24
                          clear c24
                          by_cases c25 : x13_18 ≤ (x10_1.size : Int)
                          · rw [if_pos c25] at H
                            have c25b0 := eq_true c25
                            have c25b1 : decide (x13_18 ≤ (x10_1.size : Int)) = true := decide_eq_true c25
                            clear c25
                            replace H := Option.bind_eq_some_iff.mp H
                            obtain ⟨⟨t158, t161, t162, t163⟩, A260, H⟩ := H
                            replace H : (if x11_1 = 0 then (if x9_1.length + t158.length < 8796093022208 then (rollbooklaw27_FrameCuts.l0 kj18 l1 t146 t147 t148 (x9_1 ++ t158) (x10_1.extract (x13_18 : Int).toNat x10_1.size) t161 (wrap64 (x12_1 + 1)) t162 t163) else (none)) else (if t161 = 12 then (if (t158.length : Int) = 0 then (rollbooklaw27_FrameCuts.l0 kj18 l1 t146 t147 t148 x9_1 (x10_1.extract (x13_18 : Int).toNat x10_1.size) x11_1 (wrap64 (x12_1 + 1)) t162 t163) else (some false)) else (some false))) = some r := H
                            have A26 := Aside0.mk A260
                            clear A260
                            have c27b0 := eq_true (of_decide_eq_true (by first | (with_reducible assumption) | assumption) : 0 ≤ x13_18)
                            have c28b0 := eq_true (of_decide_eq_true (by first | (with_reducible assumption) | assumption) : x13_18 ≤ (x10_1.size : Int))
                            by_cases c29 : x11_1 = 0
                            · rw [if_pos c29] at H
                              have c29b0 : (x11_1 == 0) = true := beq_iff_eq.mpr c29
                              have c29b1 : (x11_1 != 0) = false := bne_eq_false_iff_eq.mpr c29
                              clear c29
                              by_cases c30 : x9_1.length + t158.length < 8796093022208
                              · rw [if_pos c30] at H
                                have LMc30 := Aside0.mk c30
                                clear c30
                                obtain ⟨y164, hy164⟩ : ∃ y_ : List ByteArray, y_ = (x9_1 ++ t158) := ⟨_, rfl⟩
                                replace H : (rollbooklaw27_FrameCuts.l0 kj18 l1 t146 t147 t148 y164 (x10_1.extract (x13_18 : Int).toNat x10_1.size) t161 (wrap64 (x12_1 + 1)) t162 t163) = some r := by first | (rw [hy164]; with_reducible exact H) | (have H2_ := (Option.bind_some _ _).symm.trans H; rw [hy164]; with_reducible exact H2_) | (have H2_ := (Option.bind_some _ _).symm.trans H; with_reducible exact H2_) | with_reducible exact H | (rw [hy164]; exact H) | exact H
                                have Ny164 := Aside0.mk hy164
                                clear hy164
                                have H' := Aside0.mk H
                                clear H
                                go_wp2_with (first | ((with_reducible refine gate_callee (f := 12) rfl ?_); refine goesL_ (some 66) rfl rfl Try.func12 (by kernel_rfl) rfl #[.pointer (some ⟨g153, 0, none⟩), .string (x10_1.extract 0 (x13_18 : Int).toNat)] rfl (by (try simp only [List.map_toArray, List.map_cons, List.map_nil]); first | done | rfl | (simp only [List.length_drop, List.length_take]; rfl)) ?_; (with_reducible refine (frame_Framer_Feed.calls kj18 g153 x154000_1 x154001_1 (x10_1.extract 0 (x13_18 : Int).toNat) t158 t161 t162 t163 w _ ?side1 ?side2 A26.out).mono ?_); (case side1 => repeat (first | (with_reducible first | exact HI153.out | apply IsS63.alloc | apply IsS63.drewN | apply IsS63.drew | apply IsS63.set_0 | apply IsS63.set_1) | exact HI153.out)); (case side2 => repeat (first | (with_reducible first | exact HB.out | apply below_alloc | apply pw_below_drewN | apply below_drew1 | refine below_set ?_ (IsS63.ge HI153.out)) | exact HB.out)); rintro e w31 ⟨v159, rfl, ho0, hi, hb, hk⟩; refine ⟨_, rfl, ?_⟩; have n0_ := Aside0.mk (Kd.R_mono (Kd.R_told (Kd.R_oldK (IsS63.apart (show IsS63 w _ g153 x154000_1 x154001_1 from by repeat (first | (with_reducible first | exact HI153.out | apply IsS63.alloc | apply IsS63.drewN | apply IsS63.drew | apply IsS63.set_0 | apply IsS63.set_1) | exact HI153.out)) (by (with_reducible repeat (first | apply Kd.R_alloc | apply Kd.R_drewN | apply Kd.R_drew)); exact HO_5.out) (by decide)) hk) (Kd.R_base ho0)) (fun _ h_ => h_.1)); have n1_ := Aside0.mk (Kd.R_mono (Kd.R_told (Kd.R_oldK (IsS63.apart (show IsS63 w _ g153 x154000_1 x154001_1 from by repeat (first | (with_reducible first | exact HI153.out | apply IsS63.alloc | apply IsS63.drewN | apply IsS63.drew | apply IsS63.set_0 | apply IsS63.set_1) | exact HI153.out)) (by (with_reducible repeat (first | apply Kd.R_alloc | apply Kd.R_drewN | apply Kd.R_drew)); exact HO_9.out) (by decide)) hk) (Kd.R_base ho0)) (fun _ h_ => h_.1)); have n2_ := Aside0.mk (Kd.R_lower (Kd.R_new' (Kd.R_new' ho0 (Kd.R_lt (by (with_reducible repeat (first | apply Kd.R_alloc | apply Kd.R_drewN | apply Kd.R_drew)); exact HO_5.out))) (Kd.R_lt (by (with_reducible repeat (first | apply Kd.R_alloc | apply Kd.R_drewN | apply Kd.R_drew)); exact HO_9.out))) (below_size (by repeat (first | (with_reducible first | exact HB.out | apply below_alloc | apply pw_below_drewN | apply below_drew1 | refine below_set ?_ (IsS63.ge HI153.out)) | exact HB.out)))); have n3_ := Aside0.mk (hb); have n4_ := Aside0.mk (hi); clear HO_5; clear HO_9; clear HB; clear HI153; have HO_5 := n0_; have HO_9 := n1_; have HO160 := n2_; have HB := n3_; have HI153 := n4_; clear n0_ n1_ n2_ n3_ n4_; (try clear hb); (try clear hb2); (try clear hk); (try clear hi); (try clear ho0); obtain ⟨Ao33, co33, eo33⟩ := Kd.R_slice HO160.out; subst eo33) | ((with_reducible refine gate_builtin (b := .append) (xs := #[.tmp 74, .tmp 75]) rfl ?_); (try (refine gate_guard (by rfl) ?_; dsimp only)); at_builtin; refine Kd.R_append_rows Kd.string (w0 := w) w.heap.size rfl (.tmp 74) (.tmp 75) 22 9 (.string ⟨#[]⟩) 16 rfl Try.underlying22 info9 rfl (by decide) (by omega) u9 x9_1 t158 _ _ _ (fun k_ => some k_ ≠ (v149 : Value).ownBlock ∧ some k_ ≠ (.slice Ao33 t158.length co33 : Value).ownBlock) (fun _ => False) rfl rfl ?aO ?aR (fun _ _ h => h) (fun _ h => h.elim) ?aF ?aB ?aS ?aL ?_; (case aR => repeat (first | exact (Kd.R_reads' HO160.out).2.2 | (with_reducible refine Kd.C_alloc ?_ _) | (with_reducible refine Kd.C_drewN ?_ _) | (with_reducible refine Kd.C_drew ?_))); (case aB => exact (by repeat (first | (with_reducible first | exact HB.out | apply below_alloc | apply pw_below_drewN | apply below_drew1 | refine below_set ?_ (IsS63.ge HI153.out)) | exact HB.out))); (case aF => exact (fun k_ hk => ⟨Kd.fresh' (Kd.R_lt (by (with_reducible repeat (first | apply Kd.R_alloc | apply Kd.R_drewN | apply Kd.R_drew)); exact HO_5.out)) k_ hk, Kd.fresh' (Kd.R_lt (by (with_reducible repeat (first | apply Kd.R_alloc | apply Kd.R_drewN | apply Kd.R_drew)); exact HO160.out)) k_ hk⟩)); (case aO => exact (by (with_reducible repeat (first | apply Kd.R_alloc | apply Kd.R_drewN | apply Kd.R_drew)); exact HO_9.out)); (case aS => exact (below_size (by repeat (first | (with_reducible first | exact HB.out | apply below_alloc | apply pw_below_drewN | apply below_drew1 | refine below_set ?_ (IsS63.ge HI153.out)) | exact HB.out)))); (case aL => have := LMc30.out; omega); intro v165 w32 ho hb hg hat; rw [← Ny164.out] at ho; have n0_ := Aside0.mk (Kd.R_after (ok := (fun k_ => some k_ ≠ (.slice Ao33 t158.length co33 : Value).ownBlock)) (by (with_reducible repeat (first | apply Kd.R_alloc | apply Kd.R_drewN | apply Kd.R_drew)); exact Kd.R_mono HO_5.out (fun _ hk => ⟨hk.2, hk.1⟩)) hg hat); have n1_ := Aside0.mk (IsS63.grown (by repeat (first | (with_reducible first | exact HI153.out | apply IsS63.alloc | apply IsS63.drewN | apply IsS63.drew | apply IsS63.set_0 | apply IsS63.set_1) | exact HI153.out)) hg (IsS63.own_ne HI153.out HO_9.out (by decide))); have n2_ := Aside0.mk (Kd.R_after (ok := (fun k_ => some k_ ≠ (v149 : Value).ownBlock)) (by (with_reducible repeat (first | apply Kd.R_alloc | apply Kd.R_drewN | apply Kd.R_drew)); exact Kd.R_mono HO160.out (fun _ hk => ⟨hk.1.2, hk.2⟩)) hg hat); have n3_ := Aside0.mk (hb); have n4_ := Aside0.mk (ho); clear HO_5; clear HI153; clear HO160; clear HB; clear HO_9; have HO_5 := n0_; have HI153 := n1_; have HO160 := n2_; have HB := n3_; have HO166 := n4_; clear n0_ n1_ n2_ n3_ n4_; clear ho hb hg hat))
                                go_roundg kj18
                                case measure => have := HK1.out; have := HJ13.out; have := HJ16.out; have := HJ18.out; omega
                                case rel => exact ⟨(y164), (x10_1.extract (x13_18 : Int).toNat x10_1.size), (t161), (wrap64 (x12_1 + 1)), (t162), (t163), (by first | rfl | (simp; done) | (simp [*]; done)), (by first | rfl | (simp; done) | (simp [*]; done)), (by first | rfl | (simp; done) | (simp [*]; done)), H', ⟨by have := HK1.out; have := HJ13.out; have := HJ16.out; have := HJ18.out; omega⟩, ⟨by (with_reducible repeat (first | apply Kd.R_alloc | apply Kd.R_drewN | apply Kd.R_drew)); exact Kd.R_mono HO_5.out (fun _ hk => hk.2)⟩, ⟨by (with_reducible repeat (first | apply Kd.R_alloc | apply Kd.R_drewN | apply Kd.R_drew)); exact Kd.R_mono HO166.out (fun _ hk => hk.1)⟩, ⟨by repeat (first | (with_reducible first | exact HI153.out | apply IsS63.alloc | apply IsS63.drewN | apply IsS63.drew | apply IsS63.set_0 | apply IsS63.set_1) | exact HI153.out)⟩, ⟨by repeat (first | (with_reducible first | exact HB.out | apply below_alloc | apply pw_below_drewN | apply below_drew1 | refine below_set ?_ (IsS63.ge HI153.out)) | exact HB.out)⟩⟩
                              · rw [if_neg c30] at H
                                exact absurd H (by simp)
                            · rw [if_neg c29] at H
                              have c29b0 : (x11_1 == 0) = false := beq_eq_false_iff_ne.mpr c29
                              have c29b1 : (x11_1 != 0) = true := bne_iff_ne.mpr c29
                              by_cases c34 : t161 = 12
                              · rw [if_pos c34] at H
                                have c34b0 : (t161 == 12) = true := beq_iff_eq.mpr c34
                                have c34b1 : (t161 != 12) = false := bne_eq_false_iff_eq.mpr c34
                                clear c34
                                by_cases c35 : (t158.length : Int) = 0
                                · rw [if_pos c35] at H
                                  have c35b0 : ((t158.length : Int) == 0) = true := beq_iff_eq.mpr c35
                                  have c35b1 : ((t158.length : Int) != 0) = false := bne_eq_false_iff_eq.mpr c35
                                  clear c35
                                  have H' := Aside0.mk H
                                  clear H
                                  go_wp2_with (first | ((with_reducible refine gate_callee (f := 12) rfl ?_); refine goesL_ (some 66) rfl rfl Try.func12 (by kernel_rfl) rfl #[.pointer (some ⟨g153, 0, none⟩), .string (x10_1.extract 0 (x13_18 : Int).toNat)] rfl (by (try simp only [List.map_toArray, List.map_cons, List.map_nil]); first | done | rfl | (simp only [List.length_drop, List.length_take]; rfl)) ?_; (with_reducible refine (frame_Framer_Feed.calls kj18 g153 x154000_1 x154001_1 (x10_1.extract 0 (x13_18 : Int).toNat) t158 t161 t162 t163 w _ ?side1 ?side2 A26.out).mono ?_); (case side1 => repeat (first | (with_reducible first | exact HI153.out | apply IsS63.alloc | apply IsS63.drewN | apply IsS63.drew | apply IsS63.set_0 | apply IsS63.set_1) | exact HI153.out)); (case side2 => repeat (first | (with_reducible first | exact HB.out | apply below_alloc | apply pw_below_drewN | apply below_drew1 | refine below_set ?_ (IsS63.ge HI153.out)) | exact HB.out)); rintro e w36 ⟨v159, rfl, ho0, hi, hb, hk⟩; refine ⟨_, rfl, ?_⟩; have n0_ := Aside0.mk (Kd.R_mono (Kd.R_told (Kd.R_oldK (IsS63.apart (show IsS63 w _ g153 x154000_1 x154001_1 from by repeat (first | (with_reducible first | exact HI153.out | apply IsS63.alloc | apply IsS63.drewN | apply IsS63.drew | apply IsS63.set_0 | apply IsS63.set_1) | exact HI153.out)) (by (with_reducible repeat (first | apply Kd.R_alloc | apply Kd.R_drewN | apply Kd.R_drew)); exact HO_5.out) (by decide)) hk) (Kd.R_base ho0)) (fun _ h_ => h_.1)); have n1_ := Aside0.mk (Kd.R_mono (Kd.R_told (Kd.R_oldK (IsS63.apart (show IsS63 w _ g153 x154000_1 x154001_1 from by repeat (first | (with_reducible first | exact HI153.out | apply IsS63.alloc | apply IsS63.drewN | apply IsS63.drew | apply IsS63.set_0 | apply IsS63.set_1) | exact HI153.out)) (by (with_reducible repeat (first | apply Kd.R_alloc | apply Kd.R_drewN | apply Kd.R_drew)); exact HO_9.out) (by decide)) hk) (Kd.R_base ho0)) (fun _ h_ => h_.1)); have n2_ := Aside0.mk (Kd.R_lower (Kd.R_new' (Kd.R_new' ho0 (Kd.R_lt (by (with_reducible repeat (first | apply Kd.R_alloc | apply Kd.R_drewN | apply Kd.R_drew)); exact HO_5.out))) (Kd.R_lt (by (with_reducible repeat (first | apply Kd.R_alloc | apply Kd.R_drewN | apply Kd.R_drew)); exact HO_9.out))) (below_size (by repeat (first | (with_reducible first | exact HB.out | apply below_alloc | apply pw_below_drewN | apply below_drew1 | refine below_set ?_ (IsS63.ge HI153.out)) | exact HB.out)))); have n3_ := Aside0.mk (hb); have n4_ := Aside0.mk (hi); clear HO_5; clear HO_9; clear HB; clear HI153; have HO_5 := n0_; have HO_9 := n1_; have HO160 := n2_; have HB := n3_; have HI153 := n4_; clear n0_ n1_ n2_ n3_ n4_; (try clear hb); (try clear hb2); (try clear hk); (try clear hi); (try clear ho0); obtain ⟨Ao37, co37, eo37⟩ := Kd.R_slice HO160.out; subst eo37))
                                  go_roundg kj18
                                  case measure => have := HK1.out; have := HJ13.out; have := HJ16.out; have := HJ18.out; omega
                                  case rel => exact ⟨(x9_1), (x10_1.extract (x13_18 : Int).toNat x10_1.size), (x11_1), (wrap64 (x12_1 + 1)), (t162), (t163), (by first | rfl | (simp; done) | (simp [*]; done)), (by first | rfl | (simp; done) | (simp [*]; done)), (by first | rfl | (simp; done) | (simp [*]; done)), H', ⟨by have := HK1.out; have := HJ13.out; have := HJ16.out; have := HJ18.out; omega⟩, ⟨by (with_reducible repeat (first | apply Kd.R_alloc | apply Kd.R_drewN | apply Kd.R_drew)); exact Kd.R_mono HO_5.out (fun _ hk => hk.1)⟩, ⟨by (with_reducible repeat (first | apply Kd.R_alloc | apply Kd.R_drewN | apply Kd.R_drew)); exact Kd.R_mono HO_9.out (fun _ hk => hk.1)⟩, ⟨by repeat (first | (with_reducible first | exact HI153.out | apply IsS63.alloc | apply IsS63.drewN | apply IsS63.drew | apply IsS63.set_0 | apply IsS63.set_1) | exact HI153.out)⟩, ⟨by repeat (first | (with_reducible first | exact HB.out | apply below_alloc | apply pw_below_drewN | apply below_drew1 | refine below_set ?_ (IsS63.ge HI153.out)) | exact HB.out)⟩⟩
                                · rw [if_neg c35] at H
                                  have c35b0 : ((t158.length : Int) == 0) = false := beq_eq_false_iff_ne.mpr c35
                                  have c35b1 : ((t158.length : Int) != 0) = true := bne_iff_ne.mpr c35
                                  have c35b2 : ¬ (t158 = []) := fun h_ => c35 (by rw [h_]; rfl)
                                  obtain rfl := Option.some.inj H
                                  go_wp2_with (first | ((with_reducible refine gate_callee (f := 12) rfl ?_); refine goesL_ (some 66) rfl rfl Try.func12 (by kernel_rfl) rfl #[.pointer (some ⟨g153, 0, none⟩), .string (x10_1.extract 0 (x13_18 : Int).toNat)] rfl (by (try simp only [List.map_toArray, List.map_cons, List.map_nil]); first | done | rfl | (simp only [List.length_drop, List.length_take]; rfl)) ?_; (with_reducible refine (frame_Framer_Feed.calls kj18 g153 x154000_1 x154001_1 (x10_1.extract 0 (x13_18 : Int).toNat) t158 t161 t162 t163 w _ ?side1 ?side2 A26.out).mono ?_); (case side1 => repeat (first | (with_reducible first | exact HI153.out | apply IsS63.alloc | apply IsS63.drewN | apply IsS63.drew | apply IsS63.set_0 | apply IsS63.set_1) | exact HI153.out)); (case side2 => repeat (first | (with_reducible first | exact HB.out | apply below_alloc | apply pw_below_drewN | apply below_drew1 | refine below_set ?_ (IsS63.ge HI153.out)) | exact HB.out)); rintro e w38 ⟨v159, rfl, ho0, hi, hb, hk⟩; refine ⟨_, rfl, ?_⟩; have n0_ := Aside0.mk (Kd.R_mono (Kd.R_told (Kd.R_oldK (IsS63.apart (show IsS63 w _ g153 x154000_1 x154001_1 from by repeat (first | (with_reducible first | exact HI153.out | apply IsS63.alloc | apply IsS63.drewN | apply IsS63.drew | apply IsS63.set_0 | apply IsS63.set_1) | exact HI153.out)) (by (with_reducible repeat (first | apply Kd.R_alloc | apply Kd.R_drewN | apply Kd.R_drew)); exact HO_5.out) (by decide)) hk) (Kd.R_base ho0)) (fun _ h_ => h_.1)); have n1_ := Aside0.mk (Kd.R_mono (Kd.R_told (Kd.R_oldK (IsS63.apart (show IsS63 w _ g153 x154000_1 x154001_1 from by repeat (first | (with_reducible first | exact HI153.out | apply IsS63.alloc | apply IsS63.drewN | apply IsS63.drew | apply IsS63.set_0 | apply IsS63.set_1) | exact HI153.out)) (by (with_reducible repeat (first | apply Kd.R_alloc | apply Kd.R_drewN | apply Kd.R_drew)); exact HO_9.out) (by decide)) hk) (Kd.R_base ho0)) (fun _ h_ => h_.1)); have n2_ := Aside0.mk (Kd.R_lower (Kd.R_new' (Kd.R_new' ho0 (Kd.R_lt (by (with_reducible repeat (first | apply Kd.R_alloc | apply Kd.R_drewN | apply Kd.R_drew)); exact HO_5.out))) (Kd.R_lt (by (with_reducible repeat (first | apply Kd.R_alloc | apply Kd.R_drewN | apply Kd.R_drew)); exact HO_9.out))) (below_size (by repeat (first | (with_reducible first | exact HB.out | apply below_alloc | apply pw_below_drewN | apply below_drew1 | refine below_set ?_ (IsS63.ge HI153.out)) | exact HB.out)))); have n3_ := Aside0.mk (hb); have n4_ := Aside0.mk (hi); clear HO_5; clear HO_9; clear HB; clear HI153; have HO_5 := n0_; have HO_9 := n1_; have HO160 := n2_; have HB := n3_; have HI153 := n4_; clear n0_ n1_ n2_ n3_ n4_; (try clear hb); (try clear hb2); (try clear hk); (try clear hi); (try clear ho0); obtain ⟨Ao39, co39, eo39⟩ := Kd.R_slice HO160.out; subst eo39))
                                  go_ret
                                  exact ⟨by first | rfl | (simp [errW_none, errW_some] <;> rfl) | (simp [*, errW_none, errW_some] <;> rfl), by repeat (first | (with_reducible first | exact HB.out | apply below_alloc | apply pw_below_drewN | apply below_drew1 | refine below_set ?_ (IsS63.ge HI153.out)) | exact HB.out)⟩
                              · rw [if_neg c34] at H
                                have c34b0 : (t161 == 12) = false := beq_eq_false_iff_ne.mpr c34
                                have c34b1 : (t161 != 12) = true := bne_iff_ne.mpr c34
                                obtain rfl := Option.some.inj H
                                go_wp2_with (first | ((with_reducible refine gate_callee (f := 12) rfl ?_); refine goesL_ (some 66) rfl rfl Try.func12 (by kernel_rfl) rfl #[.pointer (some ⟨g153, 0, none⟩), .string (x10_1.extract 0 (x13_18 : Int).toNat)] rfl (by (try simp only [List.map_toArray, List.map_cons, List.map_nil]); first | done | rfl | (simp only [List.length_drop, List.length_take]; rfl)) ?_; (with_reducible refine (frame_Framer_Feed.calls kj18 g153 x154000_1 x154001_1 (x10_1.extract 0 (x13_18 : Int).toNat) t158 t161 t162 t163 w _ ?side1 ?side2 A26.out).mono ?_); (case side1 => repeat (first | (with_reducible first | exact HI153.out | apply IsS63.alloc | apply IsS63.drewN | apply IsS63.drew | apply IsS63.set_0 | apply IsS63.set_1) | exact HI153.out)); (case side2 => repeat (first | (with_reducible first | exact HB.out | apply below_alloc | apply pw_below_drewN | apply below_drew1 | refine below_set ?_ (IsS63.ge HI153.out)) | exact HB.out)); rintro e w40 ⟨v159, rfl, ho0, hi, hb, hk⟩; refine ⟨_, rfl, ?_⟩; have n0_ := Aside0.mk (Kd.R_mono (Kd.R_told (Kd.R_oldK (IsS63.apart (show IsS63 w _ g153 x154000_1 x154001_1 from by repeat (first | (with_reducible first | exact HI153.out | apply IsS63.alloc | apply IsS63.drewN | apply IsS63.drew | apply IsS63.set_0 | apply IsS63.set_1) | exact HI153.out)) (by (with_reducible repeat (first | apply Kd.R_alloc | apply Kd.R_drewN | apply Kd.R_drew)); exact HO_5.out) (by decide)) hk) (Kd.R_base ho0)) (fun _ h_ => h_.1)); have n1_ := Aside0.mk (Kd.R_mono (Kd.R_told (Kd.R_oldK (IsS63.apart (show IsS63 w _ g153 x154000_1 x154001_1 from by repeat (first | (with_reducible first | exact HI153.out | apply IsS63.alloc | apply IsS63.drewN | apply IsS63.drew | apply IsS63.set_0 | apply IsS63.set_1) | exact HI153.out)) (by (with_reducible repeat (first | apply Kd.R_alloc | apply Kd.R_drewN | apply Kd.R_drew)); exact HO_9.out) (by decide)) hk) (Kd.R_base ho0)) (fun _ h_ => h_.1)); have n2_ := Aside0.mk (Kd.R_lower (Kd.R_new' (Kd.R_new' ho0 (Kd.R_lt (by (with_reducible repeat (first | apply Kd.R_alloc | apply Kd.R_drewN | apply Kd.R_drew)); exact HO_5.out))) (Kd.R_lt (by (with_reducible repeat (first | apply Kd.R_alloc | apply Kd.R_drewN | apply Kd.R_drew)); exact HO_9.out))) (below_size (by repeat (first | (with_reducible first | exact HB.out | apply below_alloc | apply pw_below_drewN | apply below_drew1 | refine below_set ?_ (IsS63.ge HI153.out)) | exact HB.out)))); have n3_ := Aside0.mk (hb); have n4_ := Aside0.mk (hi); clear HO_5; clear HO_9; clear HB; clear HI153; have HO_5 := n0_; have HO_9 := n1_; have HO160 := n2_; have HB := n3_; have HI153 := n4_; clear n0_ n1_ n2_ n3_ n4_; (try clear hb); (try clear hb2); (try clear hk); (try clear hi); (try clear ho0)))
                                go_ret
                                exact ⟨by first | rfl | (simp [errW_none, errW_some] <;> rfl) | (simp [*, errW_none, errW_some] <;> rfl), by repeat (first | (with_reducible first | exact HB.out | apply below_alloc | apply pw_below_drewN | apply below_drew1 | refine below_set ?_ (IsS63.ge HI153.out)) | exact HB.out)⟩
                          · rw [if_neg c25] at H
                            exact absurd H (by simp)
                        · rw [if_neg c24] at H
                          exact absurd H (by simp)
              · replace c16 := Bool.eq_false_iff.mpr c16
                subst c16
                have H1 : (if x10_1.toList = ([] : List UInt8) then (if x11_1 = t148 then ((rollbookref01_Same.f kj13 x9_1 t146).bind fun t167 => (if t167 = true then ((frame_Framer_Rest.f x154000_1 x154001_1).bind fun bt168 => (if bt168.1 = t147 then ((frame_Framer_Broken.f bt168.2.1 bt168.2.2).bind fun bt171 => (some (bt171.1 == (t148 != 0)))) else (some false))) else (some false))) else (some false)) else (some false)) = some r := by rw [if_neg (show ¬ (false = true) by decide)] at H; exact H
                clear H
                have H := H1
                clear H1
                by_cases c41 : x10_1.toList = ([] : List UInt8)
                · rw [if_pos c41] at H
                  have c41b0 : (x10_1.toList == ([] : List UInt8)) = true := beq_iff_eq.mpr c41
                  have c41b1 : (x10_1.toList != ([] : List UInt8)) = false := bne_eq_false_iff_eq.mpr c41
                  clear c41
                  by_cases c42 : x11_1 = t148
                  · rw [if_pos c42] at H
                    have c42b0 : (x11_1 == t148) = true := beq_iff_eq.mpr c42
                    have c42b1 : (x11_1 != t148) = false := bne_eq_false_iff_eq.mpr c42
                    clear c42
                    replace H := Option.bind_eq_some_iff.mp H
                    obtain ⟨t167, A430, H⟩ := H
                    replace H : (if t167 = true then ((frame_Framer_Rest.f x154000_1 x154001_1).bind fun bt168 => (if bt168.1 = t147 then ((frame_Framer_Broken.f bt168.2.1 bt168.2.2).bind fun bt171 => (some (bt171.1 == (t148 != 0)))) else (some false))) else (some false)) = some r := H
                    have A43 := Aside0.mk A430
                    clear A430
                    by_cases c44 : t167 = true
                    · subst c44
                      have H1 : ((frame_Framer_Rest.f x154000_1 x154001_1).bind fun bt168 => (if bt168.1 = t147 then ((frame_Framer_Broken.f bt168.2.1 bt168.2.2).bind fun bt171 => (some (bt171.1 == (t148 != 0)))) else (some false))) = some r := by rw [if_pos rfl] at H; exact H
                      clear H
                      have H := H1
                      clear H1
                      replace H := Option.bind_eq_some_iff.mp H
                      obtain ⟨⟨t168, t169, t170⟩, A450, H⟩ := H
                      replace H : (if t168 = t147 then ((frame_Framer_Broken.f t169 t170).bind fun bt171 => (some (bt171.1 == (t148 != 0)))) else (some false)) = some r := H
                      have A45 := Aside0.mk A450
                      clear A450
                      by_cases c46 : t168 = t147
                      · rw [if_pos c46] at H
                        have c46b0 : (t168 == t147) = true := beq_iff_eq.mpr c46
                        have c46b1 : (t168 != t147) = false := bne_eq_false_iff_eq.mpr c46
                        clear c46
                        replace H := Option.bind_eq_some_iff.mp H
                        obtain ⟨⟨t171, t172, t173⟩, A470, H⟩ := H
                        replace H : (some (t171 == (t148 != 0))) = some r := H
                        have A47 := Aside0.mk A470
                        clear A470
                        obtain rfl := Option.some.inj H
                        obtain ⟨Ao48, co48, eo48⟩ := Kd.R_slice HO_9.out
                        subst eo48
                        obtain ⟨Ao49, co49, eo49⟩ := Kd.R_slice HO_5.out
                        subst eo49
                        go_wp2_with (first | (go_at_call 14; (with_reducible refine (rollbookref01_Same.calls kj13 _ _ x9_1 _ _ t146 true _ ?side1 ?side2 ?side3 ?side4 A43.out).mono ?_); (case side1 => repeat (first | exact (Kd.R_reads' HO_9.out).2.2 | (with_reducible refine Kd.C_alloc ?_ _) | (with_reducible refine Kd.C_drewN ?_ _) | (with_reducible refine Kd.C_drew ?_))); (case side2 => exact (Kd.R_reads' HO_9.out).2.1); (case side3 => repeat (first | exact (Kd.R_reads' HO_5.out).2.2 | (with_reducible refine Kd.C_alloc ?_ _) | (with_reducible refine Kd.C_drewN ?_ _) | (with_reducible refine Kd.C_drew ?_))); (case side4 => exact (Kd.R_reads' HO_5.out).2.1); rintro e w' ⟨rfl, ⟨nd, rfl⟩⟩) | (go_at_call 15; (with_reducible refine (frame_Framer_Rest.calls g153 x154000_1 x154001_1 t168 t169 t170 w _ ?side1 ?side2 A45.out).mono ?_); (case side1 => repeat (first | (with_reducible first | exact HI153.out | apply IsS63.alloc | apply IsS63.drewN | apply IsS63.drew | apply IsS63.set_0 | apply IsS63.set_1) | exact HI153.out)); (case side2 => repeat (first | (with_reducible first | exact HB.out | apply below_alloc | apply pw_below_drewN | apply below_drew1 | refine below_set ?_ (IsS63.ge HI153.out)) | exact HB.out)); rintro e w50 ⟨rfl, hi, hb, hk⟩; have n0_ := Aside0.mk (Kd.R_mono (Kd.R_keep (IsS63.apart (show IsS63 w _ g153 x154000_1 x154001_1 from by repeat (first | (with_reducible first | exact HI153.out | apply IsS63.alloc | apply IsS63.drewN | apply IsS63.drew | apply IsS63.set_0 | apply IsS63.set_1) | exact HI153.out)) (by (with_reducible repeat (first | apply Kd.R_alloc | apply Kd.R_drewN | apply Kd.R_drew)); exact HO_5.out) (by decide)) hk (fun _ h => h.2)) (fun _ h => h.1)); have n1_ := Aside0.mk (Kd.R_mono (Kd.R_keep (IsS63.apart (show IsS63 w _ g153 x154000_1 x154001_1 from by repeat (first | (with_reducible first | exact HI153.out | apply IsS63.alloc | apply IsS63.drewN | apply IsS63.drew | apply IsS63.set_0 | apply IsS63.set_1) | exact HI153.out)) (by (with_reducible repeat (first | apply Kd.R_alloc | apply Kd.R_drewN | apply Kd.R_drew)); exact HO_9.out) (by decide)) hk (fun _ h => h.2)) (fun _ h => h.1)); have n2_ := Aside0.mk (hb); have n3_ := Aside0.mk (hi); clear HO_5; clear HO_9; clear HB; clear HI153; have HO_5 := n0_; have HO_9 := n1_; have HB := n2_; have HI153 := n3_; clear n0_ n1_ n2_ n3_; (try clear hb); (try clear hb2); (try clear hk); (try clear hi)) | (go_at_call 16; (with_reducible refine (frame_Framer_Broken.calls g153 t169 t170 t171 t172 t173 w _ ?side1 ?side2 A47.out).mono ?_); (case side1 => repeat (first | (with_reducible first | exact HI153.out | apply IsS63.alloc | apply IsS63.drewN | apply IsS63.drew | apply IsS63.set_0 | apply IsS63.set_1) | exact HI153.out)); (case side2 => repeat (first | (with_reducible first | exact HB.out | apply below_alloc | apply pw_below_drewN | apply below_drew1 | refine below_set ?_ (IsS63.ge HI153.out)) | exact HB.out)); rintro e w51 ⟨rfl, hi, hb, hk⟩; have n0_ := Aside0.mk (Kd.R_mono (Kd.R_keep (IsS63.apart (show IsS63 w _ g153 t169 t170 from by repeat (first | (with_reducible first | exact HI153.out | apply IsS63.alloc | apply IsS63.drewN | apply IsS63.drew | apply IsS63.set_0 | apply IsS63.set_1) | exact HI153.out)) (by (with_reducible repeat (first | apply Kd.R_alloc | apply Kd.R_drewN | apply Kd.R_drew)); exact HO_5.out) (by decide)) hk (fun _ h => h.2)) (fun _ h => h.1)); have n1_ := Aside0.mk (Kd.R_mono (Kd.R_keep (IsS63.apart (show IsS63 w _ g153 t169 t170 from by repeat (first | (with_reducible first | exact HI153.out | apply IsS63.alloc | apply IsS63.drewN | apply IsS63.drew | apply IsS63.set_0 | apply IsS63.set_1) | exact HI153.out)) (by (with_reducible repeat (first | apply Kd.R_alloc | apply Kd.R_drewN | apply Kd.R_drew)); exact HO_9.out) (by decide)) hk (fun _ h => h.2)) (fun _ h => h.1)); have n2_ := Aside0.mk (hb); have n3_ := Aside0.mk (hi); clear HO_5; clear HO_9; clear HB; clear HI153; have HO_5 := n0_; have HO_9 := n1_; have HB := n2_; have HI153 := n3_; clear n0_ n1_ n2_ n3_; (try clear hb); (try clear hb2); (try clear hk); (try clear hi)))
                        go_ret
                        exact ⟨by first | rfl | (simp [errW_none, errW_some] <;> rfl) | (simp [*, errW_none, errW_some] <;> rfl), by repeat (first | (with_reducible first | exact HB.out | apply below_alloc | apply pw_below_drewN | apply below_drew1 | refine below_set ?_ (IsS63.ge HI153.out)) | exact HB.out)⟩
                      · rw [if_neg c46] at H
                        have c46b0 : (t168 == t147) = false := beq_eq_false_iff_ne.mpr c46
                        have c46b1 : (t168 != t147) = true := bne_iff_ne.mpr c46
                        obtain rfl := Option.some.inj H
                        obtain ⟨Ao52, co52, eo52⟩ := Kd.R_slice HO_9.out
                        subst eo52
                        obtain ⟨Ao53, co53, eo53⟩ := Kd.R_slice HO_5.out
                        subst eo53
                        go_wp2_with (first | (go_at_call 14; (with_reducible refine (rollbookref01_Same.calls kj13 _ _ x9_1 _ _ t146 true _ ?side1 ?side2 ?side3 ?side4 A43.out).mono ?_); (case side1 => repeat (first | exact (Kd.R_reads' HO_9.out).2.2 | (with_reducible refine Kd.C_alloc ?_ _) | (with_reducible refine Kd.C_drewN ?_ _) | (with_reducible refine Kd.C_drew ?_))); (case side2 => exact (Kd.R_reads' HO_9.out).2.1); (case side3 => repeat (first | exact (Kd.R_reads' HO_5.out).2.2 | (with_reducible refine Kd.C_alloc ?_ _) | (with_reducible refine Kd.C_drewN ?_ _) | (with_reducible refine Kd.C_drew ?_))); (case side4 => exact (Kd.R_reads' HO_5.out).2.1); rintro e w' ⟨rfl, ⟨nd, rfl⟩⟩) | (go_at_call 15; (with_reducible refine (frame_Framer_Rest.calls g153 x154000_1 x154001_1 t168 t169 t170 w _ ?side1 ?side2 A45.out).mono ?_); (case side1 => repeat (first | (with_reducible first | exact HI153.out | apply IsS63.alloc | apply IsS63.drewN | apply IsS63.drew | apply IsS63.set_0 | apply IsS63.set_1) | exact HI153.out)); (case side2 => repeat (first | (with_reducible first | exact HB.out | apply below_alloc | apply pw_below_drewN | apply below_drew1 | refine below_set ?_ (IsS63.ge HI153.out)) | exact HB.out)); rintro e w54 ⟨rfl, hi, hb, hk⟩; have n0_ := Aside0.mk (Kd.R_mono (Kd.R_keep (IsS63.apart (show IsS63 w _ g153 x154000_1 x154001_1 from by repeat (first | (with_reducible first | exact HI153.out | apply IsS63.alloc | apply IsS63.drewN | apply IsS63.drew | apply IsS63.set_0 | apply IsS63.set_1) | exact HI153.out)) (by (with_reducible repeat (first | apply Kd.R_alloc | apply Kd.R_drewN | apply Kd.R_drew)); exact HO_5.out) (by decide)) hk (fun _ h => h.2)) (fun _ h => h.1)); have n1_ := Aside0.mk (Kd.R_mono (Kd.R_keep (IsS63.apart (show IsS63 w _ g153 x154000_1 x154001_1 from by repeat (first | (with_reducible first | exact HI153.out | apply IsS63.alloc | apply IsS63.drewN | apply IsS63.drew | apply IsS63.set_0 | apply IsS63.set_1) | exact HI153.out)) (by (with_reducible repeat (first | apply Kd.R_alloc | apply Kd.R_drewN | apply Kd.R_drew)); exact HO_9.out) (by decide)) hk (fun _ h => h.2)) (fun _ h => h.1)); have n2_ := Aside0.mk (hb); have n3_ := Aside0.mk (hi); clear HO_5; clear HO_9; clear HB; clear HI153; have HO_5 := n0_; have HO_9 := n1_; have HB := n2_; have HI153 := n3_; clear n0_ n1_ n2_ n3_; (try clear hb); (try clear hb2); (try clear hk); (try clear hi)))
                        go_ret
                        exact ⟨by first | rfl | (simp [errW_none, errW_some] <;> rfl) | (simp [*, errW_none, errW_some] <;> rfl), by repeat (first | (with_reducible first | exact HB.out | apply below_alloc | apply pw_below_drewN | apply below_drew1 | refine below_set ?_ (IsS63.ge HI153.out)) | exact HB.out)⟩
                    · replace c44 := Bool.eq_false_iff.mpr c44
                      subst c44
                      have H1 : (some false) = some r := by rw [if_neg (show ¬ (false = true) by decide)] at H; exact H
                      clear H
                      have H := H1
                      clear H1
                      obtain rfl := Option.some.inj H
                      obtain ⟨Ao55, co55, eo55⟩ := Kd.R_slice HO_9.out
                      subst eo55
                      obtain ⟨Ao56, co56, eo56⟩ := Kd.R_slice HO_5.out
                      subst eo56
                      go_wp2_with (first | (go_at_call 14; (with_reducible refine (rollbookref01_Same.calls kj13 _ _ x9_1 _ _ t146 false _ ?side1 ?side2 ?side3 ?side4 A43.out).mono ?_); (case side1 => repeat (first | exact (Kd.R_reads' HO_9.out).2.2 | (with_reducible refine Kd.C_alloc ?_ _) | (with_reducible refine Kd.C_drewN ?_ _) | (with_reducible refine Kd.C_drew ?_))); (case side2 => exact (Kd.R_reads' HO_9.out).2.1); (case side3 => repeat (first | exact (Kd.R_reads' HO_5.out).2.2 | (with_reducible refine Kd.C_alloc ?_ _) | (with_reducible refine Kd.C_drewN ?_ _) | (with_reducible refine Kd.C_drew ?_))); (case side4 => exact (Kd.R_reads' HO_5.out).2.1); rintro e w' ⟨rfl, ⟨nd, rfl⟩⟩))
                      go_ret
                      exact ⟨by first | rfl | (simp [errW_none, errW_some] <;> rfl) | (simp [*, errW_none, errW_some] <;> rfl), by repeat (first | (with_reducible first | exact HB.out | apply below_alloc | apply pw_below_drewN | apply below_drew1 | refine below_set ?_ (IsS63.ge HI153.out)) | exact HB.out)⟩
                  · rw [if_neg c42] at H
                    have c42b0 : (x11_1 == t148) = false := beq_eq_false_iff_ne.mpr c42
                    have c42b1 : (x11_1 != t148) = true := bne_iff_ne.mpr c42
                    obtain rfl := Option.some.inj H
                    go_wp2
                    go_ret
                    exact ⟨by first | rfl | (simp [errW_none, errW_some] <;> rfl) | (simp [*, errW_none, errW_some] <;> rfl), by repeat (first | (with_reducible first | exact HB.out | apply below_alloc | apply pw_below_drewN | apply below_drew1 | refine below_set ?_ (IsS63.ge HI153.out)) | exact HB.out)⟩
                · rw [if_neg c41] at H
                  have c41b0 : (x10_1.toList == ([] : List UInt8)) = false := beq_eq_false_iff_ne.mpr c41
                  have c41b1 : (x10_1.toList != ([] : List UInt8)) = true := bne_iff_ne.mpr c41
                  obtain rfl := Option.some.inj H
                  go_wp2
                  go_ret
                  exact ⟨by first | rfl | (simp [errW_none, errW_some] <;> rfl) | (simp [*, errW_none, errW_some] <;> rfl), by repeat (first | (with_reducible first | exact HB.out | apply below_alloc | apply pw_below_drewN | apply below_drew1 | refine below_set ?_ (IsS63.ge HI153.out)) | exact HB.out)⟩
  · replace c4 := Bool.eq_false_iff.mpr c4
    subst c4
    have H1 : (some false) = some r := by rw [if_neg (show ¬ (false = true) by decide)] at H; exact H
    clear H
    have H := H1
    clear H1
    obtain rfl := Option.some.inj H
    go_enter Try.func5, Try.ntmps5
    go_wp2_with (first | ((with_reducible refine gate_callee (f := 10) rfl ?_); refine goesL_ (some 16) rfl rfl Try.func10 (by kernel_rfl) rfl #[] rfl (by (try simp only [List.map_toArray, List.map_cons, List.map_nil]); first | done | rfl | (simp only [List.length_drop, List.length_take]; rfl)) ?_; (with_reducible refine (rollbooklaw27_awake.calls k  false _ A3.out).mono ?_); rintro e w57 ⟨rfl, hb⟩; refine ⟨_, rfl, ?_⟩; have n0_ := Aside0.mk (below_step (by repeat (first | (with_reducible first | exact HB.out | apply below_alloc | apply pw_below_drewN | apply below_drew1) | exact HB.out)) hb); clear HB; have HB := n0_; clear n0_; (try clear hb); (try clear hb2); (try clear hk); (try clear hi)))
    go_ret
    exact ⟨by first | rfl | (simp [errW_none, errW_some] <;> rfl) | (simp [*, errW_none, errW_some] <;> rfl), by repeat (first | (with_reducible first | exact HB.out | apply below_alloc | apply pw_below_drewN | apply below_drew1) | exact HB.out)⟩

/-- THE ONE PURE STATEMENT of rollbooklaw27_FrameCuts: yours. -/
def rollbooklaw27_FrameCuts.Pure : Prop := ∀ (a0 : ByteArray) (l1 : List Int), a0.size ≤ 140737488351232 → l1.length ≤ maxLen → l1.length * 8 ≤ 140737488351232 → (∀ x ∈ l1, (Lit.int .i64 x).wf = true) → ∃ k, rollbooklaw27_FrameCuts.f k a0 l1 = some true
theorem rollbooklaw27_FrameCuts.walk (P : rollbooklaw27_FrameCuts.Pure) (a0 : ByteArray) (a1 : Option Addr) (len1 cap1 : Nat) (z1 : List Int) (w : World) (w0 : a0.size ≤ 140737488351232) (w1 : (a1 = none ∧ len1 = 0 ∧ cap1 = 0 ∧ z1 = []) ∨ ∃ x, a1 = some x ∧ len1 ≤ cap1 ∧ cap1 ≤ maxLen ∧ z1.length = cap1 ∧ (∀ i, i < z1.length → w.cell? (x.add i) = some (.int .i64 (z1.getD i 0))) ∧ ∀ n ∈ z1, (Lit.int .i64 n).wf = true) (y1 : len1 * 8 ≤ 140737488351232) :
    Calls Try.prog 5 #[.string a0, .slice a1 len1 cap1] w fun e w' => e = .returned (.bool true) ∧ Below w.heap.size w w' := by
  obtain ⟨l1, rfl, hr1, hm1, hw1, hc1⟩ := ReadsInt.ofRowC w1
  obtain ⟨k, h⟩ := P a0 l1 w0 hm1 y1 hw1
  refine (rollbooklaw27_FrameCuts.calls k a0 _ _ l1 true w (Kd.C_of_reads (d := (0 : Int)) (h1 := fun _ => rfl) hr1) hc1 h).mono ?_
  rintro e w' ⟨rfl, hd⟩
  exact ⟨rfl, hd⟩

end Go.Proofs.Ytghkgclbfjoilaa.F
