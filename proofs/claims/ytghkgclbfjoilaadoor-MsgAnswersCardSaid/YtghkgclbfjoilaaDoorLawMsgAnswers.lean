/- MsgAnswers holds; its tied card. -/
import Derived.Test.YtghkgclbfjoilaaDoorRows
import Derived.Test.YtghkgclbfjoilaaDoorCards
import Derived.Test.YtghkgclbfjoilaaDoorTie
import Derived.Test.YtghkgclbfjoilaaDoorMsgY
import Derived.WalkKit
import Derived.ProofKit
import Derived.OpenShut
import Derived.LaidMore
import Derived.Lay
import Derived.SevenTiedAt
import Derived.Stop.Joined
import Derived.Below
namespace Go.Proofs.YtghkgclbfjoilaaDoor.msgAnswers
open Go.ChangeShapes Go.WideShapes Go.ChangeAt Go.RowKit
set_option linter.unusedVariables false
theorem own : ownKnob Tryd.prog.godebug = none := by kernel_rfl
set_option maxRecDepth 100000 in
theorem pair_open {H : Type} {enc : TypeId × Value → H} {W : World} {base : Nat} {sp : Nat → Bool} {hd : Bool} {m : Nat} {l : List Value} {x : DataW H × List MemPlace} (h : DataW.trod enc Tryd.prog W base sp hd m 77 l = some x) (a b : Int)
    (hx : x.1 = .agg [.lit (.int .i64 a), .lit (.int .i64 b)]) : l = [.int .i64 a, .int .i64 b] := by
  obtain ⟨xs, k, rfl, rfl, hl, hn, hel⟩ := DataW.trod_array Tryd.underlying77 h
  have c3 : Tryd.prog.cellsOf 3 = 1 := by kernel_rfl
  have c2 : Tryd.prog.cellsOf 77 = 2 := by kernel_rfl
  rw [c2] at hl
  match l, hl with
  | [u, v], _ =>
    match xs, hn with
    | [x0, x1], _ =>
      have h0 := hel 0 (by decide)
      have h1 := hel 1 (by decide)
      rw [c3] at h0 h1
      obtain ⟨n0, e0, f0, _⟩ := DataW.trod_int Tryd.underlying3 (show DataW.trod enc Tryd.prog W base sp hd k 3 [u] = some x0 from h0)
      obtain ⟨n1, e1, f1, _⟩ := DataW.trod_int Tryd.underlying3 (show DataW.trod enc Tryd.prog W base sp hd k 3 [v] = some x1 from h1)
      subst f0
      subst f1
      simp only [List.map_cons, List.map_nil, DataW.agg.injEq, List.cons.injEq, DataW.lit.injEq, Lit.int.injEq, true_and, and_true] at hx
      obtain ⟨rfl, rfl⟩ := hx
      simp only [List.cons.injEq, and_true] at e0 e1
      subst e0
      subst e1
      rfl
set_option maxRecDepth 100000 in
theorem of_laid {W : World} (h : laidMetH Tryd.prog Rows.msgAnswersRow.laid W) : Msg.Laid W := by
  rw [MakeChecks.laidMetH_plain _ _ _ (by kernel_rfl)] at h
  obtain ⟨ps, ⟨g, t, cs, fuel, p, q, hg, ht, hv, hd, _, _⟩, _, _⟩ := h
  obtain rfl := Option.some.inj ((show Tryd.prog.globalNamed "rollbook/msg.answers" = some 0 by kernel_rfl).symm.trans hg)
  obtain rfl := Option.some.inj ((show (Tryd.prog.globals[0]?).map (·.type) = some 78 by kernel_rfl).symm.trans ht)
  obtain ⟨xs, m, _, ex, hln, hl, hel⟩ := DataW.trod_array Tryd.underlying78 hd
  have c2 : Tryd.prog.cellsOf 77 = 2 := by kernel_rfl
  have c16 : Tryd.prog.cellsOf 78 = 16 := by kernel_rfl
  rw [c16] at hln
  have e3 : (xs.map (·.1)) = Msg.tblP.map fun p => (DataW.agg [.lit (.int .i64 p.1), .lit (.int .i64 p.2)] : DataW Unit) := (DataW.agg.inj (Prod.mk.inj ex).1).symm
  have hpair : ∀ i, i < 8 → ∀ a b, Msg.tblP[i]? = some (a, b) → (cs.toList.drop (i * 2)).take 2 = [.int .i64 a, .int .i64 b] := by
    intro i hi a b hab
    have hE := hel i hi
    rw [c2, List.getElem?_eq_getElem (by omega)] at hE
    refine pair_open hE a b ?_
    have e4 : (xs.map (·.1))[i]? = (Msg.tblP.map fun p => (DataW.agg [.lit (.int .i64 p.1), .lit (.int .i64 p.2)] : DataW Unit))[i]? := by rw [e3]
    rw [List.getElem?_map, List.getElem?_map, List.getElem?_eq_getElem (by omega : i < xs.length), hab] at e4
    exact Option.some.inj e4
  intro i hi
  rw [World.var?_cell hg hv i]
  have hcs : cs[i]? = cs.toList[i]? := by simp
  rw [hcs]
  have h0 := hpair 0 (by decide) _ _ rfl
  have h1 := hpair 1 (by decide) _ _ rfl
  have h2 := hpair 2 (by decide) _ _ rfl
  have h3 := hpair 3 (by decide) _ _ rfl
  have h4 := hpair 4 (by decide) _ _ rfl
  have h5 := hpair 5 (by decide) _ _ rfl
  have h6 := hpair 6 (by decide) _ _ rfl
  have h7 := hpair 7 (by decide) _ _ rfl
  generalize cs.toList = l at *
  have key : l = Msg.tbl16.map fun n => Value.int .i64 n := by
    match l, hln with
    | [a0, a1, a2, a3, a4, a5, a6, a7, a8, a9, a10, a11, a12, a13, a14, a15], _ =>
      simp at h0 h1 h2 h3 h4 h5 h6 h7
      obtain ⟨rfl, rfl⟩ := h0
      obtain ⟨rfl, rfl⟩ := h1
      obtain ⟨rfl, rfl⟩ := h2
      obtain ⟨rfl, rfl⟩ := h3
      obtain ⟨rfl, rfl⟩ := h4
      obtain ⟨rfl, rfl⟩ := h5
      obtain ⟨rfl, rfl⟩ := h6
      obtain ⟨rfl, rfl⟩ := h7
      rfl
  rw [key, List.getElem?_map, List.getElem?_eq_getElem (show i < Msg.tbl16.length from hi), List.getD, List.getElem?_eq_getElem (show i < Msg.tbl16.length from hi)]
  rfl
set_option maxRecDepth 100000 in
theorem lifted (os : Os) (started : os.Started) (H : Type) (enc : TypeId × Value → H) :
    ReturnsInHanded {} Tryd.checked os 4 .any (fun w args => (Rows.msgAnswersSpec.pre enc Tryd.prog Tryd.f4 [] false w args ∧ laidMetH Tryd.prog Rows.msgAnswersRow.laid w) ∧ sizedMet enc Tryd.prog Tryd.f4 (OpenSpec.ofChange Rows.msgAnswersSpec) false w args)
      (Rows.msgAnswersSpec.post enc Tryd.prog Tryd.f4 false true false false) := by
  refine returnsInHanded_of_change_and (C := Tryd.checked) (X := fun w _ => laidMetH Tryd.prog Rows.msgAnswersRow.laid w) (fun _ _ _ hh h => h.of_heap hh) own started (by kernel_rfl) Tryd.func4
    (ChangeSpec.witness_shaped (enc := enc) (C := Tryd.checked) (os := os) (X := fun w _ => laidMetH Tryd.prog Rows.msgAnswersRow.laid w) false (World.laidAll Tryd.prog os Rows.msgAnswersRow.laid) #[.int .i64 0] 8 (World.laidAll_os _ _ _)
      (World.shaped_of_ZipB (by kernel_rfl) (by kernel_rfl)) (by kernel_rfl) (by kernel_rfl) (by kernel_rfl)
      (by rw [MakeChecks.laidMetH_plain _ _ _ (by kernel_rfl)]; exact laidMet_laidAll _ (by kernel_rfl) (by kernel_rfl))) ?_
  intro W base args ds gs before hval0 hW _ _ hL _
  have hval : ∀ (j : Nat) t v, Tryd.f4.params[j]? = some t → args[j]? = some v → Value.okWide Tryd.prog W .any base t v := hval0
  have hW' := hW
  obtain ⟨p, q, hA0, hV, rfl, hfz, hnd⟩ := hW
  have hA : DataW.TrodAll enc Tryd.prog W 0 (fun _ => true) true Tryd.f4.params.toList args.toList ds p := hA0
  rw [Tryd.params4] at hA hval
  obtain ⟨v0, d0, rfl, rfl, h0⟩ := trodAll_one hA
  obtain ⟨rfl, rfl⟩ := trodVars_none hV
  obtain ⟨op, rfl, rfl, rfl, y1⟩ := open_int Tryd.underlying3 (hval 0 3 v0 rfl rfl) h0
  clear hA0 hval0
  refine (Msg.msgAnswers_calls op W (of_laid hL)).mono fun e W' ⟨he, hk⟩ => ?_
  subst he
  exact ⟨_, rfl, _, _, _, [], _, [], hW', trodAll_mk1 (shut_bool Tryd.underlying4 _), trodAll_mk1 (shut_int Tryd.underlying3 y1), rfl, hk.frame _, fun h => by cases h⟩
theorem over : Rows.MsgAnswersSaid :=
  OpenClaim.holds_of_wide 4 Tryd.f4 rfl rfl rfl rfl rfl rfl rfl ⟨rfl, rfl, rfl, rfl, rfl⟩ rfl rfl rfl rfl rfl (by kernel_rfl) Tryd.func4 (by kernel_rfl)
    (of_decide_eq_true (by kernel_rfl)) (by unfold Func.isWrapper; first | (rw [if_pos (by decide +kernel)]; kernel_rfl) | (rw [if_neg (by decide +kernel)]; exact ⟨rfl, rfl⟩))
    (fun os started H enc _ => lifted os started H enc)
theorem card : Rows.MsgAnswersCardSaid :=
  Claim7.holds_tied_plain_at .later [] [.data] true (true, "85f623a00cbee4a9f667985e4a2195283df4bbeeeff1b3e0cb0f96ca30c50aab") true
    over (fun _ h => by cases h) (by kernel_rfl) (fun _ h => by cases h) msgAnswers_row_tie rfl ⟨rfl, rfl⟩ (by kernel_rfl) rfl
    (fun f fn hf hfn => by
      obtain rfl : f = 4 := Option.some.inj ((show Tryd.prog.funcNamed "rollbook/rollbooklaw26.MsgAnswers" = some 4 by kernel_rfl).symm.trans hf) |>.symm
      obtain rfl : fn = Tryd.f4 := (Option.some.inj (Tryd.func4.symm.trans hfn)).symm
      exact ⟨by kernel_rfl, fun j t ht => by
        rw [Tryd.params4] at ht
        have hm : t ∈ [3] := by simpa using Array.mem_of_getElem? ht
        have hall : ([3].all fun u => !Tryd.prog.wantsStandIn u) = true := by kernel_rfl
        exact (show Tryd.prog.wantsStandIn t = false by simpa using List.all_eq_true.1 hall t hm)⟩)
    (by kernel_rfl)
#print axioms card
end Go.Proofs.YtghkgclbfjoilaaDoor.msgAnswers
namespace Go.Proofs.YtghkgclbfjoilaaDoor
/-- The card, under a short name, for the claim. -/
theorem msgAnswers_holds : Rows.MsgAnswersCardSaid := msgAnswers.card
end Go.Proofs.YtghkgclbfjoilaaDoor
