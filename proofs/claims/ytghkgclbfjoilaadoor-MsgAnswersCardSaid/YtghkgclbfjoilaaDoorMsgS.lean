/- Messages: the reference's comparison of the unbinding message with itself. -/
import Derived.Test.YtghkgclbfjoilaaDoorMsgP
import Derived.Outline
set_option linter.unusedVariables false
set_option linter.unusedSimpArgs false
namespace Go.Proofs.YtghkgclbfjoilaaDoor.Msg
open Go.RowKit Go.Proofs.YtghkgclbfjoilaaDoorW.PrintWords Go.Proofs.YtghkgclbfjoilaaDoorW.PrintLast Go.Proofs.YtghkgclbfjoilaaDoorW.PrintMore Go.Proofs.YtghkgclbfjoilaaDoor.Pl Go.Proofs.YtghkgclbfjoilaaDoor.R

set_option maxHeartbeats 2000000 in
set_option maxRecDepth 100000 in
theorem same01_nil (w : World) : Calls Tryd.prog 34 #[.slice none 0 0, .slice none 0 0] w fun e w' => e = .returned (.bool true) ∧ Below w.heap.size w w' := by
  go_enter Tryd.func34, Tryd.ntmps34
  go_wp2_with fail
  go_loop [5] (fun i => i = .int .i64 0) (fun _ => 0)
  case atStart => rfl
  case round =>
    subst hrel
    go_wp2_with fail
    go_ret
    exact ⟨rfl, Below.refl _ _⟩
set_option maxHeartbeats 2000000 in
set_option maxRecDepth 100000 in
theorem same19_zero (w : World) : Calls Tryd.prog 33 #[.agg #[.int .i64 0, .string (⟨#[]⟩ : ByteArray), .string (⟨#[]⟩ : ByteArray), .string (⟨#[]⟩ : ByteArray), .slice none 0 0, .string (⟨#[]⟩ : ByteArray), .slice none 0 0], .agg #[.int .i64 0, .string (⟨#[]⟩ : ByteArray), .string (⟨#[]⟩ : ByteArray), .string (⟨#[]⟩ : ByteArray), .slice none 0 0, .string (⟨#[]⟩ : ByteArray), .slice none 0 0]] w fun e w' => e = .returned (.bool true) ∧ Below w.heap.size w w' := by
  go_enter Tryd.func33, Tryd.ntmps33
  go_wp2_with fail
  go_loop [5] (fun i => i = .int .i64 0) (fun _ => 0)
  case atStart => rfl
  case round =>
    subst hrel
    go_wp2_with fail
    go_loop [6] (fun i => i = .int .i64 0) (fun _ => 0)
    case atStart => rfl
    case round =>
      subst hrel
      go_wp2_with fail
      go_ret
      exact ⟨rfl, below_alloc (below_alloc (Below.refl _ _) _) _⟩
set_option maxHeartbeats 8000000 in
set_option maxRecDepth 100000 in
theorem same_unb (n : Int) (w : World) : Calls Tryd.prog 13 #[.agg (unb n), .agg (unb n)] w fun e w' => e = .returned (.bool true) ∧ Below w.heap.size w w' := by
  have H1 := Aside0.mk same01_nil
  have H19 := Aside0.mk same19_zero
  have hnn : (n != n) = false := by simp
  go_enter Tryd.func13, Tryd.ntmps13
  go_upto_region 3 with (first | ((with_reducible refine gate_dst (N := 2) rfl ?_); refine box_event ?hg (N := 2) ?hd (cs := unb n) (t := 30) ?hr ?_; (case hd => rfl); (case hg => rfl); (case hr => first | (go_simp; done) | (go_simp; rfl)); intro gA hg_gA w2 hbox_gA hb_gA; have BA2 := Aside0.mk hbox_gA; have HB2 := Aside0.mk hb_gA; clear hg_gA hbox_gA hb_gA) | ((with_reducible refine gate_dst (N := 3) rfl ?_); refine box_event ?hg (N := 3) ?hd (cs := unb n) (t := 30) ?hr ?_; (case hd => rfl); (case hg => rfl); (case hr => first | (go_simp; done) | (go_simp; rfl)); intro gB hg_gB w3 hbox_gB hb_gB; have BB := Aside0.mk hbox_gB; have BA := Aside0.mk (blk_below BA2.out hb_gB); have HB := Aside0.mk (below_step HB2.out hb_gB); clear hg_gB hbox_gB hb_gB BA2 HB2; have hgA0 : w3.cell? ⟨gA, 0, none⟩ = some (.int .i64 n) := (blk_cell BA.out 0).trans rfl; have hgA1 : w3.cell? ⟨gA, 1, none⟩ = some (.int .i64 2) := (blk_cell BA.out 1).trans rfl; have hgA2 : w3.cell? ⟨gA, 2, none⟩ = some (.int .i64 0) := (blk_cell BA.out 2).trans rfl; have hgA3 : w3.cell? ⟨gA, 3, none⟩ = some (.string (⟨#[]⟩ : ByteArray)) := (blk_cell BA.out 3).trans rfl; have hgA4 : w3.cell? ⟨gA, 4, none⟩ = some (.bool false) := (blk_cell BA.out 4).trans rfl; have hgA5 : w3.cell? ⟨gA, 5, none⟩ = some (.string (⟨#[]⟩ : ByteArray)) := (blk_cell BA.out 5).trans rfl; have hgA6 : w3.cell? ⟨gA, 6, none⟩ = some (.string (⟨#[]⟩ : ByteArray)) := (blk_cell BA.out 6).trans rfl; have hgA7 : w3.cell? ⟨gA, 7, none⟩ = some (.bool false) := (blk_cell BA.out 7).trans rfl; have hgA8 : w3.cell? ⟨gA, 8, none⟩ = some (.string (⟨#[]⟩ : ByteArray)) := (blk_cell BA.out 8).trans rfl; have hgA9 : w3.cell? ⟨gA, 9, none⟩ = some (.int .i64 0) := (blk_cell BA.out 9).trans rfl; have hgA10 : w3.cell? ⟨gA, 10, none⟩ = some (.string (⟨#[]⟩ : ByteArray)) := (blk_cell BA.out 10).trans rfl; have hgB0 : w3.cell? ⟨gB, 0, none⟩ = some (.int .i64 n) := (blk_cell BB.out 0).trans rfl; have hgB1 : w3.cell? ⟨gB, 1, none⟩ = some (.int .i64 2) := (blk_cell BB.out 1).trans rfl; have hgB2 : w3.cell? ⟨gB, 2, none⟩ = some (.int .i64 0) := (blk_cell BB.out 2).trans rfl; have hgB3 : w3.cell? ⟨gB, 3, none⟩ = some (.string (⟨#[]⟩ : ByteArray)) := (blk_cell BB.out 3).trans rfl; have hgB4 : w3.cell? ⟨gB, 4, none⟩ = some (.bool false) := (blk_cell BB.out 4).trans rfl; have hgB5 : w3.cell? ⟨gB, 5, none⟩ = some (.string (⟨#[]⟩ : ByteArray)) := (blk_cell BB.out 5).trans rfl; have hgB6 : w3.cell? ⟨gB, 6, none⟩ = some (.string (⟨#[]⟩ : ByteArray)) := (blk_cell BB.out 6).trans rfl; have hgB7 : w3.cell? ⟨gB, 7, none⟩ = some (.bool false) := (blk_cell BB.out 7).trans rfl; have hgB8 : w3.cell? ⟨gB, 8, none⟩ = some (.string (⟨#[]⟩ : ByteArray)) := (blk_cell BB.out 8).trans rfl; have hgB9 : w3.cell? ⟨gB, 9, none⟩ = some (.int .i64 0) := (blk_cell BB.out 9).trans rfl; have hgB10 : w3.cell? ⟨gB, 10, none⟩ = some (.string (⟨#[]⟩ : ByteArray)) := (blk_cell BB.out 10).trans rfl))
  clear hgA0 hgA1 hgA2 hgA3 hgA4 hgA5 hgA6 hgA7 hgA8 hgA9 hgA10
  clear hgB0 hgB1 hgB2 hgB3 hgB4 hgB5 hgB6 hgB7 hgB8 hgB9 hgB10
  have hgA11 : w3.cell? ⟨gA, 11, none⟩ = some (.int .i64 0) := (blk_cell BA.out 11).trans rfl
  have hgA12 : w3.cell? ⟨gA, 12, none⟩ = some (.int .i64 0) := (blk_cell BA.out 12).trans rfl
  have hgA13 : w3.cell? ⟨gA, 13, none⟩ = some (.int .i64 0) := (blk_cell BA.out 13).trans rfl
  have hgA14 : w3.cell? ⟨gA, 14, none⟩ = some (.int .i64 0) := (blk_cell BA.out 14).trans rfl
  have hgA15 : w3.cell? ⟨gA, 15, none⟩ = some (.bool false) := (blk_cell BA.out 15).trans rfl
  have hgA26 : w3.cell? ⟨gA, 26, none⟩ = some (.string (⟨#[]⟩ : ByteArray)) := (blk_cell BA.out 26).trans rfl
  have hgA27 : w3.cell? ⟨gA, 27, none⟩ = some (.bool false) := (blk_cell BA.out 27).trans rfl
  have hgA29 : w3.cell? ⟨gA, 29, none⟩ = some (.int .i64 0) := (blk_cell BA.out 29).trans rfl
  have hgA16 : w3.cell? ⟨gA, 16, none⟩ = some (.int .i64 0) := (blk_cell BA.out 16).trans rfl
  have hgA17 : w3.cell? ⟨gA, 17, none⟩ = some (.string (⟨#[]⟩ : ByteArray)) := (blk_cell BA.out 17).trans rfl
  have hgA18 : w3.cell? ⟨gA, 18, none⟩ = some (.string (⟨#[]⟩ : ByteArray)) := (blk_cell BA.out 18).trans rfl
  have hgA19 : w3.cell? ⟨gA, 19, none⟩ = some (.string (⟨#[]⟩ : ByteArray)) := (blk_cell BA.out 19).trans rfl
  have hgA20 : w3.cell? ⟨gA, 20, none⟩ = some (.slice none 0 0) := (blk_cell BA.out 20).trans rfl
  have hgA21 : w3.cell? ⟨gA, 21, none⟩ = some (.string (⟨#[]⟩ : ByteArray)) := (blk_cell BA.out 21).trans rfl
  have hgA22 : w3.cell? ⟨gA, 22, none⟩ = some (.slice none 0 0) := (blk_cell BA.out 22).trans rfl
  have hgB11 : w3.cell? ⟨gB, 11, none⟩ = some (.int .i64 0) := (blk_cell BB.out 11).trans rfl
  have hgB12 : w3.cell? ⟨gB, 12, none⟩ = some (.int .i64 0) := (blk_cell BB.out 12).trans rfl
  have hgB13 : w3.cell? ⟨gB, 13, none⟩ = some (.int .i64 0) := (blk_cell BB.out 13).trans rfl
  have hgB14 : w3.cell? ⟨gB, 14, none⟩ = some (.int .i64 0) := (blk_cell BB.out 14).trans rfl
  have hgB15 : w3.cell? ⟨gB, 15, none⟩ = some (.bool false) := (blk_cell BB.out 15).trans rfl
  have hgB26 : w3.cell? ⟨gB, 26, none⟩ = some (.string (⟨#[]⟩ : ByteArray)) := (blk_cell BB.out 26).trans rfl
  have hgB27 : w3.cell? ⟨gB, 27, none⟩ = some (.bool false) := (blk_cell BB.out 27).trans rfl
  have hgB29 : w3.cell? ⟨gB, 29, none⟩ = some (.int .i64 0) := (blk_cell BB.out 29).trans rfl
  have hgB16 : w3.cell? ⟨gB, 16, none⟩ = some (.int .i64 0) := (blk_cell BB.out 16).trans rfl
  have hgB17 : w3.cell? ⟨gB, 17, none⟩ = some (.string (⟨#[]⟩ : ByteArray)) := (blk_cell BB.out 17).trans rfl
  have hgB18 : w3.cell? ⟨gB, 18, none⟩ = some (.string (⟨#[]⟩ : ByteArray)) := (blk_cell BB.out 18).trans rfl
  have hgB19 : w3.cell? ⟨gB, 19, none⟩ = some (.string (⟨#[]⟩ : ByteArray)) := (blk_cell BB.out 19).trans rfl
  have hgB20 : w3.cell? ⟨gB, 20, none⟩ = some (.slice none 0 0) := (blk_cell BB.out 20).trans rfl
  have hgB21 : w3.cell? ⟨gB, 21, none⟩ = some (.string (⟨#[]⟩ : ByteArray)) := (blk_cell BB.out 21).trans rfl
  have hgB22 : w3.cell? ⟨gB, 22, none⟩ = some (.slice none 0 0) := (blk_cell BB.out 22).trans rfl
  go_upto_region 5 with (first | (go_at_call 33; refine (H19.out _).mono ?_; rintro e w4 ⟨rfl, hb4⟩; have BB4 := Aside0.mk (blk_below BB.out hb4); have BA4 := Aside0.mk (blk_below BA.out hb4); have HB4 := Aside0.mk (below_step HB.out hb4); clear hb4; clear hgA11 hgA12 hgA13 hgA14 hgA15 hgA26 hgA27 hgA29 hgA16 hgA17 hgA18 hgA19 hgA20 hgA21 hgA22; clear hgB11 hgB12 hgB13 hgB14 hgB15 hgB26 hgB27 hgB29 hgB16 hgB17 hgB18 hgB19 hgB20 hgB21 hgB22; have hgA23 : w4.cell? ⟨gA, 23, none⟩ = some (.slice none 0 0) := (blk_cell BA4.out 23).trans rfl; have hgA28 : w4.cell? ⟨gA, 28, none⟩ = some (.slice none 0 0) := (blk_cell BA4.out 28).trans rfl; have hgB23 : w4.cell? ⟨gB, 23, none⟩ = some (.slice none 0 0) := (blk_cell BB4.out 23).trans rfl; have hgB28 : w4.cell? ⟨gB, 28, none⟩ = some (.slice none 0 0) := (blk_cell BB4.out 28).trans rfl) | (go_at_call 34; refine (H1.out w4).mono ?_; rintro e w5 ⟨rfl, hb5⟩; have BB5 := Aside0.mk (blk_below BB4.out hb5); have BA5 := Aside0.mk (blk_below BA4.out hb5); have HB5 := Aside0.mk (below_step HB4.out hb5); clear hb5; clear hgA23 hgA28; clear hgB23 hgB28; have hgA28 : w5.cell? ⟨gA, 28, none⟩ = some (.slice none 0 0) := (blk_cell BA5.out 28).trans rfl; have hgB28 : w5.cell? ⟨gB, 28, none⟩ = some (.slice none 0 0) := (blk_cell BB5.out 28).trans rfl) | (go_at_call 34; refine (H1.out w5).mono ?_; rintro e w6 ⟨rfl, hb6⟩; have BB6 := Aside0.mk (blk_below BB5.out hb6); have BA6 := Aside0.mk (blk_below BA5.out hb6); have HB6 := Aside0.mk (below_step HB5.out hb6); clear hb6; clear hgA28; clear hgB28; have hgA24 : w6.cell? ⟨gA, 24, none⟩ = some (.slice none 0 0) := (blk_cell BA6.out 24).trans rfl; have hgA25 : w6.cell? ⟨gA, 25, none⟩ = some (.slice none 0 0) := (blk_cell BA6.out 25).trans rfl; have hgA30 : w6.cell? ⟨gA, 30, none⟩ = some (.slice none 0 0) := (blk_cell BA6.out 30).trans rfl; have hgB24 : w6.cell? ⟨gB, 24, none⟩ = some (.slice none 0 0) := (blk_cell BB6.out 24).trans rfl; have hgB25 : w6.cell? ⟨gB, 25, none⟩ = some (.slice none 0 0) := (blk_cell BB6.out 25).trans rfl; have hgB30 : w6.cell? ⟨gB, 30, none⟩ = some (.slice none 0 0) := (blk_cell BB6.out 30).trans rfl))
  go_wp2_with fail
  go_loop [5] (fun i => i = .int .i64 0) (fun _ => 0)
  case atStart => rfl
  case round =>
    subst hrel
    go_wp2_with fail
    go_loop [6] (fun i => i = .int .i64 0) (fun _ => 0)
    case atStart => rfl
    case round =>
      subst hrel
      go_wp2_with fail
      go_loop [7] (fun i => i = .int .i64 0) (fun _ => 0)
      case atStart => rfl
      case round =>
        subst hrel
        go_wp2_with fail
        go_ret
        exact ⟨rfl, HB6.out⟩
end Go.Proofs.YtghkgclbfjoilaaDoor.Msg
