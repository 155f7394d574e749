/- ber.encode at this program: the walk, function 36. -/
import Derived.Test.YtghkgclbfjoilaaDoorEncW
import Derived.Test.YtghkgclbfjoilaaDoorR2
import Derived.Deep.RegionWith
import Derived.Deep.DrawnRows
set_option linter.unusedVariables false
set_option linter.unusedSimpArgs false
namespace Go.Proofs.YtghkgclbfjoilaaDoor.R
open Go.RowKit Go.Proofs.YtghkgclbfjoilaaDoorW.PrintWords Go.Proofs.YtghkgclbfjoilaaDoorW.PrintLast Go.Proofs.YtghkgclbfjoilaaDoorW.PrintMore Go.Proofs.YtghkgclbfjoilaaDoor.Pl
open Bld (IsB)

theorem isB_below {B b : Nat} {l : List UInt8} {w w' : World} (h : IsB B b l w) (hb : Below w.heap.size w w') : IsB B b l w' := by
  obtain ⟨h1, h2⟩ := h
  refine ⟨?_, Nat.lt_of_lt_of_le h2 hb.size⟩
  rcases h1 with ⟨h0, v, hv, ho, hn⟩ | ⟨h0, v, hv, ho, hn⟩
  · exact Or.inl ⟨h0, v, (hb.block b h2).trans hv, pw_own_below ho hb, hn⟩
  · exact Or.inr ⟨h0, v, (hb.block b h2).trans hv, pw_own_below ho hb, hn⟩

theorem head_bits : ∀ c : Fin 4, ∀ t : Fin 31, (Go.bits .or .i64 ((c.1 : Int) * 64) (t.1 : Int)) % 256 = ((headB c.1 false t.1 : Nat) : Int) := by decide +kernel
theorem head_bits32 : ∀ c : Fin 4, ∀ t : Fin 31, (Go.bits .or .u8 ((headB c.1 false t.1 : Nat) : Int) 32) = ((headB c.1 true t.1 : Nat) : Int) := by decide +kernel
theorem head_lt : ∀ c : Fin 4, ∀ t : Fin 31, headB c.1 true t.1 < 256 ∧ headB c.1 false t.1 < 256 := by decide +kernel

theorem fin_val {hd : Nat} {b hs ls : ByteArray} {r : ByteArray × Bool} (h : ((⟨(hd.toUInt8 :: (lenB (L b).length ++ L b)).toArray⟩ : ByteArray), decide ((hd.toUInt8 :: (lenB (L b).length ++ L b)).length ≤ 8192)) = r) (h1 : (⟨#[hd.toUInt8]⟩ : ByteArray) = hs) (h2 : (⟨(lenB b.size).toArray⟩ : ByteArray) = ls) :
    hs ++ ls ++ b = r.1 ∧ r.2 = decide (1 + (ls.size : Int) + (b.size : Int) ≤ 8192) := by
  subst h; subst h1; subst h2
  have e : (⟨#[hd.toUInt8]⟩ : ByteArray) ++ ⟨(lenB b.size).toArray⟩ ++ b = ⟨(hd.toUInt8 :: (lenB (L b).length ++ L b)).toArray⟩ := by
    apply L_ext; rw [L_app, L_app, L_mk, L_mk, L_len]; rfl
  refine ⟨e, ?_⟩
  rw [size_mk]
  show decide _ = decide _
  congr 1
  apply propext
  rw [List.length_cons, List.length_append, L_len]
  omega
theorem isB_fresh' (w : World) : IsB w.heap.size w.heap.size [] (w.alloc (.cells #[.pointer none, .slice none 0 0] 113)) := Bld.isB_fresh w.heap.size w (Nat.le_refl _)
theorem enc_lt (w : World) (o : Obj) : w.heap.size < (w.alloc o).drew.heap.size := by show _ < (w.heap.push o).size; simp
theorem cv1 (W : World) (g hd : Nat) (h : hd < 256) (hg : W.heap[g]? = some (.cells #[.int .u8 (hd : Int)] 5 (0, 0))) : (convert 83 9 (.slice (some ⟨g, 0, none⟩) 1 1)).run Tryd.prog W = .ok (.string ⟨#[hd.toUInt8]⟩) W := by
  have e : strOfNums [(hd : Int)] = ⟨#[hd.toUInt8]⟩ := by apply L_ext; rw [L_nums]; simp [L]
  rw [← e]
  exact own_string (base := 0) (e' := 5) (n := 1) Tryd.underlying83 Tryd.underlying5 Tryd.underlying9 ⟨rfl, Or.inr ⟨g, 1, _, rfl, Nat.zero_le _, hg, by omega, by decide, rfl, rfl⟩⟩

set_option maxHeartbeats 8000000 in
set_option maxRecDepth 100000 in
theorem encode_walk : ∀ (k : Nat) (x : S44) (A4 : Option Addr) (c4 : Nat) (r : ByteArray × Bool) (w : World) (hr : Kd.C k44 w A4 x.f4.length x.f4) (hc : x.f4.length ≤ c4) (h : encF k x = some r),
    Calls Tryd.prog 44 #[.agg #[.int .i64 x.f0, .bool x.f1, .int .i64 x.f2, .string x.f3, .slice A4 x.f4.length c4]] w fun e w' => e = .returned (.tuple #[.string r.1, .bool r.2]) ∧ Below w.heap.size w w' := by
  intro k
  induction k with
  | zero => intro x A4 c4 r w hr hc h; cases h
  | succ k ih =>
  intro x A4 c4 r w hr hc h
  obtain ⟨x0, x1, x2, x3, x4⟩ := x
  simp only [encF] at h
  by_cases h1 : 0 ≤ x0 ∧ x0 ≤ 3 ∧ 0 ≤ x2 ∧ x2 ≤ 30 ∧ x4.length < 140737488355328
  case neg => rw [if_neg h1] at h; cases h
  rw [if_pos h1] at h
  obtain ⟨c, rfl⟩ : ∃ c : Fin 4, x0 = (c.1 : Int) := ⟨⟨x0.toNat, by omega⟩, by simp; omega⟩
  obtain ⟨t, rfl⟩ : ∃ t : Fin 31, x2 = (t.1 : Int) := ⟨⟨x2.toNat, by omega⟩, by simp; omega⟩
  have hb1 := head_bits c t
  have hb2 := head_bits32 c t
  have H := Aside0.mk h
  have hxl := h1.2.2.2.2
  clear h h1
  have HR := Aside0.mk hr
  have HC := Aside0.mk hc
  clear hr hc
  have hu44 := Tryd.underlying44
  have HB := Aside0.mk (Below.refl w.heap.size w)
  go_enter Tryd.func44, Tryd.ntmps44
  go_upto_if 22 with (first | ((with_reducible refine gate_dst (N := 1) rfl ?_); refine box_event ?hg (N := 1) ?hd (cs := #[.int .i64 (c.1 : Int), .bool x1, .int .i64 (t.1 : Int), .string x3, .slice A4 x4.length c4]) (t := 44) ?hr ?_; (case hd => rfl); (case hg => rfl); (case hr => first | (go_simp; done) | (go_simp; rfl)); intro gb hg w6 hbox hb; have n0_ := Aside0.mk (below_step (by repeat (first | (with_reducible first | exact HB.out | apply below_alloc | apply pw_below_drewN | apply below_drew1) | exact HB.out)) hb); have n1_ := Aside0.mk (hbox); have n2_ := Aside0.mk ((by rw [hg]; exact (below_size (by repeat (first | (with_reducible first | exact HB.out | apply below_alloc | apply pw_below_drewN | apply below_drew1) | exact HB.out))) : w.heap.size ≤ gb)); clear HB; have HB := n0_; have BK := n1_; have GE := n2_; clear n0_ n1_ n2_; clear hb hbox hg; have hcz7_0 : w6.cell? ⟨gb, 0, none⟩ = some (.int .i64 (c.1 : Int)) := (blk_cell BK.out 0).trans rfl; have hcz7_1 : w6.cell? ⟨gb, 1, none⟩ = some (.bool x1) := (blk_cell BK.out 1).trans rfl; have hcz7_2 : w6.cell? ⟨gb, 2, none⟩ = some (.int .i64 (t.1 : Int)) := (blk_cell BK.out 2).trans rfl; have hcz7_3 : w6.cell? ⟨gb, 3, none⟩ = some (.string x3) := (blk_cell BK.out 3).trans rfl; have hcz7_4 : w6.cell? ⟨gb, 4, none⟩ = some (.slice A4 x4.length c4) := (blk_cell BK.out 4).trans rfl))
  rw [hb1]
  clear hb1
  go_cut [4, 5] (fun v4 v5 wc => ∃ b : ByteArray, v4 = .string b ∧ v5 = .int .u8 ((headB c.1 x1 t.1 : Nat) : Int) ∧ Aside0 (finB (headB c.1 x1 t.1) (L b) = r) ∧ Aside0 (Below w.heap.size w wc))
  case first =>
    cases x1
    · have e := H.out
      clear H
      rw [if_neg (by decide)] at e
      have HP := Aside0.mk (Option.some.inj e)
      clear e
      go_wp2
      go_meet
      case rel => exact ⟨x3, rfl, rfl, ⟨HP.out⟩, ⟨HB.out⟩⟩
    · have e := H.out
      clear H
      rw [if_pos rfl] at e
      obtain ⟨o, he1, he2⟩ := Option.bind_eq_some_iff.mp e
      have HL0 := Aside0.mk he1
      have HP := Aside0.mk (Option.some.inj he2)
      clear e he1 he2
      have hgl := blk_lt BK.out
      have hgn : gb ≠ w6.heap.size := Nat.ne_of_lt hgl
      go_wp2_with fail
      clear hb2
      have HI0 := Aside0.mk (isB_fresh' w6)
      go_loopw [28] (fun i wr => ∃ (j : Nat) (acc : List UInt8), i = .int .i64 (j : Int) ∧ j ≤ x4.length ∧ acc.length ≤ 8192 ∧ Aside0 (encLoop (encF k) (x4.drop j) acc = some o) ∧ Aside0 (IsB w6.heap.size w6.heap.size acc wr) ∧ Aside0 (Below w6.heap.size w6 wr)) (fun i _ => x4.length - (intOf i).toNat)
      case atStart => exact ⟨0, [], rfl, Nat.zero_le _, Nat.zero_le _, HL0, HI0, ⟨below_alloc (Below.refl _ _) _⟩⟩
      case round =>
        clear HL0 HI0
        obtain ⟨j, acc, rfl, hj, hacc, HL, HI, HB1⟩ := hrel
        have HBr := Aside0.mk (below_step HB.out HB1.out)
        by_cases hlt : j < x4.length
        · obtain ⟨y, hy, hyd⟩ : ∃ y, rd_T44 x4 (j : Int) = y ∧ x4.drop j = y :: x4.drop (j + 1) := ⟨_, rfl, by unfold rd_T44; simp only [Int.toNat_natCast]; rw [List.drop_eq_getElem_cons hlt, List.getD_eq_getElem?_getD, List.getElem?_eq_getElem hlt]; rfl⟩
          obtain ⟨ad, Aj, cj, e, hx0, hx1, hx2, hx3, hx4, hyl, hyC⟩ := at_T44 HR.out (j : Int) (by omega) (by simpa using hlt)
          rw [hy] at hx0 hx1 hx2 hx3 hx4 hyl hyC
          have HRy := Aside0.mk hyC
          have HCy := Aside0.mk hyl
          have e1 := HL.out
          rw [hyd] at e1
          simp only [encLoop] at e1
          obtain ⟨⟨s, ok⟩, hs, hrest⟩ := Option.bind_eq_some_iff.mp e1
          have HS := Aside0.mk hs
          clear e1 hs hy hyd hyC hyl HL
          cases e
          replace hx0 := (HBr.out.cell (World.block_lt_of_cell? w _ hx0)).trans hx0
          replace hx1 := (HBr.out.cell (World.block_lt_of_cell? w _ hx1)).trans hx1
          replace hx2 := (HBr.out.cell (World.block_lt_of_cell? w _ hx2)).trans hx2
          replace hx3 := (HBr.out.cell (World.block_lt_of_cell? w _ hx3)).trans hx3
          replace hx4 := (HBr.out.cell (World.block_lt_of_cell? w _ hx4)).trans hx4
          simp only [Int.toNat_natCast] at hx0 hx1 hx2 hx3 hx4
          have hbu : w6.heap.size < wr.heap.size := HI.out.2
          by_cases hok : ok = true
          · subst hok
            have hss := encF_size _ _ _ HS.out
            by_cases hsum : acc.length + s.size ≤ 8192
            · rw [if_pos ⟨rfl, hsum⟩] at hrest
              have HL := Aside0.mk hrest
              clear hrest
              have hd1 : decide (8192 < (acc.length : Int) + (s.size : Int)) = false := decide_eq_false (by omega)
              go_wp2_with (first | (go_at_call 44; refine (ih y Aj cj (s, true) _ ?s1 HCy.out HS.out).mono ?_; (case s1 => exact Kd.C_below HRy.out (by repeat (first | (with_reducible first | exact HBr.out | apply below_alloc | apply pw_below_drewN | apply below_drew1) | exact HBr.out))); rintro e w1 ⟨rfl, hb⟩; have HI1 := Aside0.mk (isB_below (isB_below HI.out (by repeat (first | (with_reducible first | exact Below.refl _ _ | apply below_alloc | apply pw_below_drewN | apply below_drew1) | exact Below.refl _ _))) hb); have HB2 := Aside0.mk (below_step (w := w6) (by repeat (first | (with_reducible first | exact HB1.out | apply below_alloc | apply pw_below_drewN | apply below_drew1) | exact HB1.out)) hb); clear hb) | (go_at_call 68; refine (Bld.len_any _ _ _ _ HI1.out).mono ?_; rintro e w2 ⟨rfl, rfl⟩) | (go_at_call 69; refine (Bld.writeString _ _ _ _ _ HI1.out (by omega) HB2.out.size).mono ?_; rintro e w2 ⟨rfl, HI2, HB3⟩; have HI3 := Aside0.mk HI2; have HB4 := Aside0.mk (HB2.out.trans HB3); clear HI2 HB3))
              go_roundw
              case measure => simp [intOf]; omega
              case rel => exact ⟨j + 1, _, by first | rfl | (simp; done) | go_num, hlt, by rw [List.length_append, L_len s]; exact hsum, HL, HI3, HB4⟩
            · rw [if_neg (fun h => hsum h.2)] at hrest
              obtain rfl := Option.some.inj hrest
              clear hrest
              have hd1 : decide (8192 < (acc.length : Int) + (s.size : Int)) = true := decide_eq_true (by omega)
              go_wp2_with (first | (go_at_call 44; refine (ih y Aj cj (s, true) _ ?s1 HCy.out HS.out).mono ?_; (case s1 => exact Kd.C_below HRy.out (by repeat (first | (with_reducible first | exact HBr.out | apply below_alloc | apply pw_below_drewN | apply below_drew1) | exact HBr.out))); rintro e w1 ⟨rfl, hb⟩; have HI1 := Aside0.mk (isB_below (isB_below HI.out (by repeat (first | (with_reducible first | exact Below.refl _ _ | apply below_alloc | apply pw_below_drewN | apply below_drew1) | exact Below.refl _ _))) hb); have HB2 := Aside0.mk (below_step (w := w6) (by repeat (first | (with_reducible first | exact HB1.out | apply below_alloc | apply pw_below_drewN | apply below_drew1) | exact HB1.out)) hb); clear hb) | (go_at_call 68; refine (Bld.len_any _ _ _ _ HI1.out).mono ?_; rintro e w2 ⟨rfl, rfl⟩))
              go_ret2
              exact ⟨by rw [← HP.out]; rfl, below_step HB.out HB2.out⟩
          · obtain rfl : ok = false := by simpa using hok
            rw [if_neg (fun h => hok h.1)] at hrest
            obtain rfl := Option.some.inj hrest
            clear hrest
            go_wp2_with (first | (go_at_call 44; refine (ih y Aj cj (s, false) _ ?s1 HCy.out HS.out).mono ?_; (case s1 => exact Kd.C_below HRy.out (by repeat (first | (with_reducible first | exact HBr.out | apply below_alloc | apply pw_below_drewN | apply below_drew1) | exact HBr.out))); rintro e w1 ⟨rfl, hb⟩; have HI1 := Aside0.mk (isB_below (isB_below HI.out (by repeat (first | (with_reducible first | exact Below.refl _ _ | apply below_alloc | apply pw_below_drewN | apply below_drew1) | exact Below.refl _ _))) hb); have HB2 := Aside0.mk (below_step (w := w6) (by repeat (first | (with_reducible first | exact HB1.out | apply below_alloc | apply pw_below_drewN | apply below_drew1) | exact HB1.out)) hb); clear hb))
            go_ret2
            exact ⟨by rw [← HP.out]; rfl, below_step HB.out HB2.out⟩
        · have e1 := HL.out
          rw [List.drop_eq_nil_of_le (by omega)] at e1
          simp only [encLoop] at e1
          obtain rfl := Option.some.inj e1
          clear e1
          have hjl : (x4.length : Int) = (j : Int) := by omega
          go_wp2_with (go_at_call 70; refine (Bld.string_any _ _ _ _ HI.out HB1.out.size).mono ?_; rintro e w2 ⟨rfl, hb⟩; have HB2 := Aside0.mk (HB1.out.trans hb); clear hb)
          go_meet
          case rel => exact ⟨⟨acc.toArray⟩, rfl, rfl, ⟨HP.out⟩, ⟨below_step HB.out HB2.out⟩⟩
  case rest =>
    clear hb2 hcz7_0 hcz7_1 hcz7_2 hcz7_3 hcz7_4 BK HR HC H hu44
    obtain ⟨b, rfl, rfl, HF, HB⟩ := hcut
    have hlt : headB c.1 x1 t.1 < 256 := by cases x1; exact (head_lt c t).2; exact (head_lt c t).1
    generalize headB c.1 x1 t.1 = hd at hlt HF ⊢
    by_cases q : 8192 < (L b).length
    · have e := HF.out
      clear HF
      rw [finB, if_pos q] at e
      subst e
      rw [L_len] at q
      have q1 : decide (8192 < (b.size : Int)) = true := decide_eq_true (by omega)
      have q2 : decide (8192 < b.size) = true := decide_eq_true (by omega)
      clear q
      go_wp2
      go_ret2
      exact ⟨rfl, HB.out⟩
    · have e := HF.out
      clear HF
      rw [finB, if_neg q] at e
      rw [L_len] at q
      have q1 : decide (8192 < (b.size : Int)) = false := decide_eq_false (by omega)
      have q2 : decide (8192 < b.size) = false := decide_eq_false (by omega)
      obtain ⟨kl, hkl⟩ := ev_out (length_ev b.size (by omega))
      have HK := Aside0.mk hkl
      have HE := Aside0.mk e
      clear e hkl q
      go_wp2_with fail
      obtain ⟨hs, hhs⟩ : ∃ hs : ByteArray, (⟨#[hd.toUInt8]⟩ : ByteArray) = hs := ⟨_, rfl⟩
      obtain ⟨ls, hls⟩ : ∃ ls : ByteArray, (⟨(lenB b.size).toArray⟩ : ByteArray) = ls := ⟨_, rfl⟩
      have z1 : hs.size = 1 := by rw [← hhs]; rfl
      have z2 : ls.size ≤ 4 := by rw [← hls, size_mk]; exact (lenB_len _).1
      have z3 : b.size ≤ 8192 := by have := of_decide_eq_false q2; omega
      have hcA := cv1 ((wc.alloc (.cells #[.int .u8 (hd : Int)] 5)).drew) wc.heap.size hd hlt (heap_alloc_new wc _)
      have HK2 := Aside0.mk (hls ▸ HK.out)
      clear HK
      rw [hhs] at hcA
      have HZ := Aside0.mk (And.intro hhs hls)
      clear hhs hls
      go_region_with (go_at_call 71; refine (ber_length.calls kl _ _ _ HK2.out).mono ?_; rintro e w1 ⟨rfl, hb⟩; have hcB := HZ.out.1 ▸ cv1 (w1.alloc (.cells #[.int .u8 (hd : Int)] 5)) w1.heap.size hd hlt (heap_alloc_new w1 _); first | (have hcC := HZ.out.1 ▸ cv1 w1 wc.heap.size hd hlt ((hb.block wc.heap.size (enc_lt wc _)).trans (heap_alloc_new wc _))) | skip)
      all_goals go_wp2
      all_goals go_ret2
      all_goals (obtain ⟨e1, e2⟩ := fin_val HE.out HZ.out.1 HZ.out.2; refine ⟨?_, ?_⟩)
      all_goals first | (with_reducible refine below_step ?_ hb; repeat (first | (with_reducible first | exact HB.out | apply below_alloc | apply pw_below_drewN | apply below_drew1) | exact HB.out)) | (apply below_alloc; with_reducible refine below_step ?_ hb; repeat (first | (with_reducible first | exact HB.out | apply below_alloc | apply pw_below_drewN | apply below_drew1) | exact HB.out)) | (rw [← e1, e2])
      all_goals rfl
end Go.Proofs.YtghkgclbfjoilaaDoor.R
