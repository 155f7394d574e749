/- ber.value at this program: the walk, function 40. -/
import Derived.Test.YtghkgclbfjoilaaDoorDecW
import Derived.Deep.RegionWith
import Derived.Deep.DrawnRows
set_option linter.unusedVariables false
set_option linter.unusedSimpArgs false
namespace Go.Proofs.YtghkgclbfjoilaaDoor.Dec
open Go.RowKit Go.Proofs.YtghkgclbfjoilaaDoorW.PrintWords Go.Proofs.YtghkgclbfjoilaaDoorW.PrintLast Go.Proofs.YtghkgclbfjoilaaDoorW.PrintMore Go.Proofs.YtghkgclbfjoilaaDoor.Pl Go.Proofs.YtghkgclbfjoilaaDoor.R Go.Proofs.YtghkgclbfjoilaaDoor.PureR

def VPost (r : Sum Nat S44) (w : World) (e : Ending) (w' : World) : Prop := Below w.heap.size w w' ∧ match r with
  | .inl c => e = panics c
  | .inr t => ∃ v4, e = .returned (.agg #[.int .i64 t.f0, .bool t.f1, .int .i64 t.f2, .string t.f3, v4]) ∧ Kd.R k44 44 w' w.heap.size (fun _ => True) v4 t.f4
theorem valL_succ (j : Nat) (s : ByteArray) : valL (j + 1) s = if (headL (L s)).2.2 = 0 ∧ (headL (L s)).1 + (headL (L s)).2.1 = s.size then (if b0 s / 32 % 2 = 1 then (match kidsL (valL j) (j == 0) s.size (s.extract (headL (L s)).1 s.size) [] with | .inl c => .inl c | .inr ks => .inr ⟨(b0 s / 64 : Nat), true, (b0 s % 32 : Nat), ⟨#[]⟩, ks⟩) else .inr ⟨(b0 s / 64 : Nat), false, (b0 s % 32 : Nat), s.extract (headL (L s)).1 s.size, []⟩) else .inl 4 := rfl
theorem put5 {W : World} {g : Nat} {t : TypeId} {v0 v1 v2 v3 v4 u0 u1 u2 u3 u4 : Value} (h : W.heap[g]? = some (.cells #[v0, v1, v2, v3, v4] t (0, 0))) :
    (((((W.setCell ⟨g, 0, none⟩ u0).setCell ⟨g, 1, none⟩ u1).setCell ⟨g, 2, none⟩ u2).setCell ⟨g, 3, none⟩ u3).setCell ⟨g, 4, none⟩ u4).heap[g]? = some (.cells #[u0, u1, u2, u3, u4] t (0, 0)) :=
  blk_put (blk_put (blk_put (blk_put (blk_put h 0 u0 rfl) 1 u1 rfl) 2 u2 rfl) 3 u3 rfl) 4 u4 rfl
theorem far5 {W : World} {g base : Nat} {e : Nat} {ok : Nat → Prop} {v : Value} {xs : List S44} {u0 u1 u2 u3 u4 : Value} (h : Kd.R k44 e W base ok v xs) (hg : ∀ k, ok k → k ≠ g) :
    Kd.R k44 e (((((W.setCell ⟨g, 0, none⟩ u0).setCell ⟨g, 1, none⟩ u1).setCell ⟨g, 2, none⟩ u2).setCell ⟨g, 3, none⟩ u3).setCell ⟨g, 4, none⟩ u4) base ok v xs :=
  Kd.R_far (Kd.R_far (Kd.R_far (Kd.R_far (Kd.R_far h hg u0) hg u1) hg u2) hg u3) hg u4
def strSz : Value → Nat
  | .string s => s.size
  | _ => 0
theorem whole_bounds {l : List UInt8} (h : okW l) : 2 ≤ lenW l ∧ lenW l ≤ l.length := by
  have := headL_bound l
  unfold okW at h
  unfold lenW
  have := this.2.2.2 h.1
  omega
theorem child_own {w5 wX : World} {v5 kv : Value} {xs acc : List S44} {gT gR base : Nat} {oT oR : Obj} {ok : Nat → Prop} (h5 : Kd.R k44 44 w5 wX.heap.size (fun _ => True) v5 xs) (hk : Kd.R k44 44 wX base ok kv acc) (hT : wX.heap[gT]? = some oT) (hR : wX.heap[gR]? = some oR) (hb : base ≤ wX.heap.size) :
    Kd.R k44 44 w5 base (fun k_ => (k_ ≠ gT ∧ k_ ≠ gR) ∧ some k_ ≠ kv.ownBlock) v5 xs := by
  refine Kd.R_mono (Kd.R_lower (Kd.R_bound h5) hb) ?_
  rintro k ⟨_, h1, _⟩
  have h2 := blk_lt hT
  have h3 := blk_lt hR
  refine ⟨⟨by omega, by omega⟩, fun he => ?_⟩
  have := Kd.R_lt hk k he.symm
  omega
section
variable {P : Program} {ops : Array Oper} {Q : Exit → Act → World → Prop}
theorem panics_ {oi : Oper} {N : Option Tmp} {a : Act} {w : World} {K : Act → World → Prop} {f : FuncId} {fn : Func} {ar : Array Operand} {ts : Array TypeId} (hf : P.funcs[f]? = some fn) (hname : (fn.name == "runtime.NumGoroutine") = false) (hb : fn.body.isSome = true) (args : Array Value)
    (hw : Region.wanted oi (yielded ops a.tmps) = true) (hN : oi.dst = N) (hop : oi.op = .call { callee := .value (.func f), args := ar, argTypes := ts }) (hargs : ar.map a.eval = args)
    (h : Calls P f args w fun e w' => ∃ ch, e = .panicked ch ∧ Q (.panic ch) a w') : if Region.wanted oi (yielded ops a.tmps) = true then Oper.wp P oi a w K Q else K (a.put N undef) w := by
  have he := enters_ hf hname hb args w
  have hrun : (execOp a.eval oi).run P w = .ok (.enter f args) w := by
    unfold execOp
    simp [hop, resolve, Deferred.ofValue, invoke, Act.eval, hargs, he]
  rw [if_pos hw]
  subst hN
  unfold Oper.wp
  rw [hrun, Oper.upon_enter]
  refine h.mono fun e w'' hh => ?_
  obtain ⟨ch, rfl, hk⟩ := hh
  exact hk
end
theorem b0_lt (s : ByteArray) : b0 s < 256 := UInt8.toNat_lt _
theorem b0_get (s : ByteArray) (h : 0 < s.size) : (s[0]'h).toNat = b0 s := by
  have e := bt_get s 0
  unfold bt at e
  rw [dif_pos (by simpa using h)] at e
  unfold b0
  exact_mod_cast e
theorem u8_and32 : ∀ b : Fin 256, Go.bits .and .u8 (b.1 : Int) 32 = ((b.1 / 32 % 2 * 32 : Nat) : Int) := by decide +kernel

set_option maxHeartbeats 4000000 in
set_option maxRecDepth 100000 in
theorem value_level (j d : Nat) (hjd : d + j = 16) (hd1 : 1 ≤ d) (ih : 1 ≤ j → ∀ (s : ByteArray) (w : World), s.size ≤ 20000 → Calls Tryd.prog 47 #[.string s, .int .i64 ((d + 1 : Nat) : Int)] w (fun e w' => VPost (valL j s) w e w')) :
    ∀ (s : ByteArray) (w : World), s.size ≤ 20000 → Calls Tryd.prog 47 #[.string s, .int .i64 (d : Int)] w (fun e w' => VPost (valL (j + 1) s) w e w') := by
  intro s w hs
  have hb := headL_bound (L s)
  have HH := Aside0.mk (head_calls s (by omega))
  rw [valL_succ]
  have hsz : (headL (L s)).2.2 = 0 → 0 < s.size := by
    intro h
    rcases Nat.eq_zero_or_pos s.size with h0 | h0
    · rw [← L_len] at h0
      rw [List.eq_nil_of_length_eq_zero h0] at h
      cases h
    · exact h0
  generalize (headL (L s)).1 = a at *
  generalize (headL (L s)).2.1 = n at *
  generalize (headL (L s)).2.2 = c at *
  have hu44 := Tryd.underlying44
  by_cases hok : c = 0 ∧ a + n = s.size
  case neg =>
    rw [if_neg hok]
    have hd : ((c : Int) != 0) = true ∨ c = 0 ∧ ((n : Int) != (s.size : Int) - (a : Int)) = true := by
      by_cases hc : c = 0
      · right
        refine ⟨hc, ?_⟩
        simp
        omega
      · left; simpa using hc
    go_enter Tryd.func47, Tryd.ntmps47
    rcases hd with hd | ⟨rfl, hd⟩
    · go_wp2_with (go_at_call 72; refine (HH.out _).mono ?_; rintro e w1 ⟨rfl, hbb⟩)
      exact ⟨rfl, below_step (below_alloc (Below.refl _ _) _) hbb, rfl⟩
    · go_wp2_with (go_at_call 72; refine (HH.out _).mono ?_; rintro e w1 ⟨rfl, hbb⟩)
      exact ⟨rfl, below_step (below_alloc (Below.refl _ _) _) hbb, rfl⟩
  rw [if_pos hok]
  obtain ⟨rfl, hn⟩ := hok
  have hs0 := hsz rfl
  have hd : ((n : Int) != (s.size : Int) - (a : Int)) = false := by simp; omega
  have hbyte := b0_get s hs0
  have hb256 := b0_lt s
  have h32 := u8_and32 ⟨b0 s, b0_lt s⟩
  have h31 := and31 ⟨b0 s, b0_lt s⟩
  simp only at h32 h31
  generalize b0 s = z at *
  obtain ⟨V, hV⟩ : ∃ V : Sum Nat S44, V = (if z / 32 % 2 = 1 then (match kidsL (valL j) (j == 0) s.size (s.extract a s.size) [] with | .inl c => .inl c | .inr ks => .inr ⟨(z / 64 : Nat), true, (z % 32 : Nat), ⟨#[]⟩, ks⟩) else .inr ⟨(z / 64 : Nat), false, (z % 32 : Nat), s.extract a s.size, []⟩) := ⟨_, rfl⟩
  rw [← hV]
  have HV := Aside0.mk hV
  clear hV
  go_enter Tryd.func47, Tryd.ntmps47
  go_upto_region 4 with (first | ((with_reducible refine gate_dst (N := 4) rfl ?_); refine box_event ?hg (N := 4) ?hd (cs := #[.int .i64 0, .bool false, .int .i64 0, .string (⟨#[]⟩ : ByteArray), .slice none 0 0]) (t := 44) ?hr ?_; (case hd => rfl); (case hg => rfl); (case hr => first | (go_simp; done) | (go_simp; rfl)); intro gR hg w2 hbox hb2; have HG := Aside0.mk hg; have BK := Aside0.mk hbox; have HB := Aside0.mk hb2; clear hg hbox hb2) | (go_at_call 72; refine (HH.out _).mono ?_; rintro e w1 ⟨rfl, hbb⟩; have BK1 := Aside0.mk (blk_below BK.out hbb); have HB1 := Aside0.mk (below_step HB.out hbb); clear BK HB hbb))
  clear hsz
  have ha := hb.1
  clear hb
  by_cases hcb : z / 32 % 2 = 1
  · have hV := HV.out
    rw [if_pos hcb] at hV
    replace HV := Aside0.mk hV
    clear hV
    have h32' : Go.bits .and .u8 (z : Int) 32 = 32 := by rw [h32, hcb]; rfl
    clear h32
    go_region
    obtain ⟨o, ho⟩ : ∃ o : Obj, o = .cells #[.int .i64 ((z : Int) / 64), .bool true, .int .i64 ((z : Int) % 32), .string (⟨#[]⟩ : ByteArray), .slice none 0 0] 44 (0, 0) := ⟨_, rfl⟩
    rw [← ho]
    have BT0 : (w1.alloc o).drew.heap[w1.heap.size]? = some o := heap_alloc_new w1 o
    have BR0 : (w1.alloc o).drew.heap[gR]? = _ := blk_below BK1.out (below_alloc (Below.refl _ w1) o).drew
    have HB0 : Below w.heap.size w (w1.alloc o).drew := (below_alloc HB1.out o).drew
    have hne : gR ≠ w1.heap.size := Nat.ne_of_lt (blk_lt BK1.out)
    have hge : w.heap.size ≤ w1.heap.size := HB1.out.size
    clear BK1 HB1 HH h32' h31 hbyte
    generalize (w1.alloc o).drew = w3 at *
    generalize w1.heap.size = gT at *
    subst ho
    have BT := Aside0.mk BT0
    have BR := Aside0.mk BR0
    have HB := Aside0.mk HB0
    have hgR : w.heap.size ≤ gR := Nat.le_of_eq HG.out.symm
    clear BT0 BR0 HB0 w1 w2 HG
    have hT1 : w3.cell? ⟨gT, 1, none⟩ = some (.bool true) := (blk_cell BT.out 1).trans rfl
    go_wp2_with fail
    have ha2 : (a : Int) ≤ (s.size : Int) := by omega
    obtain ⟨r0, hr0⟩ : ∃ r0, s.extract a s.size = r0 := ⟨_, rfl⟩
    have hrs : r0.size ≤ s.size := by rw [← hr0, size_cut]; omega
    have HV1 := Aside0.mk (hr0 ▸ HV.out)
    clear HV
    rw [hr0]
    clear hr0
    have HK := Aside0.mk (Kd.R_nil k44 44 w3 w.heap.size (fun k_ => k_ ≠ gT ∧ k_ ≠ gR))
    obtain ⟨K0, hK0⟩ : ∃ K0, kidsL (valL j) (j == 0) s.size r0 [] = K0 := ⟨_, rfl⟩
    have HKL := Aside0.mk hK0
    have HV2 := Aside0.mk (hK0 ▸ HV1.out)
    clear hK0 HV1 hT1
    go_loopw [9] (fun v9 wr => ∃ (rest : ByteArray) (acc : List S44) (kv : Value) (m : Nat), v9 = .string rest ∧ rest.size ≤ m ∧ m + acc.length ≤ 20000 ∧ Aside0 (kidsL (valL j) (j == 0) m rest acc = K0) ∧ Aside0 (wr.heap[gT]? = some (.cells #[.int .i64 ((z : Int) / 64), .bool true, .int .i64 ((z : Int) % 32), .string (⟨#[]⟩ : ByteArray), kv] 44 (0, 0))) ∧ Aside0 (wr.heap[gR]? = some (.cells #[.int .i64 0, .bool false, .int .i64 0, .string (⟨#[]⟩ : ByteArray), .slice none 0 0] 44 (0, 0))) ∧ Aside0 (Kd.R k44 44 wr w.heap.size (fun k_ => k_ ≠ gT ∧ k_ ≠ gR) kv acc) ∧ Aside0 (Below w.heap.size w wr)) (fun v _ => strSz v)
    case atStart => exact ⟨r0, [], _, s.size, rfl, hrs, by simpa using hs, HKL, BT, BR, HK, HB⟩
    case round =>
      clear HKL BT BR HK HB
      obtain ⟨rest, acc, kv, m, rfl, hm, hma, HKL, BT4, BR4, HK4, HB4⟩ := hrel
      by_cases hz0 : rest.size = 0
      · have hl0 : L rest = [] := List.eq_nil_of_length_eq_zero (by rw [L_len]; exact hz0)
        have hnil2 : rest.toList = ([] : List UInt8) := by rw [toL]; exact hl0
        have hnil3 : rest.toList.isEmpty = true := by rw [hnil2]; rfl
        clear hnil2 hl0
        have hend : K0 = .inr acc := by
          rw [← HKL.out]
          cases m with
          | zero => rfl
          | succ m => simp only [kidsL]; rw [if_pos hz0]
        have HE := Aside0.mk hend
        clear hend HKL hz0
        obtain ⟨Ak, ck, ek⟩ := Kd.R_slice HK4.out
        subst ek
        have hT0 : wr.cell? ⟨gT, 0, none⟩ = some (.int .i64 ((z : Int) / 64)) := (blk_cell BT4.out 0).trans rfl
        have hT1 : wr.cell? ⟨gT, 1, none⟩ = some (.bool true) := (blk_cell BT4.out 1).trans rfl
        have hT2 : wr.cell? ⟨gT, 2, none⟩ = some (.int .i64 ((z : Int) % 32)) := (blk_cell BT4.out 2).trans rfl
        have hT3 : wr.cell? ⟨gT, 3, none⟩ = some (.string (⟨#[]⟩ : ByteArray)) := (blk_cell BT4.out 3).trans rfl
        have hT4 : wr.cell? ⟨gT, 4, none⟩ = some (.slice Ak acc.length ck) := (blk_cell BT4.out 4).trans rfl
        have hR0 : wr.cell? ⟨gR, 0, none⟩ = some (.int .i64 0) := (blk_cell BR4.out 0).trans rfl
        have hR1 : wr.cell? ⟨gR, 1, none⟩ = some (.bool false) := (blk_cell BR4.out 1).trans rfl
        have hR2 : wr.cell? ⟨gR, 2, none⟩ = some (.int .i64 0) := (blk_cell BR4.out 2).trans rfl
        have hR3 : wr.cell? ⟨gR, 3, none⟩ = some (.string (⟨#[]⟩ : ByteArray)) := (blk_cell BR4.out 3).trans rfl
        have hR4 : wr.cell? ⟨gR, 4, none⟩ = some (.slice none 0 0) := (blk_cell BR4.out 4).trans rfl
        have fR0 := blk_frozen BR4.out 0
        have fR1 := blk_frozen BR4.out 1
        have fR2 := blk_frozen BR4.out 2
        have fR3 := blk_frozen BR4.out 3
        have fR4 := blk_frozen BR4.out 4
        have hne2 := hne.symm
        go_wp2_with fail
        refine bodyPost_ret (results_cell_row rfl _ _ gR 44 #[.int .i64 ((z : Int) / 64), .bool true, .int .i64 ((z : Int) % 32), .string (⟨#[]⟩ : ByteArray), .slice Ak acc.length ck] (0, 0) _ rfl (put5 BR4.out) Tryd.underlying44 rfl (by kernel_rfl)) rfl ?_
        have hVe : V = .inr ⟨(z / 64 : Nat), true, (z % 32 : Nat), ⟨#[]⟩, acc⟩ := by rw [HV2.out, HE.out]
        rw [hVe]
        exact ⟨by repeat (first | exact HB4.out | refine below_set ?_ hgR | refine below_set ?_ hge), _, rfl, Kd.R_mono (far5 HK4.out (fun k_ hk => hk.2)) (fun _ _ => trivial)⟩
      · have hnil3 : rest.toList.isEmpty = false := by
          have hl := L_len rest
          rw [toL]
          cases hL : L rest with
          | nil => rw [hL] at hl; simp at hl; omega
          | cons x l => rfl
        obtain ⟨m, rfl⟩ : ∃ m', m = m' + 1 := ⟨m - 1, by omega⟩
        have hk1 := HKL.out
        simp only [kidsL] at hk1
        rw [if_neg hz0] at hk1
        clear HKL
        by_cases htop : j = 0
        · subst htop
          rw [if_pos (by decide : ((0 : Nat) == 0) = true)] at hk1
          have HE := Aside0.mk hk1.symm
          clear hk1
          have hd16 : decide ((16 : Int) ≤ (d : Int)) = true := decide_eq_true (by omega)
          go_wp2_with fail
          have hVe : V = .inl 13 := by rw [HV2.out, HE.out]
          rw [hVe]
          exact ⟨rfl, HB4.out, rfl⟩
        · have hj1 : 1 ≤ j := by omega
          rw [if_neg (by simpa using htop)] at hk1
          have hd16 : decide ((16 : Int) ≤ (d : Int)) = false := decide_eq_false (by omega)
          by_cases hw : okW (L rest)
          case neg =>
            rw [if_neg hw] at hk1
            have HE := Aside0.mk hk1.symm
            clear hk1
            go_wp2_with (go_at_call 73; refine (whole_bad rest (by omega) _ hw).mono ?_; rintro e w5 ⟨rfl, hb5⟩)
            have hVe : V = .inl 4 := by rw [HV2.out, HE.out]
            rw [hVe]
            exact ⟨rfl, below_step HB4.out hb5, rfl⟩
          rw [if_pos hw] at hk1
          have hw2 := hw
          have HW := Aside0.mk hw
          clear hw
          have hwl := whole_bounds hw2
          rw [L_len] at hwl
          clear hw2
          obtain ⟨nw, hnw⟩ : ∃ nw, lenW (L rest) = nw := ⟨_, rfl⟩
          have HWC := Aside0.mk (hnw ▸ whole_ok rest (by omega) · HW.out)
          rw [hnw] at hk1 hwl
          clear hnw
          have HC := Aside0.mk (fun x : World => (show Calls Tryd.prog 47 #[.string (rest.extract 0 nw), .int .i64 (wrap64 ((d : Int) + 1))] x (fun e w' => VPost (valL j (rest.extract 0 nw)) x e w') from by rw [wN1 d (by omega)]; exact ih hj1 (rest.extract 0 nw) x (by rw [size_cut]; omega)))
          have hnw2 : (nw : Int) ≤ (rest.size : Int) := by omega
          go_upto_region 13 with (go_at_call 73; refine (HWC.out _).mono ?_; rintro e w4 ⟨rfl, hb4⟩; have BT5 := Aside0.mk (blk_below BT4.out hb4); have BR5 := Aside0.mk (blk_below BR4.out hb4); have HB5 := Aside0.mk (below_step HB4.out hb4); have HK5 := Aside0.mk (Kd.R_below HK4.out hb4); clear BT4 BR4 HB4 HK4 hb4; have BT4 := BT5; have BR4 := BR5; have HB4 := HB5; have HK4 := HK5; clear BT5 BR5 HB5 HK5)
          cases hv : valL j (rest.extract 0 nw) with
          | inl c =>
            rw [hv] at hk1
            have HE := Aside0.mk hk1.symm
            have HIH := Aside0.mk (hv ▸ HC.out)
            clear hk1 hv HC
            have hVe : V = .inl c := by
              have e1 := HE.out
              have e2 := HV2.out
              rw [e1] at e2
              exact e2
            subst hVe
            have BT5 : Aside0 (w4.drew.heap[gT]? = _) := BT4
            have BR5 : Aside0 (w4.drew.heap[gR]? = _) := BR4
            have HB5 : Aside0 (Below w.heap.size w w4.drew) := ⟨HB4.out.drew⟩
            have HK5 := Aside0.mk (Kd.R_drew HK4.out)
            clear BT4 BR4 HB4 HK4
            have BT4 := BT5
            have BR4 := BR5
            have HB4 := HB5
            have HK4 := HK5
            clear BT5 BR5 HB5 HK5
            refine start_ (n := 12) (S := fun w' => w'.cell? ⟨gT, 4, none⟩ = some kv) (ds := [11]) #[false, false, false, false, false, false, false, false, false, false, false, false] (by kernel_rfl) rfl rfl (((blk_cell BT4.out 4).trans rfl)) (fun hHeld => ?_)
            generalize w4.drew = wd at BT4 BR4 HB4 HK4 hHeld ⊢
            refine pure_ (i := 0) (N := some 59) (v := ?_) (a' := ?_) #[true, false, false, false, false, false, false, false, false, false, false, false] rfl rfl (by kernel_rfl) (fun _ _ _ h => h) (Or.inl ⟨by rfl, ?_⟩) ?_ ?_
            rotate_left
            · intro w'
              go_simp
              with_reducible rfl
            rotate_left
            · simp only [Act.put, List.setIfInBounds_toArray, List.set_cons_zero, List.set_cons_succ, i64_w, i32_w]
              rfl
            refine pure_ (i := 2) (N := some 61) (v := ?_) (a' := ?_) #[true, false, true, false, false, false, false, false, false, false, false, false] rfl rfl (by kernel_rfl) (fun _ _ _ h => h) (Or.inl ⟨by rfl, ?_⟩) ?_ ?_
            rotate_left
            · intro w'
              go_simp
              with_reducible rfl
            rotate_left
            · simp only [Act.put, List.setIfInBounds_toArray, List.set_cons_zero, List.set_cons_succ, i64_w, i32_w]
              rfl
            refine pure_ (i := 3) (N := some 62) (v := ?_) (a' := ?_) #[true, false, true, true, false, false, false, false, false, false, false, false] rfl rfl (by kernel_rfl) (fun _ _ _ h => h) (Or.inl ⟨by rfl, ?_⟩) ?_ ?_
            rotate_left
            · intro w'
              go_simp
              with_reducible rfl
            rotate_left
            · simp only [Act.put, List.setIfInBounds_toArray, List.set_cons_zero, List.set_cons_succ, i64_w, i32_w]
              rfl
            refine pure_ (i := 4) (N := some 63) (v := ?_) (a' := ?_) #[true, false, true, true, true, false, false, false, false, false, false, false] rfl rfl (by kernel_rfl) (fun _ _ _ h => h) (Or.inl ⟨by rfl, ?_⟩) ?_ ?_
            rotate_left
            · intro w'
              go_simp
              with_reducible rfl
            rotate_left
            · simp only [Act.put, List.setIfInBounds_toArray, List.set_cons_zero, List.set_cons_succ, i64_w, i32_w]
              rfl
            refine pure_ (i := 5) (N := some 64) (v := ?_) (a' := ?_) #[true, false, true, true, true, true, false, false, false, false, false, false] rfl rfl (by kernel_rfl) (fun _ _ _ h => h) (Or.inl ⟨by rfl, ?_⟩) ?_ ?_
            rotate_left
            · intro w'
              go_simp
              with_reducible rfl
            rotate_left
            · simp only [Act.put, List.setIfInBounds_toArray, List.set_cons_zero, List.set_cons_succ, i64_w, i32_w]
              rfl
            refine pure_ (i := 6) (N := some 65) (v := ?_) (a' := ?_) #[true, false, true, true, true, true, true, false, false, false, false, false] rfl rfl (by kernel_rfl) (fun _ _ _ h => h) (Or.inl ⟨by rfl, ?_⟩) ?_ ?_
            rotate_left
            · intro w'
              go_simp
              with_reducible rfl
            rotate_left
            · simp only [Act.put, List.setIfInBounds_toArray, List.set_cons_zero, List.set_cons_succ, i64_w, i32_w]
              rfl
            refine take_ (i := 1) (N := some 60) (v := ?_) (a' := ?_) #[true, true, true, true, true, true, true, false, false, false, false, false] rfl rfl (by kernel_rfl) (fun _ _ _ h => h) (Or.inl ⟨by rfl, ?_⟩) hHeld ?_ ?_
            rotate_left
            · intro w' s0
              go_simp
              with_reducible rfl
            rotate_left
            · simp only [Act.put, List.setIfInBounds_toArray, List.set_cons_zero, List.set_cons_succ, i64_w, i32_w]
              rfl
            refine one_ (i := 7) (N := some 66) #[true, true, true, true, true, true, true, true, false, false, false, false] rfl rfl (by kernel_rfl) (by decide) (fun K hK => ?_)
            refine panics_ Tryd.func47 (by kernel_rfl) rfl #[.string (rest.extract 0 nw), .int .i64 (wrap64 ((d : Int) + 1))] (by rfl) rfl rfl (by simp only [List.map_toArray, List.map_cons, List.map_nil]; first | done | rfl) ?_
            with_reducible refine (HIH.out _).mono ?_
            rintro e w5 ⟨hb5, he⟩
            have he2 : e = panics c := he
            refine ⟨_, he2, ?_⟩
            exact ⟨rfl, below_step HB4.out hb5, rfl⟩
          | inr t =>
            rw [hv] at hk1
            have HE := Aside0.mk hk1
            have HIH := Aside0.mk (hv ▸ HC.out)
            clear hk1 hv HC
            have BT5 : Aside0 (w4.drew.heap[gT]? = _) := BT4
            have BR5 : Aside0 (w4.drew.heap[gR]? = _) := BR4
            have HB5 : Aside0 (Below w.heap.size w w4.drew) := ⟨HB4.out.drew⟩
            have HK5 := Aside0.mk (Kd.R_drew HK4.out)
            clear BT4 BR4 HB4 HK4
            have BT4 := BT5
            have BR4 := BR5
            have HB4 := HB5
            have HK4 := HK5
            clear BT5 BR5 HB5 HK5
            refine start_ (n := 12) (S := fun w' => w'.cell? ⟨gT, 4, none⟩ = some kv) (ds := [11]) #[false, false, false, false, false, false, false, false, false, false, false, false] (by kernel_rfl) rfl rfl (((blk_cell BT4.out 4).trans rfl)) (fun hHeld => ?_)
            generalize w4.drew = wd at BT4 BR4 HB4 HK4 hHeld ⊢
            refine pure_ (i := 0) (N := some 59) (v := ?_) (a' := ?_) #[true, false, false, false, false, false, false, false, false, false, false, false] rfl rfl (by kernel_rfl) (fun _ _ _ h => h) (Or.inl ⟨by rfl, ?_⟩) ?_ ?_
            rotate_left
            · intro w'
              go_simp
              with_reducible rfl
            rotate_left
            · simp only [Act.put, List.setIfInBounds_toArray, List.set_cons_zero, List.set_cons_succ, i64_w, i32_w]
              rfl
            refine pure_ (i := 2) (N := some 61) (v := ?_) (a' := ?_) #[true, false, true, false, false, false, false, false, false, false, false, false] rfl rfl (by kernel_rfl) (fun _ _ _ h => h) (Or.inl ⟨by rfl, ?_⟩) ?_ ?_
            rotate_left
            · intro w'
              go_simp
              with_reducible rfl
            rotate_left
            · simp only [Act.put, List.setIfInBounds_toArray, List.set_cons_zero, List.set_cons_succ, i64_w, i32_w]
              rfl
            refine pure_ (i := 3) (N := some 62) (v := ?_) (a' := ?_) #[true, false, true, true, false, false, false, false, false, false, false, false] rfl rfl (by kernel_rfl) (fun _ _ _ h => h) (Or.inl ⟨by rfl, ?_⟩) ?_ ?_
            rotate_left
            · intro w'
              go_simp
              with_reducible rfl
            rotate_left
            · simp only [Act.put, List.setIfInBounds_toArray, List.set_cons_zero, List.set_cons_succ, i64_w, i32_w]
              rfl
            refine pure_ (i := 4) (N := some 63) (v := ?_) (a' := ?_) #[true, false, true, true, true, false, false, false, false, false, false, false] rfl rfl (by kernel_rfl) (fun _ _ _ h => h) (Or.inl ⟨by rfl, ?_⟩) ?_ ?_
            rotate_left
            · intro w'
              go_simp
              with_reducible rfl
            rotate_left
            · simp only [Act.put, List.setIfInBounds_toArray, List.set_cons_zero, List.set_cons_succ, i64_w, i32_w]
              rfl
            refine pure_ (i := 5) (N := some 64) (v := ?_) (a' := ?_) #[true, false, true, true, true, true, false, false, false, false, false, false] rfl rfl (by kernel_rfl) (fun _ _ _ h => h) (Or.inl ⟨by rfl, ?_⟩) ?_ ?_
            rotate_left
            · intro w'
              go_simp
              with_reducible rfl
            rotate_left
            · simp only [Act.put, List.setIfInBounds_toArray, List.set_cons_zero, List.set_cons_succ, i64_w, i32_w]
              rfl
            refine pure_ (i := 6) (N := some 65) (v := ?_) (a' := ?_) #[true, false, true, true, true, true, true, false, false, false, false, false] rfl rfl (by kernel_rfl) (fun _ _ _ h => h) (Or.inl ⟨by rfl, ?_⟩) ?_ ?_
            rotate_left
            · intro w'
              go_simp
              with_reducible rfl
            rotate_left
            · simp only [Act.put, List.setIfInBounds_toArray, List.set_cons_zero, List.set_cons_succ, i64_w, i32_w]
              rfl
            refine take_ (i := 1) (N := some 60) (v := ?_) (a' := ?_) #[true, true, true, true, true, true, true, false, false, false, false, false] rfl rfl (by kernel_rfl) (fun _ _ _ h => h) (Or.inl ⟨by rfl, ?_⟩) hHeld ?_ ?_
            rotate_left
            · intro w' s0
              go_simp
              with_reducible rfl
            rotate_left
            · simp only [Act.put, List.setIfInBounds_toArray, List.set_cons_zero, List.set_cons_succ, i64_w, i32_w]
              rfl
            refine one_ (i := 7) (N := some 66) #[true, true, true, true, true, true, true, true, false, false, false, false] rfl rfl (by kernel_rfl) (by decide) (fun K hK => ?_)
            refine goes_ Tryd.func47 (by kernel_rfl) rfl #[.string (rest.extract 0 (nw)), .int .i64 (wrap64 ((d : Int) + 1))] (by rfl) rfl rfl (by simp only [List.map_toArray, List.map_cons, List.map_nil]; first | done | rfl) ?_
            with_reducible refine (HIH.out _).mono ?_
            rintro e w5 ⟨hb5, v5, he5, hR5⟩
            subst he5
            refine ⟨_, rfl, ?_⟩
            have BT5 := Aside0.mk (blk_below BT4.out hb5)
            have BR5 := Aside0.mk (blk_below BR4.out hb5)
            have HB5 := Aside0.mk (below_step HB4.out hb5)
            have HK5 := Aside0.mk (Kd.R_below HK4.out hb5)
            have HR5 := Aside0.mk hR5
            have hfr5 := Aside0.mk (below_size hb5)
            clear hb5 hR5
            refine hK.out _ _ (((blk_cell BT5.out 4).trans rfl)) (fun hHeld => ?_)
            clear hK K
            refine norm_ (a' := ?_) ?_ ?_
            rotate_left
            · show Act.put _ (some 66) _ = _
              simp only [Act.put, List.setIfInBounds_toArray, List.set_cons_zero, List.set_cons_succ, i64_w, i32_w]
              rfl
            refine one_ (i := 8) (N := some 67) #[true, true, true, true, true, true, true, true, true, false, false, false] rfl rfl (by kernel_rfl) (by decide) (fun K hK => ?_)
            refine value_ (w1 := ?_) (v := ?_) (by rfl) rfl ?_ ?_
            rotate_left 2
            · go_simp
              constructor
              · rfl
              · rfl
            refine hK.out _ _ (((blk_cell (blk_below BT5.out (below_alloc (Below.refl _ _) _)) 4).trans rfl)) (fun hHeld => ?_)
            clear hK K
            refine norm_ (a' := ?_) ?_ ?_
            rotate_left
            · show Act.put _ (some 67) _ = _
              simp only [Act.put, List.setIfInBounds_toArray, List.set_cons_zero, List.set_cons_succ, i64_w, i32_w]
              rfl
            refine one_ (i := 9) (N := some 68) #[true, true, true, true, true, true, true, true, true, true, false, false] rfl rfl (by kernel_rfl) (by decide) (fun K hK => ?_)
            refine Kd.R_append_step k44 (w0 := w) w.heap.size (by rfl) (.tmp 60) (.tmp 67) 42 44 (.agg #[(.int .i64 0), (.bool false), (.int .i64 0), (.string ⟨#[]⟩), (.slice none 0 0)]) 64 rfl Tryd.underlying42 info44 rfl (by decide) (by omega) kv acc t [.int .i64 t.f0, .bool t.f1, .int .i64 t.f2, .string t.f3, v5] (fun k_ => k_ ≠ gT ∧ k_ ≠ gR) (fun k_ => (k_ ≠ gT ∧ k_ ≠ gR) ∧ some k_ ≠ (kv : Value).ownBlock) rfl rfl ?aP (fun _ hk => hk) ?aF ?aO ?aB ?aS ?aL ?_
            (case aP => exact k44_mkM _ _ _ t (child_own HR5.out HK4.out BT4.out BR4.out HB4.out.size))
            (case aF => exact (fun k_ hk => ⟨fun he => absurd (blk_lt BT5.out) (by omega), fun he => absurd (blk_lt BR5.out) (by omega)⟩))
            (case aO => exact HK5.out)
            (case aB => exact HB5.out)
            (case aS => exact HB5.out.size)
            (case aL => omega)
            intro v6 w6 ho6 hb6 hg6 hat6
            obtain ⟨A6, c6, e6⟩ := Kd.R_slice ho6
            subst e6
            have BT6 := Aside0.mk (blk_grown BT5.out hg6 (Kd.R_away HK5.out (fun _ hk => hk.1)))
            have BR6 := Aside0.mk (blk_grown BR5.out hg6 (Kd.R_away HK5.out (fun _ hk => hk.2)))
            have HB6 := Aside0.mk hb6
            have HK6 := Aside0.mk ho6
            clear ho6 hb6 hg6 hat6
            have hT64 : w6.cell? ⟨gT, 4, none⟩ = some kv := (blk_cell BT6.out 4).trans rfl
            have fT64 := blk_frozen BT6.out 4
            refine hK.out _ _ (hT64) (fun hHeld => ?_)
            clear hK K
            refine norm_ (a' := ?_) ?_ ?_
            rotate_left
            · show Act.put _ (some 68) _ = _
              simp only [Act.put, List.setIfInBounds_toArray, List.set_cons_zero, List.set_cons_succ, i64_w, i32_w]
              rfl
            refine pure_ (i := 10) (N := some 69) (v := ?_) (a' := ?_) #[true, true, true, true, true, true, true, true, true, true, true, false] rfl rfl (by kernel_rfl) (fun _ _ _ h => h) (Or.inl ⟨by rfl, ?_⟩) ?_ ?_
            rotate_left
            · intro w'
              go_simp
              with_reducible rfl
            rotate_left
            · simp only [Act.put, List.setIfInBounds_toArray, List.set_cons_zero, List.set_cons_succ, i64_w, i32_w]
              rfl
            refine last_ (i := 11) (N := none) #[true, true, true, true, true, true, true, true, true, true, true, true] rfl rfl (by kernel_rfl) (by decide) (fun K hK => ?_)
            refine skip_ (w1 := ?_) (by rfl) rfl ?_ ?_
            rotate_left
            · go_simp
              rfl
            refine hK.out _ _ ?_
            clear hK K
            refine done_ (by kernel_rfl) ?_
            go_wp2_with fail
            go_roundw
            case measure => simp [strSz, size_cut]; omega
            case rel => exact ⟨rest.extract nw rest.size, acc ++ [t], _, m, rfl, by rw [size_cut]; omega, by rw [List.length_append]; simp; omega, ⟨HE.out⟩, ⟨blk_put BT6.out 4 _ rfl⟩, ⟨blk_far BR6.out hne _⟩, ⟨by have hh := Kd.R_far (p := ⟨gT, 4, none⟩) HK6.out (fun _ hk => hk.1) (.slice A6 (acc.length + 1) c6); rw [List.length_append] at hh; exact hh⟩, ⟨below_set HB6.out hge⟩⟩

  · have hV := HV.out
    rw [if_neg hcb] at hV
    have h32' : Go.bits .and .u8 (z : Int) 32 = 0 := by rw [h32, show z / 32 % 2 = 0 by omega]; rfl
    clear h32
    go_region
    obtain ⟨o, ho⟩ : ∃ o : Obj, o = .cells #[.int .i64 ((z : Int) / 64), .bool false, .int .i64 ((z : Int) % 32), .string (⟨#[]⟩ : ByteArray), .slice none 0 0] 44 (0, 0) := ⟨_, rfl⟩
    rw [← ho]
    have BT0 : (w1.alloc o).drew.heap[w1.heap.size]? = some o := heap_alloc_new w1 o
    have BR0 : (w1.alloc o).drew.heap[gR]? = _ := blk_below BK1.out (below_alloc (Below.refl _ w1) o).drew
    have HB0 : Below w.heap.size w (w1.alloc o).drew := (below_alloc HB1.out o).drew
    have hne : gR ≠ w1.heap.size := Nat.ne_of_lt (blk_lt BK1.out)
    have hge : w.heap.size ≤ w1.heap.size := HB1.out.size
    clear BK1 HB1 HH h32' h31 hbyte HV
    generalize (w1.alloc o).drew = w3 at *
    generalize w1.heap.size = gT at *
    subst ho
    have BT := Aside0.mk BT0
    have BR := Aside0.mk BR0
    have HB := Aside0.mk HB0
    have hgR : w.heap.size ≤ gR := Nat.le_of_eq HG.out.symm
    have HVV := Aside0.mk hV
    clear BT0 BR0 HB0 w1 w2 HG hV
    have hT0 : w3.cell? ⟨gT, 0, none⟩ = some (.int .i64 ((z : Int) / 64)) := (blk_cell BT.out 0).trans rfl
    have hT1 : w3.cell? ⟨gT, 1, none⟩ = some (.bool false) := (blk_cell BT.out 1).trans rfl
    have hT2 : w3.cell? ⟨gT, 2, none⟩ = some (.int .i64 ((z : Int) % 32)) := (blk_cell BT.out 2).trans rfl
    have hT3 : w3.cell? ⟨gT, 3, none⟩ = some (.string (⟨#[]⟩ : ByteArray)) := (blk_cell BT.out 3).trans rfl
    have hT4 : w3.cell? ⟨gT, 4, none⟩ = some (.slice none 0 0) := (blk_cell BT.out 4).trans rfl
    have fT3 := blk_frozen BT.out 3
    have hR0 : w3.cell? ⟨gR, 0, none⟩ = some (.int .i64 0) := (blk_cell BR.out 0).trans rfl
    have hR1 : w3.cell? ⟨gR, 1, none⟩ = some (.bool false) := (blk_cell BR.out 1).trans rfl
    have hR2 : w3.cell? ⟨gR, 2, none⟩ = some (.int .i64 0) := (blk_cell BR.out 2).trans rfl
    have hR3 : w3.cell? ⟨gR, 3, none⟩ = some (.string (⟨#[]⟩ : ByteArray)) := (blk_cell BR.out 3).trans rfl
    have hR4 : w3.cell? ⟨gR, 4, none⟩ = some (.slice none 0 0) := (blk_cell BR.out 4).trans rfl
    have fR0 := blk_frozen BR.out 0
    have fR1 := blk_frozen BR.out 1
    have fR2 := blk_frozen BR.out 2
    have fR3 := blk_frozen BR.out 3
    have fR4 := blk_frozen BR.out 4
    have hne2 := hne.symm
    go_wp2_with fail
    refine bodyPost_ret (results_cell_row rfl _ _ gR 44 #[.int .i64 ((z : Int) / 64), .bool false, .int .i64 ((z : Int) % 32), .string (s.extract a s.size), .slice none 0 0] (0, 0) _ rfl (put5 (blk_far BR.out hne _)) Tryd.underlying44 rfl (by kernel_rfl)) rfl ?_
    rw [HVV.out]
    exact ⟨by repeat (first | exact HB.out | refine below_set ?_ hgR | refine below_set ?_ hge), _, rfl, Kd.R_nil _ _ _ _ _⟩

theorem value_walk : ∀ (j d : Nat), d + j = 16 → 1 ≤ d → ∀ (s : ByteArray) (w : World), s.size ≤ 20000 → Calls Tryd.prog 47 #[.string s, .int .i64 (d : Int)] w (fun e w' => VPost (valL (j + 1) s) w e w') := by
  intro j
  induction j with
  | zero => intro d hd h1; exact value_level 0 d hd h1 (fun h => absurd h (by decide))
  | succ j ih => intro d hd h1; exact value_level (j + 1) d hd h1 (fun _ => ih (d + 1) (by omega) (by omega))
end Go.Proofs.YtghkgclbfjoilaaDoor.Dec
