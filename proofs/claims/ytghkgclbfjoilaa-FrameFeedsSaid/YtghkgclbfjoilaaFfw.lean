/- FrameFeeds at this program: the walk. -/
import Derived.Test.YtghkgclbfjoilaaRff
import Derived.Test.YtghkgclbfjoilaaF2
set_option linter.unusedVariables false
set_option linter.unusedSimpArgs false
namespace Go.Proofs.Ytghkgclbfjoilaa.PureF
open Go.RowKit Go.Proofs.Ytghkgclbfjoilaa.F Go.Proofs.YtghkgclbfjoilaaW.PrintWords Go.Proofs.YtghkgclbfjoilaaW.PrintLast Go.Proofs.YtghkgclbfjoilaaW.PrintMore Go.Proofs.Ytghkgclbfjoilaa.Pl

set_option maxHeartbeats 1000000 in
set_option maxRecDepth 100000 in
theorem refFeed_over (B g : Nat) (l : List UInt8) (s : ByteArray) (w : World) (hRF : RF B w g l true) :
    Calls Try.prog 13 #[.pointer (some ⟨g, 0, none⟩), .string s] w fun e w' => e = .returned (.tuple #[.slice none 0 0, .int .i64 12]) ∧ w' = w := by
  obtain ⟨v, c0, c1, hfz, hown, hblk⟩ := hRF.cells
  clear hRF hown hblk c0 hfz
  go_enter Try.func13, Try.ntmps13
  go_wp2
  go_ret2
  exact ⟨rfl, rfl⟩
set_option maxHeartbeats 1000000 in
theorem rest_same (B g : Nat) (s : ByteArray) (b : Bool) (w0 w : World) (hI : IsS63 w0 w g s b) :
    Calls Try.prog 15 #[.pointer (some ⟨g, 0, none⟩)] w fun e w' => e = .returned (.int .i64 s.size) ∧ w' = w := by
  have c0 : w.cell? ⟨g, 0, none⟩ = some (.string s) := by simp [World.cell?, hI.1]
  clear hI
  go_enter Try.func15, Try.ntmps15
  go_wp2
  go_ret
  exact ⟨rfl, rfl⟩
set_option maxHeartbeats 1000000 in
theorem broken_same (B g : Nat) (s : ByteArray) (b : Bool) (w0 w : World) (hI : IsS63 w0 w g s b) :
    Calls Try.prog 16 #[.pointer (some ⟨g, 0, none⟩)] w fun e w' => e = .returned (.bool b) ∧ w' = w := by
  have c0 : w.cell? ⟨g, 1, none⟩ = some (.bool b) := by simp [World.cell?, hI.1]
  clear hI
  go_enter Try.func16, Try.ntmps16
  go_wp2
  go_ret
  exact ⟨rfl, rfl⟩
theorem awake_ev : Ev (fun k => rollbooklaw27_awake.f k) true := Ev.of (fun k => rollbooklaw27_awake.mono k) (k := 60) (by decide +kernel)

theorem same_loop (l : List ByteArray) (hl : l.length ≤ 1000000) : ∀ (d i : Nat), i + d = l.length → Ev (fun k => rollbookref01_Same.l0 k l l (i : Int)) true := by
  intro d
  induction d with
  | zero =>
    intro i hi
    refine Ev.step (f := fun _ => some true) (fun k => ?_) (Ev.now _)
    simp only [rollbookref01_Same.l0]
    rw [if_neg (by omega)]
  | succ d ih =>
    intro i hi
    refine Ev.step (fun k => ?_) (ih (i + 1) (by omega))
    simp only [rollbookref01_Same.l0]
    rw [if_pos (by omega), if_pos (by omega), if_pos (by omega), if_pos trivial, wN1 i (by omega)]
theorem same_ev (l : List ByteArray) (hl : l.length ≤ 1000000) : Ev (fun k => rollbookref01_Same.f k l l) true := by
  refine Ev.congr (fun k => ?_) (same_loop l hl l.length 0 (by omega))
  unfold rollbookref01_Same.f
  rw [if_pos rfl]; rfl
theorem same_calls (l : List ByteArray) (hl : l.length ≤ 1000000) (W : World) (A1 A2 : Option Addr) (c1 c2 : Nat) (h1 : Kd.string.C W A1 l.length l) (hc1 : l.length ≤ c1) (h2 : Kd.string.C W A2 l.length l) (hc2 : l.length ≤ c2) (n : Nat) :
    Calls Try.prog 14 #[.slice A1 l.length c1, .slice A2 l.length c2] (W.drewN n) fun e w' => e = .returned (.bool true) ∧ ∃ m, w' = (W.drewN n).drewN m := by
  obtain ⟨k, hk⟩ := (same_ev l hl).rounds
  refine (rollbookref01_Same.calls k A1 c1 l A2 c2 l true (W.drewN n) (Kd.C_below h1 (pw_below_drewN (Below.refl _ _) n)) hc1 (Kd.C_below h2 (pw_below_drewN (Below.refl _ _) n)) hc2 hk).mono ?_
  rintro e w' ⟨rfl, ⟨m, rfl⟩⟩
  exact ⟨rfl, m, rfl⟩

/-- both framers stand alike -/
structure FS (w wr : World) (gf gr m : Nat) (rest : ByteArray) (b : Bool) : Prop where
  hI : IsS63 w wr gf rest b
  hF : RF w.heap.size wr gr (L rest) b
  hB : Below w.heap.size w wr
  hw : b = false → nx (L rest) = .wait
  hz : rest.size ≤ m
theorem RF_keep {B gf gr : Nat} {w0 W W1 : World} {l : List UInt8} {b c : Bool} {s : ByteArray} (h : RF B W gr l b) (hI : IsS63 w0 W gf s c) (hk : KeepBut W W1 gf none) : RF B W1 gr l b := by
  refine h.kept fun i hi hc => hk.2 i hi (fun e => ?_) (by simp)
  subst e
  rcases hc with rfl | ⟨cs, fr, hc⟩
  · obtain ⟨_, v, hb, _⟩ := h; rw [hI.1] at hb; simp at hb
  · rw [hI.1] at hc; simp at hc
theorem IsS63_keptU {gf gr : Nat} {w0 W W1 : World} {s : ByteArray} {c : Bool} {B : Nat} {l : List UInt8} {b : Bool} (h : IsS63 w0 W gf s c) (hF : RF B W gr l b) (hk : KeptU gr W W1) : IsS63 w0 W1 gf s c := by
  refine ⟨(hk.2 gf h.lt (fun e => ?_) (fun cs fr hc => ?_)).trans h.1, h.2⟩
  · obtain ⟨_, v, hb, _⟩ := hF; have h1 := h.1; rw [e, hb] at h1; simp at h1
  · rw [h.1] at hc; simp at hc

/-- what both framers answer to one piece -/
structure Both (B gr m : Nat) (rest : ByteArray) (b : Bool) (x : ByteArray) (ms : List (List UInt8)) (code : Int) (rest' : ByteArray) (b' : Bool) : Prop where
  f : ∃ k, frame_Framer_Feed.f k rest b x = some (strs ms, code, rest', b')
  r : ∀ W : World, RF B W gr (L rest) b → B ≤ W.heap.size → Calls Try.prog 13 #[.pointer (some ⟨gr, 0, none⟩), .string x] W fun e w' => ∃ v0 : Value, e = .returned (.tuple #[v0, .int .i64 code]) ∧ Kd.string.R 9 w' W.heap.size (fun _ => True) v0 (strs ms) ∧ RF B w' gr (L rest') b' ∧ Below B W w' ∧ KeptU gr W w'
  hw : b' = false → nx (L rest') = .wait
  hz : rest'.size ≤ m + x.size
  hn : ms.length ≤ 3000
theorem both_mk (B gr m : Nat) (rest : ByteArray) (b : Bool) (x : ByteArray) (hw : b = false → nx (L rest) = .wait) (hz : rest.size ≤ m) (hm : m + x.size ≤ 3000) : ∃ ms code rest' b', Both B gr m rest b x ms code rest' b' := by
  cases b with
  | true =>
    refine ⟨[], 12, rest, true, ⟨(feed_over rest x).rounds, fun W hF hB => ?_, fun h => by simp at h, by omega, by simp⟩⟩
    refine (refFeed_over B gr _ x W hF).mono ?_
    rintro e w' ⟨rfl, rfl⟩
    exact ⟨_, rfl, Kd.R_nil _ _ _ _ _, hF, Below.refl _ _, KeptU.refl _ _⟩
  | false =>
    obtain ⟨ms, b', r, hr⟩ := runs_exist _ (L rest ++ L x) (Nat.le_refl _)
    have hrr := runs_rest hr
    rw [List.length_append, L_len, L_len] at hrr
    have hf := feedS_runs (L x) (L rest) ms b' r (hw rfl) hr
    have hev := feed_ev rest x hr (by omega)
    refine ⟨ms, if b' = true then 4 else 0, if b' = true then (⟨#[]⟩ : ByteArray) else ⟨r.toArray⟩, b', ⟨?_, fun W hF hB => ?_, ?_, ?_, by omega⟩⟩
    · cases b' with
      | true => exact hev.rounds
      | false => exact hev.rounds
    · refine (refFeed_any B gr (L rest) x W hF (by rw [L_len]; omega) hB).mono ?_
      rintro e w' ⟨v0, rfl, h1, h2, h3, h4⟩
      rw [hf] at h1 h2 ⊢
      refine ⟨v0, rfl, h1, ?_, h3, h4⟩
      cases b' with
      | true => rw [hrr.2.1 rfl] at h2; exact h2
      | false => exact h2
    · intro hb
      rw [hb]
      exact hrr.1
    · cases b' with
      | true => show (⟨#[]⟩ : ByteArray).size ≤ _; rw [show (⟨#[]⟩ : ByteArray).size = 0 from rfl]; omega
      | false => show (⟨r.toArray⟩ : ByteArray).size ≤ _; rw [size_mk]; omega

set_option maxHeartbeats 8000000 in
set_option maxRecDepth 100000 in
theorem feeds_any (A : Option Addr) (cp : Nat) (xs : List ByteArray) (w : World) (hr : Kd.string.C w A xs.length xs) (hcp : xs.length ≤ cp) :
    Calls Try.prog 3 #[.slice A xs.length cp] w fun e w' => e = .returned (.bool true) ∧ Below w.heap.size w w' := by
  obtain ⟨ka, hka⟩ := awake_ev.rounds
  have HA := Aside0.mk hka
  have HR := Aside0.mk hr
  have hlen : xs.length ≤ 9223372036854775807 := hr.2.1
  clear hka hr
  go_enter Try.func3, Try.ntmps3
  go_wp2_with fail
  refine (rollbooklaw27_awake.calls ka true _ HA.out).mono ?_
  rintro e w1 ⟨rfl, hb1⟩
  have HB1 := Aside0.mk hb1
  clear hb1 HA
  go_wp2_with fail
  refine (frame_New.calls (⟨#[]⟩ : ByteArray) false w _ HB1.out rfl).mono ?_
  rintro e w2 ⟨gf, rfl, hI, hb2, hb12⟩
  have HI := Aside0.mk hI
  have HB2 := Aside0.mk hb2
  have hs2 := hb2.size
  clear hI hb2 hb12 HB1
  go_wp2_with fail
  go_loopw [5, 6] (fun vn vi wr => ∃ (k m : Nat) (rest : ByteArray) (b : Bool), k ≤ xs.length ∧ vi = .int .i64 k ∧ vn = .int .i64 m ∧ m ≤ 3000 ∧ Aside0 (FS w wr gf w2.heap.size m rest b)) (fun _ vi _ => xs.length - (intOf vi).toNat)
  case atStart =>
    refine ⟨0, 0, (⟨#[]⟩ : ByteArray), false, Nat.zero_le _, rfl, rfl, by omega, ⟨HI.out.alloc _, ?_, HB2.out.alloc hs2 _, fun _ => rfl, by decide⟩⟩
    exact ⟨hs2, .slice none 0 0, heap_alloc_new w2 _, own_nil _ _ _ _⟩
  case round =>
    obtain ⟨k, m, rest, b, hk, rfl, rfl, hm, HS⟩ := hrel
    by_cases hkl : k < xs.length
    · by_cases hk30 : k < 30
      · have q1 : decide (k < xs.length) = true := decide_eq_true hkl
        have q2 : decide ((k : Int) < 30) = true := decide_eq_true (by omega)
        obtain ⟨ad, hA, hx⟩ := Kd.at_string (Kd.C_below (w1 := wr) HR.out (HS.out.hB)) (k : Int) (by omega) (by omega)
        cases hA
        rw [show (k : Int).toNat = k from rfl] at hx
        generalize hxx : rdOf ByteArray.empty xs (k : Int) = x at hx
        have HXX := Aside0.mk hxx
        clear hxx
        by_cases hbig : x.size ≤ 3000 ∧ m + x.size ≤ 3000
        · obtain ⟨hb1, hb2⟩ := hbig
          have hmn : min (x.size : Int) 3001 = (x.size : Int) := by omega
          obtain ⟨ms, code, rest', b', hBo⟩ := both_mk w.heap.size w2.heap.size m rest b x HS.out.hw HS.out.hz hb2
          have HBo := Aside0.mk hBo
          clear hBo
          obtain ⟨kf, hkf⟩ := HBo.out.f
          have HKF := Aside0.mk hkf
          clear hkf
          go_wp2_with fail
          refine (frame_Framer_Feed.calls kf gf rest b x (strs ms) code rest' b' w wr HS.out.hI HS.out.hB HKF.out).mono ?_
          rintro e w3 ⟨v0, rfl, hR3, hI3, hB3, hK3⟩
          have HF3 := Aside0.mk (RF_keep HS.out.hF HS.out.hI hK3)
          have HR3 := Aside0.mk hR3; have HI3 := Aside0.mk hI3; have HB3 := Aside0.mk hB3
          have hsz3 := hB3.size
          have hx3 : w3.cell? (ad.add k) = some (.string x) := by
            obtain ⟨ad', hA', hx'⟩ := Kd.at_string (Kd.C_below (w1 := w3) HR.out hB3) (k : Int) (by omega) (by omega)
            cases hA'
            rw [show (k : Int).toNat = k from rfl] at hx'
            rw [hx', ← HXX.out]
          obtain ⟨A3, c3, hv0, hc3, _⟩ := Kd.R_reads hR3
          subst hv0
          clear hR3 hI3 hB3 hK3
          go_wp2_with fail
          refine (HBo.out.r w3 HF3.out hsz3).mono ?_
          rintro e w4 ⟨v1, rfl, hR4, hF4, hB4, hK4⟩
          have HI4 := Aside0.mk (IsS63_keptU HI3.out HF3.out hK4)
          have HR34 := Aside0.mk (R_keptU HR3.out hK4 HF3.out (by intro q hq; simp [Kd.string, Kd.scalar] at hq; subst hq; decide))
          have HF4 := Aside0.mk hF4
          have HB4 := Aside0.mk (HB3.out.trans hB4)
          obtain ⟨A4, c4, hv1, hc4, hC4⟩ := Kd.R_reads hR4
          subst hv1
          obtain ⟨A3', c3', hv3, hc3', hC3⟩ := Kd.R_reads HR34.out
          simp only [Value.slice.injEq] at hv3
          obtain ⟨rfl, _, rfl⟩ := hv3
          have hsame := same_calls (strs ms) (by rw [strs_len]; have := HBo.out.hn; omega) w4 A3 A4 c3 c4 hC3 hc3 hC4 hc4
          have HSame := Aside0.mk hsame
          have HRest := Aside0.mk (fun n => rest_same w.heap.size gf rest' b' w (w4.drewN n) HI4.out)
          have HBrok := Aside0.mk (fun n => broken_same w.heap.size gf rest' b' w (w4.drewN n) HI4.out)
          obtain ⟨vr, d0, d1, _, down, _⟩ := hF4.cells
          obtain ⟨Ar, cr, hvr⟩ := own_slice down
          subst hvr
          rw [L_len] at d0
          clear hR4 hF4 hB4 hK4 hC4 hC3 hsame down
          have hz8 : rest'.size < 8192 := by have := HBo.out.hz; omega
          have hz8' : decide (8192 ≤ rest'.size) = false := decide_eq_false (by omega)
          go_wp2_with fail
          go_quiet ((first | (go_at_call 14; exact Calls.quiet_of (HSame.out _)) | (go_at_call 15; exact Calls.quiet_of_same (HRest.out _)) | (go_at_call 16; exact Calls.quiet_of_same (HBrok.out _))))
          go_wp2
          go_roundw
          case rel => exact ⟨k + 1, m + x.size, rest', b', by omega, by go_num, by go_num, hb2, ⟨⟨HI4.out.drewN _, HF4.out.drewN _, pw_below_drewN HB4.out _, HBo.out.hw, HBo.out.hz⟩⟩⟩
          case measure => simp [intOf]; omega
        · by_cases hb3 : (3001 : Int) < (x.size : Int)
          · have hsum : (3000 : Int) < (m : Int) + 3001 := by omega
            clear hbig
            go_wp2
            go_ret
            exact ⟨rfl, HS.out.hB⟩
          · have hle : (x.size : Int) ≤ 3001 := by omega
            have hsum : (3000 : Int) < (m : Int) + (x.size : Int) := by omega
            clear hbig hb3
            go_wp2
            go_ret
            exact ⟨rfl, HS.out.hB⟩
      · have q1 : decide (k < xs.length) = true := decide_eq_true hkl
        have q2 : decide ((k : Int) < 30) = false := decide_eq_false (by omega)
        go_wp2
        go_ret
        exact ⟨rfl, HS.out.hB⟩
    · have q1 : decide (k < xs.length) = false := decide_eq_false hkl
      go_wp2
      go_ret
      exact ⟨rfl, HS.out.hB⟩
end Go.Proofs.Ytghkgclbfjoilaa.PureF
