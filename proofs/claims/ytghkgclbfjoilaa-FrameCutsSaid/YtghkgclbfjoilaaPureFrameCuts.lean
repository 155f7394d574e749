/- FrameCuts holds: however a stream is cut into pieces, the same values are told. -/
import Derived.Test.YtghkgclbfjoilaaF3
import Derived.Test.YtghkgclbfjoilaaRunF
set_option linter.unusedVariables false
set_option linter.unusedSimpArgs false
namespace Go.Proofs.Ytghkgclbfjoilaa.Pure
open Go.RowKit Go.Proofs.Ytghkgclbfjoilaa.F Go.Proofs.YtghkgclbfjoilaaW.PrintWords Go.Proofs.YtghkgclbfjoilaaW.PrintLast Go.Proofs.YtghkgclbfjoilaaW.PrintMore Go.Proofs.Ytghkgclbfjoilaa.Pl Go.Proofs.Ytghkgclbfjoilaa.PureF

theorem awake_frame : Ev (fun k => rollbooklaw27_awake.f k) true := Ev.of (fun k => rollbooklaw27_awake.mono k) (k := 60) (by decide +kernel)

theorem same_loop (l : List ByteArray) (hl : l.length ≤ 1000000) : ∀ (d i : Nat), i + d = l.length → Ev (fun k => rollbookref01_Same.l0 k l l (i : Int)) true := by
  intro d
  induction d with
  | zero =>
    intro i hi
    refine Ev.step (f := fun _ => some true) (fun k => ?_) (Ev.now _)
    simp only [rollbookref01_Same.l0]
    rw [if_neg (by omega)]
  | succ d ih =>
    intro i hi
    refine Ev.step (fun k => ?_) (ih (i + 1) (by omega))
    simp only [rollbookref01_Same.l0]
    rw [if_pos (by omega), if_pos (by omega), if_pos (by omega), if_pos trivial, wN1 i (by omega)]
theorem same_ev (l : List ByteArray) (hl : l.length ≤ 1000000) : Ev (fun k => rollbookref01_Same.f k l l) true := by
  refine Ev.congr (fun k => ?_) (same_loop l hl l.length 0 (by omega))
  unfold rollbookref01_Same.f
  rw [if_pos rfl]; rfl

/-- where the stream stands: not broken, what is kept and what is left give the rest; or broken, all being told -/
inductive St (ms : List (List UInt8)) (b : Bool) (r : List UInt8) : List ByteArray → List UInt8 → Int → ByteArray → Bool → Prop where
  | on {m1 m2 : List (List UInt8)} {left : List UInt8} {rest : ByteArray} : ms = m1 ++ m2 → Runs (L rest ++ left) m2 b r → nx (L rest) = .wait → St ms b r (strs m1) left 0 rest false
  | off {left : List UInt8} : b = true → St ms b r (strs ms) left 4 (⟨#[]⟩ : ByteArray) true

/-- one piece more -/
theorem st_step {ms : List (List UInt8)} {b : Bool} {r : List UInt8} {got : List ByteArray} {left : ByteArray} {code : Int} {rest : ByteArray} {br : Bool} (h : St ms b r got (L left) code rest br) (p : Nat) (hp : p ≤ left.size) (hs : rest.size + left.size ≤ 1000000) (hm : ms.length ≤ 1000000)
    (at_ : List Int) (want : List ByteArray) (n e : Int) (i : Nat) (hi : i ≤ 1000) (res : Bool)
    (next : ∀ got' code' rest' br', St ms b r got' ((L left).drop p) code' rest' br' → rest'.size + (left.size - p) ≤ rest.size + left.size → Ev (fun k => rollbooklaw27_FrameCuts.l0 k at_ want n e got' (left.extract p left.size) code' ((i + 1 : Nat) : Int) rest' br') res) :
    Ev (fun k => rollbooklaw27_FrameCuts.j3 k at_ want n e got left code (i : Int) (p : Int) rest br) res := by
  have q0 : (0 : Int) ≤ (p : Int) := by omega
  have q1 : (p : Int) ≤ (left.size : Int) := by omega
  have hw := wN1 i (by omega)
  refine Ev.step (f := fun k => (frame_Framer_Feed.f k rest br (left.extract 0 p)).bind fun bt158 => (if code = 0 then (if got.length + bt158.1.length < 8796093022208 then (rollbooklaw27_FrameCuts.l0 k at_ want n e (got ++ bt158.1) (left.extract p left.size) bt158.2.1 ((i + 1 : Nat) : Int) bt158.2.2.1 bt158.2.2.2) else (none)) else (if bt158.2.1 = 12 then (if (bt158.1.length : Int) = 0 then (rollbooklaw27_FrameCuts.l0 k at_ want n e got (left.extract p left.size) code ((i + 1 : Nat) : Int) bt158.2.2.1 bt158.2.2.2) else (some false)) else (some false)))) (fun k => ?_) ?_
  · simp only [rollbooklaw27_FrameCuts.j3]
    rw [if_pos q0, if_pos q1, hw]; rfl
  · have hcut : L (left.extract 0 p) = (L left).take p := L_to _ _
    cases h with
    | @on m1 m2 _ _ h1 h2 h3 =>
      obtain ⟨mp, bp, rp, hrp⟩ := runs_exist _ (L rest ++ L (left.extract 0 p)) (Nat.le_refl _)
      have hrest := runs_rest hrp
      rw [List.length_append, L_len, L_len, size_cut] at hrest
      have hmore := runs_more hrp ((L left).drop p)
      have heq : L rest ++ L (left.extract 0 p) ++ (L left).drop p = L rest ++ L left := by rw [hcut, List.append_assoc, List.take_append_drop]
      rw [heq] at hmore
      have hlen : m1.length + m2.length ≤ 1000000 := by rw [h1, List.length_append] at hm; exact hm
      refine Ev.bind (feed_ev rest (left.extract 0 p) hrp (by rw [size_cut]; omega)) ?_
      cases bp with
      | true =>
        obtain ⟨rfl, rfl, rfl⟩ := runs_det h2 (hmore.1 rfl)
        have q2 : (strs m1).length + (strs m2).length < 8796093022208 := by rw [strs_len, strs_len]; omega
        refine Ev.congr (fun k => (if_pos rfl).trans (if_pos q2)) ?_
        have := next (strs ms) 4 (⟨#[]⟩ : ByteArray) true (.off rfl) (by rw [show (⟨#[]⟩ : ByteArray).size = 0 from rfl]; omega)
        rw [h1, strs_app] at this
        exact this
      | false =>
        obtain ⟨m3, b3, r3, hr3⟩ := runs_exist _ (rp ++ (L left).drop p) (Nat.le_refl _)
        obtain ⟨hm2, rfl, rfl⟩ := runs_det h2 (hmore.2 rfl _ _ _ hr3)
        have q2 : (strs m1).length + (strs mp).length < 8796093022208 := by rw [hm2, List.length_append] at hlen; rw [strs_len, strs_len]; omega
        refine Ev.congr (fun k => (if_pos rfl).trans (if_pos q2)) ?_
        have := next (strs (m1 ++ mp)) 0 (⟨rp.toArray⟩ : ByteArray) false (.on (by rw [h1, hm2, List.append_assoc]) (by rw [L_mk]; exact hr3) (by rw [L_mk]; exact hrest.1)) (by rw [size_mk]; omega)
        rw [strs_app] at this
        exact this
    | off hb =>
      refine Ev.bind (feed_over _ _) ?_
      refine Ev.congr (fun k => (if_neg (by decide)).trans ((if_pos rfl).trans (if_pos rfl))) ?_
      exact next _ _ _ _ (.off hb) (Nat.add_le_add_left (Nat.sub_le _ _) _)

theorem cuts_loop {s : ByteArray} (hs : s.size ≤ 20000) {ms : List (List UInt8)} {b : Bool} {r : List UInt8} (hr : Runs (L s) ms b r) (at_ : List Int) (hat : at_.length ≤ 100000000000000) :
    ∀ (d i : Nat) (got : List ByteArray) (left : ByteArray) (code : Int) (rest : ByteArray) (br : Bool), i + d = min at_.length 30 + 1 → St ms b r got (L left) code rest br → rest.size + left.size ≤ 20000 → (d = 0 → L left = []) →
      Ev (fun k => rollbooklaw27_FrameCuts.l0 k at_ (strs ms) (r.length : Int) (if b = true then 4 else 0) got left code (i : Int) rest br) true := by
  have hrr := runs_rest hr
  rw [L_len] at hrr
  have hm : ms.length ≤ 1000000 := by omega
  intro d
  induction d with
  | zero =>
    intro i got left code rest br hi hst hsz hleft
    have hl : left.toList = ([] : List UInt8) := by rw [toL]; exact hleft rfl
    refine Ev.step (f := fun k => rollbooklaw27_FrameCuts.j1 k at_ (strs ms) (r.length : Int) (if b = true then 4 else 0) got left code (i : Int) false rest br) (fun k => ?_) ?_
    · simp only [rollbooklaw27_FrameCuts.l0]
      by_cases h1 : (i : Int) ≤ (at_.length : Int)
      · rw [if_pos h1, decide_eq_false (by omega)]
      · rw [if_neg h1]
    · refine Ev.step (f := fun k => if code = (if b = true then 4 else 0) then ((rollbookref01_Same.f k got (strs ms)).bind fun t167 => (if t167 = true then ((frame_Framer_Rest.f rest br).bind fun bt168 => (if bt168.1 = (r.length : Int) then ((frame_Framer_Broken.f bt168.2.1 bt168.2.2).bind fun bt171 => (some (bt171.1 == ((if b = true then 4 else 0 : Int) != 0)))) else (some false))) else (some false))) else (some false)) (fun k => ?_) ?_
      · simp only [rollbooklaw27_FrameCuts.j1]
        rw [if_neg (by simp), if_pos hl]
      · cases hst with
        | @on m1 m2 _ _ h1 h2 h3 =>
          rw [hleft rfl, List.append_nil] at h2
          obtain ⟨rfl, rfl, rfl⟩ := runs_det h2 (.wait h3)
          rw [List.append_nil] at h1
          subst h1
          refine Ev.congr (fun k => if_pos rfl) (Ev.bind (same_ev _ (by rw [strs_len]; omega)) ?_)
          simp only [frame_Framer_Rest.f, frame_Framer_Broken.f, Option.bind_some, if_true]
          rw [L_len]
          exact Ev.congr (fun k => if_pos rfl) (Ev.now _)
        | off hb =>
          subst hb
          have hr0 := hrr.2.1 rfl
          subst hr0
          refine Ev.congr (fun k => if_pos rfl) (Ev.bind (same_ev _ (by rw [strs_len]; omega)) ?_)
          simp only [frame_Framer_Rest.f, frame_Framer_Broken.f, Option.bind_some, if_true]
          exact Ev.congr (fun k => if_pos rfl) (Ev.now _)
  | succ d ih =>
    intro i got left code rest br hi hst hsz hleft
    have hi1 : (i : Int) ≤ (at_.length : Int) := by omega
    have hi2 : (i : Int) ≤ 30 := by omega
    have fall : ∀ (p : Nat), p ≤ left.size → (d = 0 → p = left.size) → Ev (fun k => rollbooklaw27_FrameCuts.j3 k at_ (strs ms) (r.length : Int) (if b = true then 4 else 0) got left code (i : Int) (p : Int) rest br) true := by
      intro p hp hd
      refine st_step hst p hp (by omega) hm at_ (strs ms) _ _ i (by omega) true fun got' code' rest' br' hst' hsz' => ?_
      refine ih (i + 1) got' (left.extract p left.size) code' rest' br' (by omega) (by rw [L_from]; exact hst') (by rw [size_cut]; omega) (fun h0 => ?_)
      rw [L_from, hd h0, ← L_len, List.drop_length]
    have whole : Ev (fun k => rollbooklaw27_FrameCuts.j2 k at_ (strs ms) (r.length : Int) (if b = true then 4 else 0) got left code (i : Int) (left.size : Int) false rest br) true :=
      Ev.step (fun k => by simp only [rollbooklaw27_FrameCuts.j2]; rw [if_neg (by simp)]) (fall left.size (Nat.le_refl _) (fun _ => rfl))
    refine Ev.step (f := fun k => rollbooklaw27_FrameCuts.j1 k at_ (strs ms) (r.length : Int) (if b = true then 4 else 0) got left code (i : Int) true rest br) (fun k => ?_) ?_
    · simp only [rollbooklaw27_FrameCuts.l0]
      rw [if_pos hi1, decide_eq_true hi2]
    · by_cases hlt : (i : Int) < (at_.length : Int)
      · by_cases h30 : (i : Int) < 30
        · have q0 : (0 : Int) ≤ (i : Int) := by omega
          have u1 : IntKind.u64.wrap (wrap64 ((left.size : Int) + 1)) = ((left.size + 1 : Nat) : Int) := by
            rw [wN1 left.size (by omega), IntKind.wrap_u64]; omega
          have q1 : ¬ ((left.size + 1 : Nat) : Int) = 0 := by omega
          obtain ⟨v, hv⟩ : ∃ v : Nat, IntKind.u64.wrap (rd at_ (i : Int)) = (v : Int) := by
            refine ⟨(IntKind.u64.wrap (rd at_ (i : Int))).toNat, ?_⟩
            have : 0 ≤ IntKind.u64.wrap (rd at_ (i : Int)) := by rw [IntKind.wrap_u64]; omega
            omega
          have u2 : wrap64 (Int.tmod (v : Int) ((left.size + 1 : Nat) : Int)) = ((v % (left.size + 1) : Nat) : Int) := by
            rw [Int.tmod_eq_emod_of_nonneg (by omega)]
            have : v % (left.size + 1) < left.size + 1 := Nat.mod_lt _ (by omega)
            rw [show (v : Int) % ((left.size + 1 : Nat) : Int) = ((v % (left.size + 1) : Nat) : Int) from rfl]
            exact w64 (by omega) (by omega)
          have hvm : v % (left.size + 1) < left.size + 1 := Nat.mod_lt _ (by omega)
          refine Ev.step (f := fun k => rollbooklaw27_FrameCuts.j2 k at_ (strs ms) (r.length : Int) (if b = true then 4 else 0) got left code (i : Int) (left.size : Int) true rest br) (fun k => ?_) (Ev.step (fun k => ?_) (fall (v % (left.size + 1)) (by omega) (fun h0 => by omega)))
          · simp only [rollbooklaw27_FrameCuts.j1]
            rw [if_pos trivial, if_pos hlt, decide_eq_true h30]
          · simp only [rollbooklaw27_FrameCuts.j2]
            rw [if_pos trivial, if_pos q0, if_pos hlt, u1, if_neg q1, hv, u2]
        · refine Ev.step (fun k => ?_) whole
          simp only [rollbooklaw27_FrameCuts.j1]
          rw [if_pos trivial, if_pos hlt, decide_eq_false h30]
      · refine Ev.step (fun k => ?_) whole
        simp only [rollbooklaw27_FrameCuts.j1]
        rw [if_pos trivial, if_neg hlt]

theorem FrameCuts : rollbooklaw27_FrameCuts.Pure := by
  intro s at_ hs0 _ hat _
  refine ev_out ?_
  unfold rollbooklaw27_FrameCuts.f
  refine Ev.bind awake_frame ?_
  simp only [if_true]
  by_cases hs : (s.size : Int) > 20000
  · simp only [if_pos hs]; exact Ev.now true
  · simp only [if_neg hs]
    obtain ⟨ms, b, r, hr⟩ := runs_exist _ (L s) (Nat.le_refl _)
    have hrr := runs_rest hr
    rw [L_len] at hrr
    have hfeed := feed_ev (⟨#[]⟩ : ByteArray) s (ms := ms) (b := b) (r := r) hr (by rw [show (⟨#[]⟩ : ByteArray).size = 0 from rfl]; omega)
    have hcut : Ev (fun k => frame_Cut.f k s) (strs ms, (r.length : Int), if b = true then 4 else 0) := by
      unfold frame_Cut.f
      simp only [frame_New.f, Option.bind_some]
      refine Ev.bind hfeed ?_
      cases b with
      | true =>
        have h0 := hrr.2.1 rfl
        subst h0
        exact Ev.now _
      | false =>
        simp only [frame_Framer_Rest.f, Option.bind_some, Bool.false_eq_true, if_false, size_mk]
        exact Ev.now _
    refine Ev.bind hcut ?_
    simp only [frame_New.f, Option.bind_some]
    exact cuts_loop (by omega) hr at_ (by omega) (min at_.length 30 + 1) 0 [] s 0 (⟨#[]⟩ : ByteArray) false (by omega) (.on (m1 := []) rfl hr rfl) (by rw [show (⟨#[]⟩ : ByteArray).size = 0 from rfl]; omega) (fun h => by omega)

end Go.Proofs.Ytghkgclbfjoilaa.Pure
