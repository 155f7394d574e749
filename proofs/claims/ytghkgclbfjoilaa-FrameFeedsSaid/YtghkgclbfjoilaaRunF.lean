/- How a stream is cut into values: plain facts on the framer. -/
import Derived.Test.YtghkgclbfjoilaaHdF
import Derived.Test.YtghkgclbfjoilaaF1
set_option linter.unusedVariables false
set_option linter.unusedSimpArgs false
namespace Go.Proofs.Ytghkgclbfjoilaa.PureF
open Go.RowKit Go.Proofs.Ytghkgclbfjoilaa.F Go.Proofs.YtghkgclbfjoilaaW.PrintWords Go.Proofs.YtghkgclbfjoilaaW.PrintLast Go.Proofs.YtghkgclbfjoilaaW.PrintMore Go.Proofs.Ytghkgclbfjoilaa.Pl

/-- what bytes begin with: a value of so many bytes that are all there; one that is not whole yet, or nothing; something else -/
inductive Nx where
  | take (n : Nat)
  | wait
  | bad
deriving DecidableEq
def nx (l : List UInt8) : Nx := match l with
  | [] => .wait
  | a :: r => if a.toNat ≠ 48 then .bad else if (totL (a :: r)).2 = 0 then (if (totL (a :: r)).1 ≤ (a :: r).length then .take (totL (a :: r)).1 else .wait) else if (totL (a :: r)).2 = 3 then .wait else .bad
inductive Runs : List UInt8 → List (List UInt8) → Bool → List UInt8 → Prop where
  | wait {l : List UInt8} : nx l = .wait → Runs l [] false l
  | bad {l : List UInt8} : nx l = .bad → Runs l [] true []
  | take {l : List UInt8} {n : Nat} {ms : List (List UInt8)} {b : Bool} {r : List UInt8} : nx l = .take n → Runs (l.drop n) ms b r → Runs l (l.take n :: ms) b r

theorem totL_zero {l : List UInt8} (h : (totL l).2 = 0) : (headL l).2.2 = 0 ∧ (totL l).1 = (headL l).1 + (headL l).2.1 ∧ (totL l).1 ≤ 8192 ∧ 2 ≤ (totL l).1 := by
  have hb := headL_bound l
  unfold totL at h ⊢
  by_cases he : (headL l).2.2 = 0
  · rw [if_pos he] at h ⊢
    by_cases hn : (headL l).1 + (headL l).2.1 > 8192
    · rw [if_pos hn] at h; cases h
    · rw [if_neg hn]
      have := hb.2.2.2 he
      exact ⟨he, rfl, by show (headL l).1 + (headL l).2.1 ≤ 8192; omega, by show 2 ≤ (headL l).1 + (headL l).2.1; omega⟩
  · rw [if_neg he] at h; exact absurd h he
theorem nx_take {l : List UInt8} {n : Nat} (h : nx l = .take n) : 2 ≤ n ∧ n ≤ l.length ∧ n ≤ 8192 ∧ totL l = (n, 0) := by
  cases l with
  | nil => cases h
  | cons a r =>
    simp only [nx] at h
    split at h
    · cases h
    · split at h
      · rename_i h0
        split at h
        · rename_i h1
          injection h with h
          obtain ⟨_, _, h3, h4⟩ := totL_zero h0
          subst h
          exact ⟨h4, h1, h3, Prod.ext rfl h0⟩
        · cases h
      · split at h <;> cases h
theorem runs_exist : ∀ (n : Nat) (l : List UInt8), l.length ≤ n → ∃ ms b r, Runs l ms b r := by
  intro n
  induction n with
  | zero => intro l h; obtain rfl : l = [] := List.eq_nil_of_length_eq_zero (by omega); exact ⟨[], false, [], .wait rfl⟩
  | succ n ih =>
    intro l h
    cases hx : nx l with
    | wait => exact ⟨_, _, _, .wait hx⟩
    | bad => exact ⟨_, _, _, .bad hx⟩
    | take m =>
      have := nx_take hx
      obtain ⟨ms, b, r, hr⟩ := ih (l.drop m) (by rw [List.length_drop]; omega)
      exact ⟨_, b, r, .take hx hr⟩
theorem runs_rest {l : List UInt8} {ms : List (List UInt8)} {b : Bool} {r : List UInt8} (h : Runs l ms b r) : nx r = .wait ∧ (b = true → r = []) ∧ r.length ≤ l.length ∧ 2 * ms.length + r.length ≤ l.length := by
  induction h with
  | wait hw => exact ⟨hw, (by intro h; cases h), Nat.le_refl _, by simp⟩
  | bad hb => exact ⟨rfl, (by intro _; rfl), by simp, by simp⟩
  | take ht _ ih =>
    have := nx_take ht
    obtain ⟨h1, h2, h3, h4⟩ := ih
    rw [List.length_drop] at h3 h4
    exact ⟨h1, h2, by omega, by simp only [List.length_cons]; omega⟩
theorem runs_det {l : List UInt8} {ms ms' : List (List UInt8)} {b b' : Bool} {r r' : List UInt8} (h : Runs l ms b r) (h' : Runs l ms' b' r') : ms = ms' ∧ b = b' ∧ r = r' := by
  induction h generalizing ms' b' r' with
  | wait hw =>
    cases h' with
    | wait _ => exact ⟨rfl, rfl, rfl⟩
    | bad hb => rw [hw] at hb; cases hb
    | take ht _ => rw [hw] at ht; cases ht
  | bad hb =>
    cases h' with
    | wait hw => rw [hb] at hw; cases hw
    | bad _ => exact ⟨rfl, rfl, rfl⟩
    | take ht _ => rw [hb] at ht; cases ht
  | take ht _ ih =>
    cases h' with
    | wait hw => rw [ht] at hw; cases hw
    | bad hb => rw [ht] at hb; cases hb
    | take ht' h2 =>
      rw [ht] at ht'; injection ht' with ht'; subst ht'
      obtain ⟨rfl, rfl, rfl⟩ := ih h2
      exact ⟨rfl, rfl, rfl⟩

/-! more bytes behind -/
theorem headL_more (l m : List UInt8) (h : (headL l).2.2 ≠ 3) : headL (l ++ m) = headL l := by
  match l with
  | [] => exact absurd rfl h
  | [a] =>
    simp only [headL] at h
    split at h
    · rename_i ha
      show headL (a :: m) = _
      simp [headL, ha]
    · exact absurd rfl h
  | a :: b :: q =>
    show headL (a :: b :: (q ++ m)) = _
    simp only [headL] at h ⊢
    split
    · rfl
    · rename_i ha
      rw [if_neg ha] at h
      split
      · rfl
      · rename_i hb
        rw [if_neg hb] at h
        split
        · rfl
        · rename_i hk
          rw [if_neg hk] at h
          split at h
          · exact absurd rfl h
          · rename_i hq
            rw [if_neg (by rw [List.length_append]; omega), if_neg hq, List.take_append_of_le_length (by omega)]
theorem totL_more (l m : List UInt8) (h : (totL l).2 ≠ 3) : totL (l ++ m) = totL l := by
  have : headL (l ++ m) = headL l := headL_more l m fun h3 => h (by unfold totL; rw [if_neg (by omega)]; exact h3)
  unfold totL; rw [this]
theorem nx_more_take {l : List UInt8} {n : Nat} (h : nx l = .take n) (m : List UInt8) : nx (l ++ m) = .take n := by
  obtain ⟨h1, h2, h3, h4⟩ := nx_take h
  have ht := totL_more l m (by rw [h4]; show (0 : Nat) ≠ 3; decide)
  cases l with
  | nil => cases h
  | cons a r =>
    simp only [nx] at h
    split at h
    · cases h
    · rename_i ha
      simp only [List.cons_append, nx] at ht ⊢
      rw [if_neg ha, ht, h4]
      simp only [if_true, List.length_cons, List.length_append] at h2 ⊢
      rw [if_pos (by omega)]
theorem nx_more_bad {l : List UInt8} (h : nx l = .bad) (m : List UInt8) : nx (l ++ m) = .bad := by
  cases l with
  | nil => cases h
  | cons a r =>
    simp only [nx] at h
    split at h
    · rename_i ha
      simp only [List.cons_append, nx, if_pos ha]
    · rename_i ha
      split at h
      · split at h <;> cases h
      · rename_i h0
        split at h
        · cases h
        · rename_i h3
          have ht := totL_more (a :: r) m h3
          simp only [List.cons_append, nx] at ht ⊢
          rw [if_neg ha, ht, if_neg h0, if_neg h3]
theorem runs_more {l : List UInt8} {ms : List (List UInt8)} {b : Bool} {r : List UInt8} (h : Runs l ms b r) (m : List UInt8) :
    (b = true → Runs (l ++ m) ms true []) ∧ (b = false → ∀ ms' b' r', Runs (r ++ m) ms' b' r' → Runs (l ++ m) (ms ++ ms') b' r') := by
  induction h with
  | wait hw => exact ⟨(by intro h; cases h), fun _ ms' b' r' h' => by simpa using h'⟩
  | bad hb => exact ⟨fun _ => .bad (nx_more_bad hb m), (by intro h; cases h)⟩
  | @take l n ms b r ht hr ih =>
    have hx := nx_take ht
    have e1 : (l ++ m).drop n = l.drop n ++ m := List.drop_append_of_le_length hx.2.1
    have e2 : (l ++ m).take n = l.take n := List.take_append_of_le_length hx.2.1
    refine ⟨fun hb => ?_, fun hb ms' b' r' h' => ?_⟩
    · have := Runs.take (nx_more_take ht m) (by rw [e1]; exact ih.1 hb)
      rwa [e2] at this
    · have := Runs.take (nx_more_take ht m) (by rw [e1]; exact ih.2 hb ms' b' r' h')
      rw [e2] at this
      simpa using this

/-! the program's framer -/
def strs (ms : List (List UInt8)) : List ByteArray := ms.map fun l => (⟨l.toArray⟩ : ByteArray)
theorem strs_app (a b : List (List UInt8)) : strs (a ++ b) = strs a ++ strs b := by simp [strs]
theorem strs_len (a : List (List UInt8)) : (strs a).length = a.length := by simp [strs]
theorem flength_ev (s : ByteArray) (hs : s.size ≤ 1000000000) (hne : L s ≠ []) : Ev (fun k => frame_length.f k s) (match nx (L s) with | .take n => ((n : Int), true) | .wait => (((if (totL (L s)).2 = 0 then (totL (L s)).1 else s.size + 1 : Nat) : Int), true) | .bad => (0, false)) := by
  have hlen : 0 < s.size := by
    rw [← L_len]; exact List.length_pos_iff.mpr hne
  unfold frame_length.f
  have g0 : (0 : Int) < (s.size : Int) := by omega
  simp only [if_pos g0]
  cases hL : L s with
  | nil => exact absurd hL hne
  | cons a r =>
    have h0 : bt s 0 = (a.toNat : Int) := by have := bt_get s 0; rw [hL] at this; exact this
    rw [h0]
    by_cases ha : a.toNat = 48
    · have g1 : (a.toNat : Int) = 48 := by omega
      have ha' : ¬ a.toNat ≠ 48 := by omega
      simp only [if_pos g1, nx, if_neg ha']
      refine Ev.bind (length_ev s hs) ?_
      rw [hL]
      simp only [totI]
      by_cases e0 : (totL (a :: r)).2 = 0
      · have g2 : (((totL (a :: r)).2 : Nat) : Int) = 0 := by omega
        simp only [if_pos e0]
        refine Ev.congr (fun k => if_pos g2) ?_
        by_cases hle : (totL (a :: r)).1 ≤ (a :: r).length
        · rw [if_pos hle]; exact Ev.now _
        · rw [if_neg hle]; exact Ev.now _
      · have g2 : ¬ (((totL (a :: r)).2 : Nat) : Int) = 0 := by omega
        simp only [if_neg e0]
        by_cases e3 : (totL (a :: r)).2 = 3
        · have g3 : (((totL (a :: r)).2 : Nat) : Int) = 3 := by omega
          simp only [if_pos e3]
          refine Ev.congr (fun k => (if_neg g2).trans ((if_pos g3).trans (by rw [wN1 s.size (by omega)]))) (Ev.now _)
        · have g3 : ¬ (((totL (a :: r)).2 : Nat) : Int) = 3 := by omega
          simp only [if_neg e3]
          exact Ev.congr (fun k => (if_neg g2).trans (if_neg g3)) (Ev.now _)
    · have g1 : ¬ (a.toNat : Int) = 48 := by omega
      simp only [if_neg g1, nx, if_pos (show a.toNat ≠ 48 from ha)]
      exact Ev.now _
theorem nx_wait_gt {l : List UInt8} (hne : l ≠ []) (h : nx l = .wait) : l.length < (if (totL l).2 = 0 then (totL l).1 else l.length + 1) := by
  cases l with
  | nil => exact absurd rfl hne
  | cons a r =>
    simp only [nx] at h
    split at h
    · cases h
    · split at h
      · rename_i h0
        split at h
        · cases h
        · rename_i h1; rw [if_pos h0]; omega
      · rename_i h0; rw [if_neg h0]; omega
theorem feed_loop {l : List UInt8} {ms : List (List UInt8)} {b : Bool} {r : List UInt8} (h : Runs l ms b r) : ∀ (s : ByteArray) (acc : List ByteArray) (x : ByteArray) (y : Bool), L s = l → s.size ≤ 1000000000 → acc.length + ms.length ≤ 1000000000 →
    Ev (fun k => frame_Framer_Feed.l0 k acc s x y) (if b = true then (acc ++ strs ms, 4, (⟨#[]⟩ : ByteArray), true) else (acc ++ strs ms, 0, (⟨r.toArray⟩ : ByteArray), y)) := by
  induction h with
  | @wait l hw =>
    intro s acc x y hs hsz hacc
    subst hs
    simp only [Bool.false_eq_true, if_false, mk_L, strs, List.map_nil, List.append_nil]
    by_cases hne : L s = []
    · refine Ev.step (f := fun k => some (acc, 0, s, y)) (fun k => ?_) (Ev.now _)
      simp only [frame_Framer_Feed.l0]
      rw [if_pos (by rw [toL]; exact hne)]
    · have hx := nx_wait_gt hne hw
      have hf := flength_ev s hsz hne
      rw [hw] at hf
      refine Ev.step (f := fun k => (frame_length.f k s).bind fun bt107 => (if bt107.2 = true then (if bt107.1 > (s.size : Int) then (some (acc, 0, s, y)) else (if 0 ≤ bt107.1 then (if bt107.1 ≤ (s.size : Int) then (if acc.length < 8796093022208 then (frame_Framer_Feed.l0 k (acc ++ [s.extract 0 (bt107.1 : Int).toNat]) (s.extract (bt107.1 : Int).toNat s.size) x y) else (none)) else (none)) else (none))) else (some (acc, 4, (⟨#[]⟩ : ByteArray), true)))) (fun k => ?_) (Ev.bind hf ?_)
      · simp only [frame_Framer_Feed.l0]
        rw [if_neg (by rw [toL]; exact hne)]
      · rw [L_len] at hx
        refine Ev.congr (fun k => (if_pos rfl).trans (if_pos ?_)) (Ev.now _)
        show (((if (totL (L s)).2 = 0 then (totL (L s)).1 else s.size + 1 : Nat)) : Int) > (s.size : Int)
        omega
  | @bad l hb =>
    intro s acc x y hs hsz hacc
    subst hs
    simp only [if_true, strs, List.map_nil, List.append_nil]
    have hne : L s ≠ [] := by intro h; rw [h] at hb; cases hb
    have hf := flength_ev s hsz hne
    rw [hb] at hf
    refine Ev.step (f := fun k => (frame_length.f k s).bind fun bt107 => (if bt107.2 = true then (if bt107.1 > (s.size : Int) then (some (acc, 0, s, y)) else (if 0 ≤ bt107.1 then (if bt107.1 ≤ (s.size : Int) then (if acc.length < 8796093022208 then (frame_Framer_Feed.l0 k (acc ++ [s.extract 0 (bt107.1 : Int).toNat]) (s.extract (bt107.1 : Int).toNat s.size) x y) else (none)) else (none)) else (none))) else (some (acc, 4, (⟨#[]⟩ : ByteArray), true)))) (fun k => ?_) (Ev.bind hf ?_)
    · simp only [frame_Framer_Feed.l0]
      rw [if_neg (by rw [toL]; exact hne)]
    · simp only [Bool.false_eq_true, if_false]
      exact Ev.now _
  | @take l n ms b r ht hr ih =>
    intro s acc x y hs hsz hacc
    subst hs
    obtain ⟨h1, h2, h3, h4⟩ := nx_take ht
    have hne : L s ≠ [] := by intro h; rw [h] at h2; simp at h2; omega
    have hf := flength_ev s hsz hne
    rw [ht] at hf
    rw [L_len] at h2
    have hih := ih (s.extract n s.size) (acc ++ [s.extract 0 n]) x y (L_from s n) (by rw [size_cut]; omega) (by simp only [List.length_append, List.length_cons, List.length_nil] at hacc ⊢; omega)
    have e1 : s.extract 0 n = (⟨((L s).take n).toArray⟩ : ByteArray) := L_ext (by rw [L_to]; rfl)
    have e2 : acc ++ [s.extract 0 n] ++ strs ms = acc ++ strs ((L s).take n :: ms) := by rw [e1]; simp [strs]
    rw [e2] at hih
    refine Ev.step (f := fun k => (frame_length.f k s).bind fun bt107 => (if bt107.2 = true then (if bt107.1 > (s.size : Int) then (some (acc, 0, s, y)) else (if 0 ≤ bt107.1 then (if bt107.1 ≤ (s.size : Int) then (if acc.length < 8796093022208 then (frame_Framer_Feed.l0 k (acc ++ [s.extract 0 (bt107.1 : Int).toNat]) (s.extract (bt107.1 : Int).toNat s.size) x y) else (none)) else (none)) else (none))) else (some (acc, 4, (⟨#[]⟩ : ByteArray), true)))) (fun k => ?_) (Ev.bind hf ?_)
    · simp only [frame_Framer_Feed.l0]
      rw [if_neg (by rw [toL]; exact hne)]
    · have q0 : ¬ (n : Int) > (s.size : Int) := by omega
      have q1 : (0 : Int) ≤ (n : Int) := by omega
      have q2 : (n : Int) ≤ (s.size : Int) := by omega
      have q3 : acc.length < 8796093022208 := by omega
      exact Ev.congr (fun k => (if_pos rfl).trans ((if_neg q0).trans ((if_pos q1).trans ((if_pos q2).trans (if_pos q3))))) hih
theorem feed_ev (rest : ByteArray) (s : ByteArray) {ms : List (List UInt8)} {b : Bool} {r : List UInt8} (h : Runs (L rest ++ L s) ms b r) (hs : rest.size + s.size ≤ 100000000) :
    Ev (fun k => frame_Framer_Feed.f k rest false s) (if b = true then (strs ms, 4, (⟨#[]⟩ : ByteArray), true) else (strs ms, 0, (⟨r.toArray⟩ : ByteArray), false)) := by
  have hr := runs_rest h
  rw [List.length_append, L_len, L_len] at hr
  refine Ev.congr (fun k => ?_) (feed_loop h (rest ++ s) [] rest false (L_app rest s) (by rw [ByteArray.size_append]; omega) (by simp; omega))
  unfold frame_Framer_Feed.f
  rw [if_neg (by simp), if_pos (by omega)]
theorem feed_over (rest : ByteArray) (s : ByteArray) : Ev (fun k => frame_Framer_Feed.f k rest true s) (([] : List ByteArray), 12, rest, true) := by
  refine Ev.congr (fun k => ?_) (Ev.now _)
  unfold frame_Framer_Feed.f
  rw [if_pos rfl]
end Go.Proofs.Ytghkgclbfjoilaa.PureF
