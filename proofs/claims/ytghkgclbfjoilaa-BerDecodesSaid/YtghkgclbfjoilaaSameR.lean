/- rollbookref25.Same says yes of a tree and itself; the trees that bytes give are no heavier than the bytes. -/
import Derived.Test.YtghkgclbfjoilaaTreeR
import Derived.Test.YtghkgclbfjoilaaR14
import Derived.Test.YtghkgclbfjoilaaR18
set_option linter.unusedVariables false
set_option linter.unusedSimpArgs false
namespace Go.Proofs.Ytghkgclbfjoilaa.R
open Go.RowKit Go.Proofs.YtghkgclbfjoilaaW.PrintWords Go.Proofs.YtghkgclbfjoilaaW.PrintLast Go.Proofs.YtghkgclbfjoilaaW.PrintMore Go.Proofs.Ytghkgclbfjoilaa.Pl Go.Proofs.Ytghkgclbfjoilaa.Dec Go.Proofs.Ytghkgclbfjoilaa.PureR

abbrev Sf (k : Nat) (x y : S44) : Option Bool := rollbookref25_Same.f k x.f0 x.f1 x.f2 x.f3 x.f4 y.f0 y.f1 y.f2 y.f3 y.f4
theorem same_list (x0 : Int) (x1 : Bool) (x2 : Int) (x3 : ByteArray) (whole : List S44) (hw : whole.length ≤ 1000000) : ∀ (l : List S44) (_ : ∀ y ∈ l, Ev (fun k => Sf k y y) true) (j : Nat), whole.drop j = l →
    Ev (fun k => rollbookref25_Same.l0 k (j : Int) x0 x1 x2 x3 whole x0 x1 x2 x3 whole) true := by
  intro l
  induction l with
  | nil =>
    intro _ j hj
    have := len_drop hj
    refine Ev.step (f := fun _ => some true) (fun k => ?_) (Ev.now _)
    simp only [rollbookref25_Same.l0]
    rw [if_neg (by omega)]
  | cons y l ihl =>
    intro ih j hj
    obtain ⟨e1, e2, e3⟩ := rd_drop hj
    have h1 := ih y (List.mem_cons_self)
    have h2 := ihl (fun z hz => ih z (List.mem_cons_of_mem _ hz)) (j + 1) e3
    refine Ev.step (fun k => ?_) (Ev.bind (f := fun k t => if t = true then rollbookref25_Same.l0 k ((j + 1 : Nat) : Int) x0 x1 x2 x3 whole x0 x1 x2 x3 whole else some false) h1 (Ev.congr (fun k => if_pos rfl) h2))
    simp only [rollbookref25_Same.l0]
    rw [if_pos (by omega), if_pos (by omega), if_pos (by omega), e1, wW _ (by omega) (by omega)]
    rfl
theorem len_tot : ∀ (l : List S44), 2 * l.length ≤ totL l := by
  intro l
  induction l with
  | nil => simp
  | cons x l ih =>
    have := tot_pos x
    simp only [totL, List.length_cons]
    omega
theorem tot_mem : ∀ (l : List S44) (y : S44), y ∈ l → tot y ≤ totL l := by
  intro l
  induction l with
  | nil => intro y hy; cases hy
  | cons x l ih =>
    intro y hy
    simp only [totL]
    rcases List.mem_cons.mp hy with rfl | hy
    · omega
    · have := ih y hy
      omega
theorem totL_app (l m : List S44) : totL (l ++ m) = totL l + totL m := by
  induction l with
  | nil => simp [totL]
  | cons x l ih => simp only [List.cons_append, totL, ih]; omega
theorem same_ev : ∀ x : S44, tot x ≤ 1000000 → Ev (fun k => Sf k x x) true := by
  intro x
  induction x using tree_ind with
  | h a b c s l ih =>
  intro ht
  simp only [tot] at ht
  have hl := len_tot l
  have h1 := same_list a b c s l (by omega) l (fun y hy => ih y hy (by have := tot_mem l y hy; omega)) 0 rfl
  refine Ev.step (fun k => ?_) (Ev.step (g := fun k => rollbookref25_Same.j0 k false a b c s l a b c s l) (fun k => ?_) h1)
  · simp only [Sf, rollbookref25_Same.f]
    simp
  · simp only [rollbookref25_Same.j0]
    rw [if_neg (by decide)]
    rfl

theorem kidsL_tot {F : ByteArray → Sum Nat S44} {top : Bool} (hF : ∀ s t, F s = .inr t → tot t ≤ s.size) : ∀ (m : Nat) (s : ByteArray) (acc ks : List S44), kidsL F top m s acc = .inr ks → totL ks ≤ totL acc + s.size := by
  intro m
  induction m with
  | zero => intro s acc ks h; simp only [kidsL] at h; cases h; omega
  | succ m ih =>
    intro s acc ks h
    simp only [kidsL] at h
    split at h
    · cases h; omega
    · split at h
      · cases h
      · split at h
        · rename_i hok
          have hb := whole_bounds hok
          rw [L_len] at hb
          split at h
          · cases h
          · rename_i t ht
            have h1 := ih _ _ _ h
            have h2 := hF _ _ ht
            rw [totL_app] at h1
            simp only [totL] at h1
            rw [size_cut] at h1 h2
            omega
        · cases h
theorem valL_tot : ∀ (j : Nat) (s : ByteArray) (t : S44), valL j s = .inr t → tot t ≤ s.size := by
  intro j
  induction j with
  | zero => intro s t h; cases h
  | succ j ih =>
    intro s t h
    rw [valL_succ] at h
    split at h
    · rename_i hc
      have hb := (headL_bound (L s)).2.2.2 hc.1
      split at h
      · split at h
        · cases h
        · rename_i ks hk
          have h1 := kidsL_tot ih _ _ _ _ hk
          cases h
          simp only [tot]
          rw [size_cut] at h1
          simp only [totL] at h1
          have : (⟨#[]⟩ : ByteArray).size = 0 := rfl
          rw [this]
          omega
      · cases h
        simp only [tot, totL]
        rw [size_cut]
        omega
    · cases h
theorem decF_tot (s : ByteArray) (hs : s.size ≤ 20000) : tot (decF s).1 ≤ 20000 := by
  have hz : tot z44 ≤ 20000 := by decide
  unfold decF decG
  split
  · exact hz
  · split
    · exact hz
    · split
      · exact hz
      · rename_i t ht
        have := valL_tot _ _ _ ht
        rw [size_cut] at this
        show tot t ≤ 20000
        omega
/-- what the document's Decode comes to -/
theorem refDecode_ev (s : ByteArray) (hs : s.size ≤ 20000) : Ev (fun k => rollbookref25_Decode.f k s) ((decF s).1.f0, (decF s).1.f1, (decF s).1.f2, (decF s).1.f3, (decF s).1.f4, ((decF s).2.1 : Int), ((decF s).2.2 : Int)) := by
  unfold rollbookref25_Decode.f
  refine Ev.bind (total_ev s (by omega)) ?_
  have hb : (PureR.totL (L s)).1 ≤ 8192 := by
    unfold PureR.totL
    split
    · split
      · exact Nat.zero_le _
      · rename_i h; show (headL (L s)).1 + (headL (L s)).2.1 ≤ 8192; omega
    · exact Nat.zero_le _
  unfold decF totI
  generalize (PureR.totL (L s)).1 = n at *
  generalize (PureR.totL (L s)).2 = c at *
  unfold decG
  by_cases hc : c = 0
  · subst hc
    refine Ev.congr (fun k => if_pos (by rfl)) ?_
    by_cases hn : s.size < n
    · refine Ev.congr (fun k => if_pos (by show (n : Int) > (s.size : Int); omega)) ?_
      rw [if_neg (by decide), if_pos hn]
      exact Ev.now _
    · refine Ev.congr (fun k => if_neg (by show ¬ (n : Int) > (s.size : Int); omega)) ?_
      refine Ev.congr (fun k => if_pos (by show (0 : Int) ≤ (n : Int); omega)) ?_
      refine Ev.congr (fun k => if_pos (by show (n : Int) ≤ (s.size : Int); omega)) ?_
      rw [if_neg (by decide), if_neg hn]
      have e : ((n : Int)).toNat = n := rfl
      have hv : ∀ k, rollbookref25_Value.f k (s.extract 0 (n : Int).toNat) 1 = some ((vr (valL 16 (s.extract 0 n))).1.f0, (vr (valL 16 (s.extract 0 n))).1.f1, (vr (valL 16 (s.extract 0 n))).1.f2, (vr (valL 16 (s.extract 0 n))).1.f3, (vr (valL 16 (s.extract 0 n))).1.f4, ((vr (valL 16 (s.extract 0 n))).2 : Int)) := by
        intro k
        unfold rollbookref25_Value.f
        rw [e, if_pos ⟨by rw [size_cut]; omega, by omega, by omega⟩]
        rfl
      refine Ev.bind (g := fun k => rollbookref25_Value.f k (s.extract 0 (n : Int).toNat) 1) ⟨0, fun k _ => hv k⟩ ?_
      cases hvv : valL 16 (s.extract 0 n) with
      | inl c =>
        have := valL_err _ _ _ hvv
        refine Ev.congr (fun k => if_neg (by show ¬ ((c : Nat) : Int) = 0; omega)) ?_
        exact Ev.now _
      | inr t =>
        refine Ev.congr (fun k => if_pos (by rfl)) ?_
        exact Ev.now _
  · refine Ev.congr (fun k => if_neg (by show ¬ (c : Int) = 0; omega)) ?_
    rw [if_pos hc]
    exact Ev.now _
theorem decode_f (k : Nat) (s : ByteArray) (hs : s.size ≤ 20000) : ber_Decode.f k s = some ((decF s).1.f0, (decF s).1.f1, (decF s).1.f2, (decF s).1.f3, (decF s).1.f4, ((decF s).2.1 : Int), ((decF s).2.2 : Int)) := by
  unfold ber_Decode.f
  rw [if_pos hs]
end Go.Proofs.Ytghkgclbfjoilaa.R
