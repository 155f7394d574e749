/- Bytes of a tree that may be, plainly; what ber.Right, ber.encode and the reading of bytes come to. -/
import Derived.Test.YtghkgclbfjoilaaDoorTreB
import Derived.Test.YtghkgclbfjoilaaDoorR9
set_option linter.unusedVariables false
set_option linter.unusedSimpArgs false
namespace Go.Proofs.YtghkgclbfjoilaaDoor.Trip
open Go.RowKit Go.Proofs.YtghkgclbfjoilaaDoorW.PrintWords Go.Proofs.YtghkgclbfjoilaaDoorW.PrintLast Go.Proofs.YtghkgclbfjoilaaDoorW.PrintMore Go.Proofs.YtghkgclbfjoilaaDoor.Pl Go.Proofs.YtghkgclbfjoilaaDoor.R Go.Proofs.YtghkgclbfjoilaaDoor.PureR Go.Proofs.YtghkgclbfjoilaaDoor.Dec

theorem len_tot : ∀ (l : List S44), 2 * l.length ≤ R.totL l := by
  intro l
  induction l with
  | nil => simp
  | cons x l ih =>
    have := tot_pos x
    simp only [R.totL, List.length_cons]
    omega
theorem tot_mem : ∀ (l : List S44) (y : S44), y ∈ l → tot y ≤ R.totL l := by
  intro l
  induction l with
  | nil => intro y hy; cases hy
  | cons x l ih =>
    intro y hy
    simp only [R.totL]
    rcases List.mem_cons.mp hy with rfl | hy
    · omega
    · have := ih y hy
      omega
/-! may a tree be, so many levels deep? -/
def okT : Nat → S44 → Bool
  | 0, _ => false
  | d + 1, x => decide (0 ≤ x.f0) && decide (x.f0 ≤ 3) && decide (0 ≤ x.f2) && decide (x.f2 ≤ 30) && (if x.f1 = true then x.f4.all (okT d) && (x.f3.toList == ([] : List UInt8)) else ((x.f4.length : Int) == 0))
abbrev Rf (k : Nat) (x : S44) (d : Int) : Option Bool := ber_right.f k x.f0 x.f1 x.f2 x.f3 x.f4 d
theorem right_list (d : Nat) (hd : d ≤ 16) (x0 : Int) (x1 : Bool) (x2 : Int) (x3 : ByteArray) (whole : List S44) (hw : whole.length ≤ 1000000) : ∀ (l : List S44) (_ : ∀ y ∈ l, Ev (fun k => Rf k y ((17 - d : Nat) : Int)) (okT d y)) (j : Nat), whole.drop j = l →
    Ev (fun k => ber_right.l0 k ((16 - d : Nat) : Int) whole (whole.length : Int) (j : Int) x0 x1 x2 x3 whole) (l.all (okT d) && (x3.toList == ([] : List UInt8))) := by
  intro l
  induction l with
  | nil =>
    intro _ j hj
    have := len_drop hj
    refine Ev.step (f := fun _ => some (x3.toList == ([] : List UInt8))) (fun k => ?_) ?_
    · simp only [ber_right.l0]
      rw [if_neg (by omega)]
    · simpa using Ev.now (x3.toList == ([] : List UInt8))
  | cons y l ihl =>
    intro ih j hj
    obtain ⟨e1, e2, e3⟩ := rd_drop hj
    have h1 := ih y (List.mem_cons_self)
    have h2 := ihl (fun z hz => ih z (List.mem_cons_of_mem _ hz)) (j + 1) e3
    refine Ev.step (fun k => ?_) (Ev.bind (f := fun k t => if t = true then ber_right.l0 k ((16 - d : Nat) : Int) whole (whole.length : Int) ((j + 1 : Nat) : Int) x0 x1 x2 x3 whole else some false) h1 ?_)
    · simp only [ber_right.l0]
      rw [if_pos (by omega), if_pos (by omega), if_pos (by omega), e1, wW _ (by omega) (by omega), wW _ (by omega) (by omega)]
      have e : ((16 - d : Nat) : Int) + 1 = ((17 - d : Nat) : Int) := by omega
      rw [e]
      rfl
    · rw [List.all_cons]
      cases hy : okT d y with
      | true => exact Ev.congr (fun k => if_pos rfl) (by simpa using h2)
      | false => exact Ev.congr (fun k => if_neg (by decide)) (Ev.now _)
theorem right_no (x1 : Int) (x0 : Int) (xb : Bool) (x2 : Int) (x3 : ByteArray) (l : List S44) : Ev (fun k => ber_right.j0 k x1 true x0 xb x2 x3 l) false := by
  refine Ev.step (f := fun _ => some false) (fun k => ?_) (Ev.now _)
  simp only [ber_right.j0]
  rw [if_pos trivial]
theorem right_ev : ∀ x : S44, tot x ≤ 1000000 → ∀ d : Nat, d ≤ 17 → Ev (fun k => Rf k x ((17 - d : Nat) : Int)) (okT d x) := by
  intro x
  induction x using tree_ind with
  | h a b c s l ih =>
  intro ht d hd
  simp only [tot] at ht
  have hl := len_tot l
  cases d with
  | zero =>
    refine Ev.step (fun k => ?_) (right_no 17 a b c s l)
    simp only [Rf, ber_right.f]
    rw [if_pos (by omega)]
    rfl
  | succ d =>
    have e : (17 - (d + 1) : Nat) = 16 - d := by omega
    rw [e]
    by_cases h0 : 0 ≤ a
    case neg =>
      have : okT (d + 1) ⟨a, b, c, s, l⟩ = false := by simp [okT, h0]
      rw [this]
      refine Ev.step (fun k => ?_) (right_no ((16 - d : Nat) : Int) a b c s l)
      simp only [Rf, ber_right.f]
      rw [if_neg (by omega), if_pos (by omega)]
    by_cases h1 : a ≤ 3
    case neg =>
      have : okT (d + 1) ⟨a, b, c, s, l⟩ = false := by simp [okT, h1]
      rw [this]
      refine Ev.step (fun k => ?_) (right_no ((16 - d : Nat) : Int) a b c s l)
      simp only [Rf, ber_right.f]
      rw [if_neg (by omega), if_neg (by omega), if_pos (by omega)]
    by_cases h2 : 0 ≤ c
    case neg =>
      have : okT (d + 1) ⟨a, b, c, s, l⟩ = false := by simp [okT, h2]
      rw [this]
      refine Ev.step (fun k => ?_) (right_no ((16 - d : Nat) : Int) a b c s l)
      simp only [Rf, ber_right.f]
      rw [if_neg (by omega), if_neg (by omega), if_neg (by omega), if_pos (by omega)]
    have hj : Ev (fun k => Rf k ⟨a, b, c, s, l⟩ ((16 - d : Nat) : Int)) = Ev (fun k => Rf k ⟨a, b, c, s, l⟩ ((16 - d : Nat) : Int)) := rfl
    refine Ev.step (f := fun k => ber_right.j0 k ((16 - d : Nat) : Int) (decide (c ≥ 31)) a b c s l) (fun k => ?_) ?_
    · simp only [Rf, ber_right.f]
      rw [if_neg (by omega), if_neg (by omega), if_neg (by omega), if_neg (by omega)]
    by_cases h3 : c ≤ 30
    case neg =>
      have : okT (d + 1) ⟨a, b, c, s, l⟩ = false := by simp [okT, h3]
      rw [this, show decide (c ≥ 31) = true from decide_eq_true (by omega)]
      exact right_no _ _ _ _ _ _
    rw [show decide (c ≥ 31) = false from decide_eq_false (by omega)]
    cases b with
    | true =>
      have : okT (d + 1) ⟨a, true, c, s, l⟩ = (l.all (okT d) && (s.toList == ([] : List UInt8))) := by simp [okT, h0, h1, h2, h3]
      rw [this]
      have h4 := right_list d (by omega) a true c s l (by omega) l (fun y hy => ih y hy (by have := tot_mem l y hy; omega) d (by omega)) 0 rfl
      refine Ev.step (fun k => ?_) h4
      simp only [ber_right.j0]
      rw [if_neg (by decide)]
      rfl
    | false =>
      have : okT (d + 1) ⟨a, false, c, s, l⟩ = ((l.length : Int) == 0) := by simp [okT, h0, h1, h2, h3]
      rw [this]
      refine Ev.step (f := fun _ => some ((l.length : Int) == 0)) (fun k => ?_) (Ev.now _)
      simp only [ber_right.j0]
      rw [if_neg (by decide), if_neg (by decide)]
theorem Right_ev (x : S44) (hx : tot x ≤ 1000000) : Ev (fun k => ber_Right.f k x.f0 x.f1 x.f2 x.f3 x.f4) (okT 16 x) := by
  unfold ber_Right.f
  exact Ev.bind (f := fun _ t => some t) (right_ev x hx 16 (by omega)) (Ev.now _)
theorem ok_parts {d : Nat} {x : S44} (h : okT (d + 1) x = true) : 0 ≤ x.f0 ∧ x.f0 ≤ 3 ∧ 0 ≤ x.f2 ∧ x.f2 ≤ 30 ∧ (x.f1 = true → (∀ y ∈ x.f4, okT d y = true) ∧ x.f3 = ⟨#[]⟩) ∧ (x.f1 = false → x.f4 = []) := by
  obtain ⟨a, b, c, s, l⟩ := x
  simp only [okT, Bool.and_eq_true, decide_eq_true_eq] at h
  obtain ⟨⟨⟨⟨h0, h1⟩, h2⟩, h3⟩, h4⟩ := h
  refine ⟨h0, h1, h2, h3, fun hb => ?_, fun hb => ?_⟩
  · have hb' : b = true := hb
    rw [if_pos hb', Bool.and_eq_true] at h4
    refine ⟨List.all_eq_true.mp h4.1, ?_⟩
    have h5 := beq_iff_eq.mp h4.2
    rw [toL] at h5
    exact L_ext h5
  · have hb' : b = false := hb
    subst hb'
    rw [if_neg (by decide)] at h4
    have h5 := beq_iff_eq.mp h4
    exact List.eq_nil_of_length_eq_zero (by exact_mod_cast h5)

/-! the bytes -/
def fin (h : Nat) (b : List UInt8) : List UInt8 := h.toUInt8 :: (lenB b.length ++ b)
mutual
def encT : S44 → List UInt8
  | ⟨c, k, t, s, l⟩ => fin (headB c k t) (if k = true then encTs l else L s)
def encTs : List S44 → List UInt8
  | [] => []
  | x :: l => encT x ++ encTs l
end
theorem fin_len (h : Nat) (b : List UInt8) : b.length + 2 ≤ (fin h b).length ∧ (fin h b).length ≤ b.length + 5 := by
  have := lenB_len b.length
  simp only [fin, List.length_cons, List.length_append]
  omega
theorem encT_pos (x : S44) : 2 ≤ (encT x).length := by
  cases x with
  | mk c k t s l =>
  simp only [encT]
  have := fin_len (headB c k t) (if k = true then encTs l else L s)
  omega
def oB (h : Nat) : Option (List UInt8) → ByteArray × Bool
  | none => ((⟨#[]⟩ : ByteArray), false)
  | some b => finB h b
theorem encF_ev : ∀ x : S44, tot x ≤ 1000000 → ∀ d : Nat, okT d x = true → ∃ r : ByteArray × Bool, Ev (fun k => encF k x) r ∧ r.2 = decide ((encT x).length ≤ 8192) ∧ (r.2 = true → L r.1 = encT x) := by
  have hfin : ∀ (h : Nat) (b : List UInt8), (finB h b).2 = decide ((fin h b).length ≤ 8192) ∧ ((finB h b).2 = true → L (finB h b).1 = fin h b) := by
    intro h b
    have hl := fin_len h b
    unfold finB
    by_cases hb : 8192 < b.length
    · rw [if_pos hb]
      exact ⟨(decide_eq_false (by omega)).symm, fun h => by cases h⟩
    · rw [if_neg hb]
      exact ⟨rfl, fun _ => rfl⟩
  have hloop : ∀ (l : List S44), (∀ y ∈ l, ∃ r : ByteArray × Bool, Ev (fun k => encF k y) r ∧ r.2 = decide ((encT y).length ≤ 8192) ∧ (r.2 = true → L r.1 = encT y)) → ∀ (acc : List UInt8), acc.length ≤ 8192 → ∃ o : Option (List UInt8), Ev (fun k => encLoop (encF k) l acc) o ∧ ((o = none ∧ 8192 < (acc ++ encTs l).length) ∨ o = some (acc ++ encTs l)) := by
    intro l
    induction l with
    | nil =>
      intro _ acc _
      exact ⟨some acc, ⟨0, fun _ _ => rfl⟩, .inr (by simp [encTs])⟩
    | cons y l ihl =>
      intro ih acc ha
      obtain ⟨r, h1, h2, h3⟩ := ih y (List.mem_cons_self)
      have hs : r.2 = true → r.1.size = (encT y).length := fun h => by rw [← h3 h, L_len]
      by_cases hc : r.2 = true ∧ acc.length + r.1.size ≤ 8192
      · have hs2 := hs hc.1
        obtain ⟨o, h4, h5⟩ := ihl (fun z hz => ih z (List.mem_cons_of_mem _ hz)) (acc ++ L r.1) (by rw [List.length_append, L_len]; exact hc.2)
        refine ⟨o, ?_, ?_⟩
        · simp only [encLoop]
          exact Ev.bind (f := fun k r => if r.2 = true ∧ acc.length + r.1.size ≤ 8192 then encLoop (encF k) l (acc ++ L r.1) else some none) h1 (Ev.congr (fun k => if_pos hc) h4)
        · rw [h3 hc.1] at h5
          simp only [encTs]
          rw [← List.append_assoc]
          exact h5
      · refine ⟨none, ?_, .inl ⟨rfl, ?_⟩⟩
        · simp only [encLoop]
          exact Ev.bind (f := fun k r => if r.2 = true ∧ acc.length + r.1.size ≤ 8192 then encLoop (encF k) l (acc ++ L r.1) else some none) h1 (Ev.congr (fun k => if_neg hc) (Ev.now _))
        · simp only [encTs, List.length_append]
          by_cases hr : r.2 = true
          · have hs2 := hs hr
            have : ¬ acc.length + r.1.size ≤ 8192 := fun h => hc ⟨hr, h⟩
            omega
          · have h6 : r.2 = false := by simpa using hr
            rw [h6] at h2
            have := of_decide_eq_false h2.symm
            omega
  intro x
  induction x using tree_ind with
  | h a b c s l ih =>
  intro ht d hok
  simp only [tot] at ht
  have hl := len_tot l
  cases d with
  | zero => cases hok
  | succ d =>
    obtain ⟨h0, h1, h2, h3, hk, hp⟩ := ok_parts hok
    cases b with
    | false =>
      refine ⟨finB (headB a false c) (L s), Ev.step (f := fun _ => some (finB (headB a false c) (L s))) (fun k => ?_) (Ev.now _), ?_⟩
      · simp only [encF]
        rw [if_pos ⟨h0, h1, h2, h3, by omega⟩, if_neg (by decide)]
      · exact hfin _ _
    | true =>
      obtain ⟨o, h4, h5⟩ := hloop l (fun y hy => ih y hy (by have := tot_mem l y hy; omega) d ((hk rfl).1 y hy)) [] (by simp)
      refine ⟨oB (headB a true c) o, Ev.step (fun k => ?_) (Ev.bind (f := fun _ o => some (oB (headB a true c) o)) h4 (Ev.now _)), ?_⟩
      · simp only [encF]
        rw [if_pos ⟨h0, h1, h2, h3, by omega⟩]
        congr 1
      · have hl2 := fin_len (headB a true c) (encTs l)
        rcases h5 with ⟨rfl, h6⟩ | rfl
        · simp only [List.nil_append] at h6
          refine ⟨?_, fun h => by cases h⟩
          simp only [encT, if_true]
          exact (decide_eq_false (by omega)).symm
        · exact hfin _ _
/-- ber.Encode of a tree that may be / may not be -/
theorem Encode_ev (x : S44) (hx : tot x ≤ 1000000) : Ev (fun k => ber_Encode.f k x.f0 x.f1 x.f2 x.f3 x.f4) (if okT 16 x = true then (if (encT x).length ≤ 8192 then ((⟨(encT x).toArray⟩ : ByteArray), (0 : Int)) else ((⟨#[]⟩ : ByteArray), 5)) else ((⟨#[]⟩ : ByteArray), 4)) := by
  unfold ber_Encode.f
  refine Ev.bind (Right_ev x hx) ?_
  by_cases hok : okT 16 x = true
  · rw [if_pos hok]
    refine Ev.congr (fun k => if_pos hok) ?_
    obtain ⟨r, h1, h2, h3⟩ := encF_ev x hx 16 hok
    have h1' : Ev (fun k => ber_encode.f k x.f0 x.f1 x.f2 x.f3 x.f4) r := by
      obtain ⟨c, b, t, s, l⟩ := x
      exact h1
    refine Ev.bind h1' ?_
    by_cases hr : (encT x).length ≤ 8192
    · have hr2 : r.2 = true := by rw [h2]; exact decide_eq_true hr
      rw [if_pos hr]
      refine Ev.congr (f := fun _ => some (r.1, (0 : Int))) (fun k => if_pos hr2) ?_
      have e : r.1 = ⟨(encT x).toArray⟩ := L_ext (by rw [h3 hr2, L_mk])
      rw [e]
      exact Ev.now _
    · have hr2 : ¬ r.2 = true := by rw [h2]; simpa using hr
      rw [if_neg hr]
      exact Ev.congr (fun k => if_neg hr2) (Ev.now _)
  · rw [if_neg hok]
    exact Ev.congr (fun k => if_neg hok) (Ev.now _)

/-! the reading of the bytes -/
theorem tu (n : Nat) : (n.toUInt8).toNat = n % 256 := by simp [Nat.toUInt8]
theorem head_fin (h n : Nat) (rest : List UInt8) (hh : h < 256) (h31 : h % 32 ≠ 31) (hn : n < 16777216) : headL (h.toUInt8 :: (lenB n ++ rest)) = (1 + (lenB n).length, n, 0) := by
  have e0 : (h.toUInt8).toNat % 32 ≠ 31 := by rw [tu, Nat.mod_eq_of_lt hh]; exact h31
  unfold lenB
  by_cases h1 : n < 128
  · rw [if_pos h1]
    simp only [List.cons_append, List.nil_append, headL]
    rw [if_neg e0, if_pos (by rw [tu]; omega), tu]
    simp; omega
  rw [if_neg h1]
  by_cases h2 : n < 256
  · rw [if_pos h2]
    simp only [List.cons_append, List.nil_append, headL]
    rw [if_neg e0, if_neg (by decide), if_neg (by decide), if_neg (by simp)]
    simp [numL, tu]; omega
  rw [if_neg h2]
  by_cases h3 : n < 65536
  · rw [if_pos h3]
    simp only [List.cons_append, List.nil_append, headL]
    rw [if_neg e0, if_neg (by decide), if_neg (by decide), if_neg (by simp)]
    simp [numL, tu]; omega
  rw [if_neg h3]
  simp only [List.cons_append, List.nil_append, headL]
  rw [if_neg e0, if_neg (by decide), if_neg (by decide), if_neg (by simp)]
  simp [numL, tu]; omega
theorem headB_nice {c t : Int} {k : Bool} (h0 : 0 ≤ c) (h1 : c ≤ 3) (h2 : 0 ≤ t) (h3 : t ≤ 30) : headB c k t < 256 ∧ headB c k t % 32 ≠ 31 ∧ ((headB c k t / 64 : Nat) : Int) = c ∧ (headB c k t / 32 % 2 = 1 ↔ k = true) ∧ ((headB c k t % 32 : Nat) : Int) = t := by
  obtain ⟨c, rfl⟩ := Int.eq_ofNat_of_zero_le h0
  obtain ⟨t, rfl⟩ := Int.eq_ofNat_of_zero_le h2
  have e : headB (c : Int) k (t : Int) = 64 * c + t + (if k = true then 32 else 0) := by
    unfold headB
    cases k <;> simp <;> omega
  rw [e]
  cases k <;> simp <;> omega
/-- a tree's bytes, with something behind them -/
theorem head_enc {d : Nat} {x : S44} (hok : okT d x = true) (hl : (encT x).length < 16777216) (tail : List UInt8) : (headL (encT x ++ tail)).2.2 = 0 ∧ 2 ≤ (headL (encT x ++ tail)).1 ∧ (headL (encT x ++ tail)).1 + (headL (encT x ++ tail)).2.1 = (encT x).length ∧ (encT x).drop (headL (encT x ++ tail)).1 = (if x.f1 = true then encTs x.f4 else L x.f3) ∧ (headL (encT x ++ tail)) = (headL (encT x)) := by
  cases d with
  | zero => cases hok
  | succ d =>
  obtain ⟨h0, h1, h2, h3, _, _⟩ := ok_parts hok
  obtain ⟨c, k, t, s, l⟩ := x
  simp only [encT] at hl ⊢
  generalize (if k = true then encTs l else L s) = b at *
  have hn := headB_nice (k := k) h0 h1 h2 h3
  have hfl := fin_len (headB c k t) b
  have e1 := head_fin (headB c k t) b.length (b ++ tail) hn.1 hn.2.1 (by omega)
  have e2 := head_fin (headB c k t) b.length b hn.1 hn.2.1 (by omega)
  have e3 : fin (headB c k t) b ++ tail = (headB c k t).toUInt8 :: (lenB b.length ++ (b ++ tail)) := by simp [fin]
  have e4 : fin (headB c k t) b = (headB c k t).toUInt8 :: (lenB b.length ++ b) := rfl
  rw [e3, e1, e4, e2]
  have hll := lenB_len b.length
  refine ⟨rfl, by simp; omega, by simp; omega, ?_, rfl⟩
  rw [show 1 + (lenB b.length).length = (lenB b.length).length + 1 by omega, List.drop_succ_cons, List.drop_left]
def mk (l : List UInt8) : ByteArray := ⟨l.toArray⟩
theorem L_mk' (l : List UInt8) : L (mk l) = l := rfl
theorem sz_mk (l : List UInt8) : (mk l).size = l.length := size_mk l
theorem kids_trip {F : ByteArray → Sum Nat S44} {top : Bool} {d : Nat} : ∀ (l : List S44) (_ : ∀ y ∈ l, okT d y = true ∧ F (mk (encT y)) = .inr y) (_ : top = true → l = []) (_ : (encTs l).length < 16777216) (m : Nat) (_ : (encTs l).length ≤ m) (acc : List S44), kidsL F top m (mk (encTs l)) acc = .inr (acc ++ l) := by
  intro l
  induction l with
  | nil =>
    intro _ _ _ m _ acc
    cases m with
    | zero => simp [kidsL]
    | succ m =>
      simp only [kidsL]
      rw [if_pos (by rfl)]
      simp
  | cons y l ih =>
    intro hy htop hlen m hm acc
    obtain ⟨hok, hF⟩ := hy y (List.mem_cons_self)
    have hp := encT_pos y
    simp only [encTs, List.length_append] at hm hlen
    obtain ⟨m, rfl⟩ : ∃ m', m = m' + 1 := ⟨m - 1, by omega⟩
    have hh := head_enc hok (by omega) (encTs l)
    simp only [kidsL]
    have hs : (mk (encTs (y :: l))).size = (encT y).length + (encTs l).length := by rw [sz_mk]; simp [encTs]
    rw [if_neg (by omega), if_neg (fun h => by cases htop h)]
    have hL : L (mk (encTs (y :: l))) = encT y ++ encTs l := by rw [L_mk']; simp [encTs]
    have hw : lenW (L (mk (encTs (y :: l)))) = (encT y).length := by unfold lenW; rw [hL]; exact hh.2.2.1
    have hokw : okW (L (mk (encTs (y :: l)))) := by
      unfold okW
      rw [hL, hh.2.2.1, List.length_append]
      exact ⟨hh.1, by omega⟩
    rw [if_pos hokw, hw]
    have e1 : (mk (encTs (y :: l))).extract 0 (encT y).length = mk (encT y) := by
      apply L_ext
      rw [L_to, hL, List.take_left, L_mk']
    have e2 : (mk (encTs (y :: l))).extract (encT y).length (mk (encTs (y :: l))).size = mk (encTs l) := by
      apply L_ext
      rw [L_from, hL, List.drop_left, L_mk']
    rw [e1, e2, hF]
    have h4 := ih (fun z hz => hy z (List.mem_cons_of_mem _ hz)) (fun h => by cases htop h) (by omega) m (by omega) (acc ++ [y])
    simp only [h4, List.append_assoc, List.singleton_append]
theorem val_trip : ∀ (d : Nat) (x : S44), okT d x = true → (encT x).length < 16777216 → valL d (mk (encT x)) = .inr x := by
  intro d
  induction d with
  | zero => intro x h _; cases h
  | succ d ih =>
    intro x hok hl
    have hh := head_enc hok hl []
    obtain ⟨h0, h1, h2, h3, hk, hp⟩ := ok_parts hok
    rw [List.append_nil] at hh
    rw [valL_succ, L_mk', if_pos ⟨hh.1, by rw [sz_mk]; exact hh.2.2.1⟩]
    obtain ⟨c, k, t, s, l⟩ := x
    have hn := headB_nice (k := k) h0 h1 h2 h3
    have hb0 : b0 (mk (encT ⟨c, k, t, s, l⟩)) = headB c k t := by
      unfold b0
      rw [L_mk']
      simp only [encT, fin, List.getD_cons_zero]
      rw [tu, Nat.mod_eq_of_lt hn.1]
    rw [hb0, hn.2.2.1, hn.2.2.2.2]
    have hbody : (mk (encT ⟨c, k, t, s, l⟩)).extract (headL (encT ⟨c, k, t, s, l⟩)).1 (mk (encT ⟨c, k, t, s, l⟩)).size = mk (if k = true then encTs l else L s) := by
      apply L_ext
      rw [L_from, L_mk', L_mk']
      exact hh.2.2.2.1
    rw [hbody]
    cases k with
    | true =>
      rw [if_pos (hn.2.2.2.1.mpr rfl), if_pos rfl]
      have hlen : (encTs l).length ≤ (encT ⟨c, true, t, s, l⟩).length := by
        simp only [encT, if_true]
        have := fin_len (headB c true t) (encTs l)
        omega
      have h4 := kids_trip (F := valL d) (top := d == 0) (d := d) l (fun y hy => ⟨(hk rfl).1 y hy, ih y ((hk rfl).1 y hy) (by
          have : ∀ (m : List S44), y ∈ m → (encT y).length ≤ (encTs m).length := by
            intro m
            induction m with
            | nil => intro h; cases h
            | cons z m ihm =>
              intro h
              simp only [encTs, List.length_append]
              rcases List.mem_cons.mp h with rfl | h
              · omega
              · have := ihm h; omega
          have := this l hy
          omega)⟩) (fun h => by
            have hd0 : d = 0 := by simpa using h
            subst hd0
            cases l with
            | nil => rfl
            | cons y l => have := (hk rfl).1 y (List.mem_cons_self); cases this) (by omega) (mk (encT ⟨c, true, t, s, l⟩)).size (by rw [sz_mk]; exact hlen) []
      rw [h4]
      have hs : s = ⟨#[]⟩ := (hk rfl).2
      rw [hs]
      simp
    | false =>
      rw [if_neg (fun h => by have := hn.2.2.2.1.mp h; cases this), if_neg (by decide)]
      have hl2 : l = [] := hp rfl
      rw [hl2]
      have : mk (L s) = s := mk_L s
      rw [this]
theorem dec_trip {x : S44} (hok : okT 16 x = true) (hl : (encT x).length ≤ 8192) (tail : List UInt8) : decF (mk (encT x ++ tail)) = (x, (encT x).length, 0) := by
  have hh := head_enc hok (by omega) tail
  have ht : PureR.totL (L (mk (encT x ++ tail))) = ((encT x).length, 0) := by
    rw [L_mk']
    unfold PureR.totL
    rw [if_pos hh.1, hh.2.2.1, if_neg (by omega)]
  unfold decF
  rw [ht]
  unfold decG
  rw [if_neg (fun h => h rfl), if_neg (by rw [sz_mk, List.length_append]; omega)]
  have e : (mk (encT x ++ tail)).extract 0 (encT x).length = mk (encT x) := by
    apply L_ext
    rw [L_to, L_mk', List.take_left, L_mk']
  rw [e, val_trip 16 x hok (by omega)]
theorem decode_f (k : Nat) (s : ByteArray) (hs : s.size ≤ 20000) : ber_Decode.f k s = some ((decF s).1.f0, (decF s).1.f1, (decF s).1.f2, (decF s).1.f3, (decF s).1.f4, ((decF s).2.1 : Int), ((decF s).2.2 : Int)) := by
  unfold ber_Decode.f
  rw [if_pos hs]
end Go.Proofs.YtghkgclbfjoilaaDoor.Trip
