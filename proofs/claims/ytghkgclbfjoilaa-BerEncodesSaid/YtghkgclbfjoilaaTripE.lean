/- The document's Right and Encode, plainly; BerEncodes. -/
import Derived.Test.YtghkgclbfjoilaaTripR
import Derived.Test.YtghkgclbfjoilaaR15
set_option linter.unusedVariables false
set_option linter.unusedSimpArgs false
namespace Go.Proofs.Ytghkgclbfjoilaa.Trip
open Go.RowKit Go.Proofs.YtghkgclbfjoilaaW.PrintWords Go.Proofs.YtghkgclbfjoilaaW.PrintLast Go.Proofs.YtghkgclbfjoilaaW.PrintMore Go.Proofs.Ytghkgclbfjoilaa.Pl Go.Proofs.Ytghkgclbfjoilaa.R Go.Proofs.Ytghkgclbfjoilaa.PureR Go.Proofs.Ytghkgclbfjoilaa.Dec

abbrev Qf (k : Nat) (x : S44) (d : Int) : Option Bool := rollbookref25_Right.f k x.f0 x.f1 x.f2 x.f3 x.f4 d
theorem rright_list (d : Nat) (hd : d ≤ 16) (x0 : Int) (x1 : Bool) (x2 : Int) (x3 : ByteArray) (whole : List S44) (hw : whole.length ≤ 1000000) : ∀ (l : List S44) (_ : ∀ y ∈ l, Ev (fun k => Qf k y ((17 - d : Nat) : Int)) (okT d y)) (j : Nat), whole.drop j = l →
    Ev (fun k => rollbookref25_Right.l0 k ((16 - d : Nat) : Int) (j : Int) x0 x1 x2 x3 whole) (l.all (okT d)) := by
  intro l
  induction l with
  | nil =>
    intro _ j hj
    have := len_drop hj
    refine Ev.step (f := fun _ => some true) (fun k => ?_) (Ev.now _)
    simp only [rollbookref25_Right.l0]
    rw [if_neg (by omega)]
  | cons y l ihl =>
    intro ih j hj
    obtain ⟨e1, e2, e3⟩ := rd_drop hj
    have h1 := ih y (List.mem_cons_self)
    have h2 := ihl (fun z hz => ih z (List.mem_cons_of_mem _ hz)) (j + 1) e3
    refine Ev.step (fun k => ?_) (Ev.bind (f := fun k t => if t = true then rollbookref25_Right.l0 k ((16 - d : Nat) : Int) ((j + 1 : Nat) : Int) x0 x1 x2 x3 whole else some false) h1 ?_)
    · simp only [rollbookref25_Right.l0]
      rw [if_pos (by omega), if_pos (by omega), e1, wW _ (by omega) (by omega), wW _ (by omega) (by omega)]
      have e : ((16 - d : Nat) : Int) + 1 = ((17 - d : Nat) : Int) := by omega
      rw [e]
      rfl
    · rw [List.all_cons]
      cases hy : okT d y with
      | true => exact Ev.congr (fun k => if_pos rfl) (by simpa using h2)
      | false => exact Ev.congr (fun k => if_neg (by decide)) (Ev.now _)
theorem rright_no (x1 : Int) (x0 : Int) (xb : Bool) (x2 : Int) (x3 : ByteArray) (l : List S44) : Ev (fun k => rollbookref25_Right.j0 k x1 true x0 xb x2 x3 l) false := by
  refine Ev.step (f := fun _ => some false) (fun k => ?_) (Ev.now _)
  simp only [rollbookref25_Right.j0]
  rw [if_pos trivial]
theorem rright_no1 (x1 : Int) (x0 : Int) (xb : Bool) (x2 : Int) (x3 : ByteArray) (l : List S44) : Ev (fun k => rollbookref25_Right.j1 k x1 true x0 xb x2 x3 l) false := by
  refine Ev.step (f := fun _ => some false) (fun k => ?_) (Ev.now _)
  simp only [rollbookref25_Right.j1]
  rw [if_pos trivial]
theorem rright_ev : ∀ x : S44, tot x ≤ 1000000 → ∀ d : Nat, d ≤ 17 → Ev (fun k => Qf k x ((17 - d : Nat) : Int)) (okT d x) := by
  intro x
  induction x using tree_ind with
  | h a b c s l ih =>
  intro ht d hd
  simp only [tot] at ht
  have hl := len_tot l
  cases d with
  | zero =>
    refine Ev.step (fun k => ?_) (rright_no 17 a b c s l)
    simp only [Qf, rollbookref25_Right.f]
    rw [if_pos (by omega)]
    rfl
  | succ d =>
    have e : (17 - (d + 1) : Nat) = 16 - d := by omega
    rw [e]
    by_cases h0 : 0 ≤ a
    case neg =>
      have : okT (d + 1) ⟨a, b, c, s, l⟩ = false := by simp [okT, h0]
      rw [this]
      refine Ev.step (fun k => ?_) (rright_no ((16 - d : Nat) : Int) a b c s l)
      simp only [Qf, rollbookref25_Right.f]
      rw [if_neg (by omega), if_pos (by omega)]
    by_cases h1 : a ≤ 3
    case neg =>
      have : okT (d + 1) ⟨a, b, c, s, l⟩ = false := by simp [okT, h1]
      rw [this]
      refine Ev.step (fun k => ?_) (rright_no ((16 - d : Nat) : Int) a b c s l)
      simp only [Qf, rollbookref25_Right.f]
      rw [if_neg (by omega), if_neg (by omega), if_pos (by omega)]
    by_cases h2 : 0 ≤ c
    case neg =>
      have : okT (d + 1) ⟨a, b, c, s, l⟩ = false := by simp [okT, h2]
      rw [this]
      refine Ev.step (fun k => ?_) (rright_no ((16 - d : Nat) : Int) a b c s l)
      simp only [Qf, rollbookref25_Right.f]
      rw [if_neg (by omega), if_neg (by omega), if_neg (by omega), if_pos (by omega)]
    refine Ev.step (f := fun k => rollbookref25_Right.j0 k ((16 - d : Nat) : Int) (decide (c > 30)) a b c s l) (fun k => ?_) ?_
    · simp only [Qf, rollbookref25_Right.f]
      rw [if_neg (by omega), if_neg (by omega), if_neg (by omega), if_neg (by omega)]
    by_cases h3 : c ≤ 30
    case neg =>
      have : okT (d + 1) ⟨a, b, c, s, l⟩ = false := by simp [okT, h3]
      rw [this, show decide (c > 30) = true from decide_eq_true (by omega)]
      exact rright_no _ _ _ _ _ _
    rw [show decide (c > 30) = false from decide_eq_false (by omega)]
    have h4 := rright_list d (by omega) a b c s l (by omega) l (fun y hy => ih y hy (by have := tot_mem l y hy; omega) d (by omega)) 0 rfl
    have h5 : Ev (fun k => rollbookref25_Right.j1 k ((16 - d : Nat) : Int) false a b c s l) (l.all (okT d)) := by
      refine Ev.step (fun k => ?_) h4
      simp only [rollbookref25_Right.j1]
      rw [if_neg (by decide)]
      rfl
    cases b with
    | true =>
      have : okT (d + 1) ⟨a, true, c, s, l⟩ = (l.all (okT d) && (s.toList == ([] : List UInt8))) := by simp [okT, h0, h1, h2, h3]
      rw [this]
      by_cases hs : s.toList = ([] : List UInt8)
      · rw [beq_iff_eq.mpr hs, Bool.and_true]
        refine Ev.step (fun k => ?_) h5
        simp only [rollbookref25_Right.j0]
        rw [if_neg (by decide), if_pos trivial, if_pos hs]
      · rw [beq_eq_false_iff_ne.mpr hs, Bool.and_false]
        refine Ev.step (fun k => ?_) (rright_no1 ((16 - d : Nat) : Int) a true c s l)
        simp only [rollbookref25_Right.j0]
        rw [if_neg (by decide), if_pos trivial, if_neg hs]
    | false =>
      have : okT (d + 1) ⟨a, false, c, s, l⟩ = ((l.length : Int) == 0) := by simp [okT, h0, h1, h2, h3]
      rw [this]
      cases l with
      | nil =>
        refine Ev.step (fun k => ?_) h5
        simp only [rollbookref25_Right.j0]
        rw [if_neg (by decide), if_neg (by decide)]
        rfl
      | cons y l =>
        have e2 : (((y :: l).length : Int) == 0) = false := by
          rw [beq_eq_false_iff_ne]
          simp only [List.length_cons]
          omega
        rw [e2]
        refine Ev.step (fun k => ?_) (rright_no1 ((16 - d : Nat) : Int) a false c s (y :: l))
        simp only [rollbookref25_Right.j0]
        rw [if_neg (by decide), if_neg (by decide), show decide (((y :: l).length : Int) > 0) = true from decide_eq_true (by simp only [List.length_cons]; omega)]

def near (A T : List UInt8) : Prop := A = T ∨ (8192 < A.length ∧ 8192 < T.length)
theorem near_app {A T B S : List UInt8} (h : near A T) (h2 : near B S) : near (A ++ B) (T ++ S) := by
  rcases h with rfl | h
  · rcases h2 with rfl | h2
    · exact .inl rfl
    · exact .inr ⟨by rw [List.length_append]; omega, by rw [List.length_append]; omega⟩
  · exact .inr ⟨by rw [List.length_append]; omega, by rw [List.length_append]; omega⟩
theorem near_fin {A T : List UInt8} (n : Nat) (h : near A T) : near (fin n A) (fin n T) := by
  rcases h with rfl | h
  · exact .inl rfl
  · have h1 := fin_len n A
    have h2 := fin_len n T
    exact .inr ⟨by omega, by omega⟩
theorem refF_ev : ∀ x : S44, tot x ≤ 30000 → ∀ d : Nat, d ≤ 16 → okT d x = true → ∃ b : List UInt8, Ev (fun k => refF k x) b ∧ near b (encT x) ∧ 0 < b.length ∧ b.length ≤ 30005 + 20005 * d := by
  have hloop : ∀ (B : Nat), B ≤ 400000 → ∀ (l : List S44), (∀ y ∈ l, ∃ b : List UInt8, Ev (fun k => refF k y) b ∧ near b (encT y) ∧ 0 < b.length ∧ b.length ≤ B) → ∀ (acc T : List UInt8), acc.length ≤ 20000 + B → near acc T → ∃ o : List UInt8, Ev (fun k => refLoop (refF k) l acc) o ∧ near o (T ++ encTs l) ∧ o.length ≤ 20000 + B := by
    intro B hB l
    induction l with
    | nil =>
      intro _ acc T ha hn
      exact ⟨acc, ⟨0, fun _ _ => rfl⟩, by simpa [encTs] using hn, ha⟩
    | cons y l ihl =>
      intro ih acc T ha hn
      by_cases hc : acc.length ≤ 20000
      · obtain ⟨b, h1, h2, h3, h4⟩ := ih y (List.mem_cons_self)
        obtain ⟨o, h5, h6, h7⟩ := ihl (fun z hz => ih z (List.mem_cons_of_mem _ hz)) (acc ++ b) (T ++ encT y) (by rw [List.length_append]; omega) (near_app hn h2)
        refine ⟨o, ?_, ?_, h7⟩
        · simp only [refLoop]
          refine Ev.congr (fun k => if_pos hc) ?_
          exact Ev.bind (f := fun k b => if 0 < b.length ∧ b.length < 1000000 then refLoop (refF k) l (acc ++ b) else none) h1 (Ev.congr (fun k => if_pos ⟨h3, by omega⟩) h5)
        · simp only [encTs]
          rw [← List.append_assoc]
          exact h6
      · refine ⟨acc, ?_, ?_, ha⟩
        · simp only [refLoop]
          exact Ev.congr (fun k => if_neg hc) (Ev.now _)
        · refine .inr ⟨by omega, ?_⟩
          rw [List.length_append]
          rcases hn with rfl | hn
          · omega
          · omega
  intro x
  induction x using tree_ind with
  | h a b c s l ih =>
  intro ht d hd hok
  simp only [tot] at ht
  have hl := len_tot l
  cases d with
  | zero => cases hok
  | succ d =>
    obtain ⟨h0, h1, h2, h3, hk, hp⟩ := ok_parts hok
    have hcond : 0 ≤ a ∧ a ≤ 3 ∧ 0 ≤ c ∧ c ≤ 30 ∧ l.length < 140737488355328 ∧ s.size ≤ 1000000 := ⟨h0, h1, h2, h3, by omega, by omega⟩
    cases b with
    | false =>
      have hfl := fin_len (headB a false c) (L s)
      rw [L_len] at hfl
      refine ⟨fin (headB a false c) (L s), Ev.step (f := fun _ => some (fin (headB a false c) (L s))) (fun k => ?_) (Ev.now _), .inl rfl, by omega, by omega⟩
      simp only [refF]
      rw [if_pos hcond, if_neg (by decide)]
      rfl
    | true =>
      have hs : s = ⟨#[]⟩ := (hk rfl).2
      subst hs
      obtain ⟨o, h4, h5, h6⟩ := hloop (30005 + 20005 * d) (by omega) l (fun y hy => ih y hy (by have := tot_mem l y hy; omega) d (by omega) ((hk rfl).1 y hy)) [] [] (by simp) (.inl rfl)
      have hfl := fin_len (headB a true c) o
      refine ⟨fin (headB a true c) o, Ev.step (fun k => ?_) (Ev.bind (f := fun _ b => if b.length < 16777216 then some (refFin (headB a true c) b) else none) h4 (Ev.congr (fun k => if_pos (by omega)) (Ev.now _))), ?_, by omega, by omega⟩
      · simp only [refF]
        rw [if_pos hcond]
        rfl
      · exact near_fin _ h5
theorem nums_up (b : List UInt8) : strOfNums (upB b) = mk b := by
  apply L_ext
  rw [L_nums, L_mk', upB, List.map_map]
  conv => rhs; rw [← List.map_id b]
  apply List.map_congr_left
  intro u _
  exact ofNat_toNat u
theorem rEncode_ev (x : S44) (hx : tot x ≤ 30000) : Ev (fun k => rollbookref25_Encode.f k x.f0 x.f1 x.f2 x.f3 x.f4) (if okT 16 x = true then (if (encT x).length ≤ 8192 then ((⟨(encT x).toArray⟩ : ByteArray), (0 : Int)) else ((⟨#[]⟩ : ByteArray), 5)) else ((⟨#[]⟩ : ByteArray), 4)) := by
  unfold rollbookref25_Encode.f
  refine Ev.bind (rright_ev x (by omega) 16 (by omega)) ?_
  by_cases hok : okT 16 x = true
  · rw [if_pos hok]
    refine Ev.congr (fun k => if_pos hok) ?_
    obtain ⟨b, h1, h2, h3, _⟩ := refF_ev x hx 16 (by omega) hok
    have h1' : Ev (fun k => rollbookref25_Bytes.f k x.f0 x.f1 x.f2 x.f3 x.f4) (upB b) := by
      obtain ⟨K, hK⟩ := h1
      refine ⟨K, fun k hk => ?_⟩
      obtain ⟨c, q, t, s, l⟩ := x
      unfold rollbookref25_Bytes.f
      have := hK k hk
      simp only at this ⊢
      rw [this]
      rfl
    refine Ev.bind h1' ?_
    rcases h2 with rfl | h2
    · by_cases hr : (encT x).length ≤ 8192
      · rw [if_pos hr]
        refine Ev.congr (f := fun _ => some (strOfNums (upB (encT x)), (0 : Int))) (fun k => if_neg (by rw [upB_len]; omega)) ?_
        rw [nums_up]
        exact Ev.now _
      · rw [if_neg hr]
        exact Ev.congr (fun k => if_pos (by rw [upB_len]; omega)) (Ev.now _)
    · rw [if_neg (show ¬ (encT x).length ≤ 8192 by omega)]
      exact Ev.congr (fun k => if_pos (by rw [upB_len]; omega)) (Ev.now _)
  · rw [if_neg hok]
    exact Ev.congr (fun k => if_neg hok) (Ev.now _)
theorem encodes_tail (x : S44) (hx : tot x ≤ 30000) (s : ByteArray) (tail : ByteArray) (ht : tail.size ≤ 9000) (e : Int) (h : (s, e) = (if okT 16 x = true then (if (encT x).length ≤ 8192 then ((⟨(encT x).toArray⟩ : ByteArray), (0 : Int)) else ((⟨#[]⟩ : ByteArray), 5)) else ((⟨#[]⟩ : ByteArray), 4))) :
    Ev (fun k => rollbooklaw25_BerEncodes.j1 k tail s e false x.f0 x.f1 x.f2 x.f3 x.f4) true := by
  have hz : ∀ (e : Int), e ≠ 0 → Ev (fun k => rollbooklaw25_BerEncodes.j1 k tail ⟨#[]⟩ e false x.f0 x.f1 x.f2 x.f3 x.f4) true := by
    intro e he
    refine Ev.step (f := fun _ => some true) (fun k => ?_) (Ev.now _)
    simp only [rollbooklaw25_BerEncodes.j1]
    rw [if_neg (by decide), if_neg he, toL]
    rfl
  by_cases hok : okT 16 x = true
  · rw [if_pos hok] at h
    by_cases hr : (encT x).length ≤ 8192
    · rw [if_pos hr] at h
      obtain ⟨rfl, rfl⟩ := Prod.mk.inj h
      have hsz : (⟨(encT x).toArray⟩ : ByteArray).size = (encT x).length := size_mk _
      have hcat : (⟨(encT x).toArray⟩ : ByteArray) ++ tail = mk (encT x ++ L tail) := by
        apply L_ext
        rw [L_app, L_mk', L_mk]
      have hdt := dec_trip hok hr (L tail)
      have hd : ∀ k, ber_Decode.f k ((⟨(encT x).toArray⟩ : ByteArray) ++ tail) = some (x.f0, x.f1, x.f2, x.f3, x.f4, ((encT x).length : Int), 0) := by
        intro k
        rw [hcat, decode_f k _ (by rw [sz_mk, List.length_append, L_len]; omega), hdt]
        rfl
      refine Ev.step (fun k => ?_) (Ev.bind (g := fun k => ber_Decode.f k ((⟨(encT x).toArray⟩ : ByteArray) ++ tail)) (f := fun k bt247 => if bt247.2.2.2.2.2.2 = 0 then (if bt247.2.2.2.2.2.1 = ((⟨(encT x).toArray⟩ : ByteArray).size : Int) then ((rollbookref25_Same.f k bt247.1 bt247.2.1 bt247.2.2.1 bt247.2.2.2.1 bt247.2.2.2.2.1 x.f0 x.f1 x.f2 x.f3 x.f4).bind fun t257 => (some t257)) else (some false)) else (some false)) ⟨0, fun k _ => hd k⟩ ?_)
      · simp only [rollbooklaw25_BerEncodes.j1]
        rw [if_neg (by decide), if_pos trivial, if_pos (by rw [hsz]; omega)]
      · refine Ev.congr (fun k => if_pos rfl) ?_
        refine Ev.congr (fun k => if_pos (by rw [hsz])) ?_
        exact Ev.bind (f := fun _ t => some t) (same_ev x (by omega)) (Ev.now _)
    · rw [if_neg hr] at h
      obtain ⟨rfl, rfl⟩ := Prod.mk.inj h
      exact hz 5 (by decide)
  · rw [if_neg hok] at h
    obtain ⟨rfl, rfl⟩ := Prod.mk.inj h
    exact hz 4 (by decide)
theorem encodes_j0 (x : S44) (tail : ByteArray) (hx : tot x ≤ 30000) (ht : tail.size ≤ 9000) : Ev (fun k => rollbooklaw25_BerEncodes.j0 k tail false x.f0 x.f1 x.f2 x.f3 x.f4) true := by
  have h1 := Encode_ev x (by omega)
  have h2 := rEncode_ev x hx
  have h5 := fun s e h => encodes_tail x hx s tail ht e h
  generalize (if okT 16 x = true then (if (encT x).length ≤ 8192 then ((⟨(encT x).toArray⟩ : ByteArray), (0 : Int)) else ((⟨#[]⟩ : ByteArray), 5)) else ((⟨#[]⟩ : ByteArray), 4)) = r at *
  obtain ⟨s, e⟩ := r
  have h3 := Right_ev x (by omega)
  have h4 := rright_ev x (by omega) 16 (by omega)
  have h6 := h5 s e rfl
  have h7 : Ev (fun k => (ber_Right.f k x.f0 x.f1 x.f2 x.f3 x.f4).bind fun t245 => ((rollbookref25_Right.f k x.f0 x.f1 x.f2 x.f3 x.f4 1).bind fun t246 => (rollbooklaw25_BerEncodes.j1 k tail s e (t245 != t246) x.f0 x.f1 x.f2 x.f3 x.f4))) true := by
    refine Ev.bind h3 ?_
    refine Ev.bind h4 ?_
    rw [show (okT 16 x != okT 16 x) = false from by simp]
    exact h6
  have h8 : Ev (fun k => (ber_Encode.f k x.f0 x.f1 x.f2 x.f3 x.f4).bind fun bt241 => ((rollbookref25_Encode.f k x.f0 x.f1 x.f2 x.f3 x.f4).bind fun bt243 => (if bt241.1.toList = bt243.1.toList then (if bt241.2 = bt243.2 then ((ber_Right.f k x.f0 x.f1 x.f2 x.f3 x.f4).bind fun t245 => ((rollbookref25_Right.f k x.f0 x.f1 x.f2 x.f3 x.f4 1).bind fun t246 => (rollbooklaw25_BerEncodes.j1 k tail bt241.1 bt241.2 (t245 != t246) x.f0 x.f1 x.f2 x.f3 x.f4))) else (rollbooklaw25_BerEncodes.j1 k tail bt241.1 bt241.2 true x.f0 x.f1 x.f2 x.f3 x.f4)) else (rollbooklaw25_BerEncodes.j1 k tail bt241.1 bt241.2 true x.f0 x.f1 x.f2 x.f3 x.f4)))) true := by
    refine Ev.bind h1 ?_
    refine Ev.bind h2 ?_
    refine Ev.congr (fun k => if_pos rfl) ?_
    exact Ev.congr (fun k => if_pos rfl) h7
  refine Ev.step (fun k => ?_) h8
  simp only [rollbooklaw25_BerEncodes.j0]
  rw [if_neg (by decide)]
theorem encodes_true (x : S44) (tail : ByteArray) : ∃ k, rollbooklaw25_BerEncodes.f k x.f0 x.f1 x.f2 x.f3 x.f4 tail = some true := by
  refine ev_out (g := fun k => rollbooklaw25_BerEncodes.f k x.f0 x.f1 x.f2 x.f3 x.f4 tail) ?_
  obtain ⟨r, hr, hw⟩ := weigh_ev x 1 0 (by omega) (by omega)
  have hy : Ev (fun k => rollbooklaw25_BerEncodes.j0 k tail true x.f0 x.f1 x.f2 x.f3 x.f4) true := by
    refine Ev.step (f := fun _ => some true) (fun k => ?_) (Ev.now _)
    simp only [rollbooklaw25_BerEncodes.j0]
    rw [if_pos trivial]
  unfold rollbooklaw25_BerEncodes.f
  refine Ev.bind awake_ev ?_
  refine Ev.congr (fun k => if_pos rfl) ?_
  refine Ev.bind hr ?_
  by_cases hb : r > 30000
  · exact Ev.congr (fun k => if_pos hb) hy
  · refine Ev.congr (fun k => if_neg hb) ?_
    obtain ⟨hw1, _⟩ := hw (by omega)
    by_cases ht : (tail.size : Int) > 9000
    · rw [decide_eq_true ht]
      exact hy
    · rw [decide_eq_false ht]
      exact encodes_j0 x tail (by omega) (by omega)
end Go.Proofs.Ytghkgclbfjoilaa.Trip
