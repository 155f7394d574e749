/- The tree of an api.Tlv, plainly: its weight, its depth; what the document's Weigh says of it. -/
import Derived.Test.YtghkgclbfjoilaaR4
import Derived.Test.YtghkgclbfjoilaaPl
set_option linter.unusedVariables false
set_option linter.unusedSimpArgs false
namespace Go.Proofs.Ytghkgclbfjoilaa.R
open Go.RowKit Go.Proofs.YtghkgclbfjoilaaW.PrintWords Go.Proofs.YtghkgclbfjoilaaW.PrintLast Go.Proofs.YtghkgclbfjoilaaW.PrintMore Go.Proofs.Ytghkgclbfjoilaa.Pl

mutual
def tot : S44 → Nat
  | ⟨_, _, _, s, l⟩ => 2 + s.size + totL l
def totL : List S44 → Nat
  | [] => 0
  | x :: l => tot x + totL l
end
mutual
def hgt : S44 → Nat
  | ⟨_, _, _, _, l⟩ => 1 + hgtL l
def hgtL : List S44 → Nat
  | [] => 0
  | x :: l => max (hgt x) (hgtL l)
end
theorem tree_ind {P : S44 → Prop} (h : ∀ a b c s l, (∀ y ∈ l, P y) → P ⟨a, b, c, s, l⟩) : ∀ x, P x := by
  intro x
  refine S44.rec (motive_1 := P) (motive_2 := fun l => ∀ y ∈ l, P y) (fun a b c s l ih => h a b c s l ih) (fun y hy => by cases hy) (fun x l hx hl y hy => ?_) x
  rcases List.mem_cons.mp hy with rfl | hy
  · exact hx
  · exact hl y hy
theorem rd_drop {whole l : List S44} {x : S44} {j : Nat} (h : whole.drop j = x :: l) : rd_T44 whole (j : Int) = x ∧ j < whole.length ∧ whole.drop (j + 1) = l := by
  have hl : j < whole.length := by
    rcases Nat.lt_or_ge j whole.length with h' | h'
    · exact h'
    · rw [List.drop_eq_nil_of_le h'] at h; cases h
  rw [List.drop_eq_getElem_cons hl] at h
  injection h with h1 h2
  refine ⟨?_, hl, h2⟩
  unfold rd_T44
  simp only [Int.toNat_natCast]
  rw [List.getD_eq_getElem?_getD, List.getElem?_eq_getElem hl]
  exact h1
theorem len_drop {α : Type} {whole : List α} {j : Nat} (h : whole.drop j = []) : whole.length ≤ j := by
  simpa using h
theorem tot_pos : ∀ x : S44, 2 ≤ tot x := by
  intro x; cases x; simp only [tot]; omega
abbrev Wf (k : Nat) (x : S44) (n d : Int) : Option Int := rollbookref25_Weigh.f k x.f0 x.f1 x.f2 x.f3 x.f4 n d
theorem wW (n : Int) (h0 : 0 ≤ n) (h1 : n ≤ 1000000) : wrap64 n = n := w64 (by omega) (by omega)
theorem weigh_list (d : Nat) (hd : d ≤ 60) (x0 : Int) (x1 : Bool) (x2 : Int) (x3 : ByteArray) (whole : List S44) : ∀ (l : List S44) (_ : ∀ y ∈ l, ∀ n : Nat, n ≤ 30000 → ∃ r : Int, Ev (fun k => Wf k y n ((d + 1 : Nat) : Int)) r ∧ (r ≤ 30000 → r = (n + tot y : Nat) ∧ hgt y + (d + 1) ≤ 61)) (j : Nat) (n : Nat), whole.drop j = l → 2 * j ≤ n →
    ∃ r : Int, Ev (fun k => rollbookref25_Weigh.l0 k (n : Int) (d : Int) (j : Int) x0 x1 x2 x3 whole) r ∧ (r ≤ 30000 → r = (n + totL l : Nat) ∧ hgtL l + (d + 1) ≤ 61) := by
  intro l
  induction l with
  | nil =>
    intro _ j n hj hn
    have := len_drop hj
    refine ⟨(n : Int), Ev.step (f := fun _ => some (n : Int)) (fun k => ?_) (Ev.now _), fun h => ⟨by simp [totL], by simp [hgtL]; omega⟩⟩
    simp only [rollbookref25_Weigh.l0]
    rw [if_neg (by omega)]
  | cons y l ihl =>
    intro ih j n hj hn
    obtain ⟨e1, e2, e3⟩ := rd_drop hj
    by_cases hb : n ≤ 30000
    · obtain ⟨r1, h1, h2⟩ := ih y (List.mem_cons_self) n hb
      have hfin : ∀ (r : Int), Ev (fun k => rollbookref25_Weigh.l0 k r1 (d : Int) ((j + 1 : Nat) : Int) x0 x1 x2 x3 whole) r → Ev (fun k => rollbookref25_Weigh.l0 k (n : Int) (d : Int) (j : Int) x0 x1 x2 x3 whole) r := by
        intro r hr
        refine Ev.step (fun k => ?_) (Ev.bind (f := fun k t => rollbookref25_Weigh.l0 k t (d : Int) ((j + 1 : Nat) : Int) x0 x1 x2 x3 whole) h1 hr)
        simp only [rollbookref25_Weigh.l0]
        rw [if_pos (by omega), if_pos (by omega), if_pos (by omega), e1, wW _ (by omega) (by omega), wW _ (by omega) (by omega)]
        rfl
      by_cases hr : r1 ≤ 30000
      · obtain ⟨rfl, h4⟩ := h2 hr
        have htp := tot_pos y
        obtain ⟨r, h5, h6⟩ := ihl (fun z hz => ih z (List.mem_cons_of_mem _ hz)) (j + 1) (n + tot y) e3 (by omega)
        refine ⟨r, hfin r h5, fun h => ?_⟩
        obtain ⟨h7, h8⟩ := h6 h
        refine ⟨by rw [h7]; simp only [totL]; congr 1; omega, ?_⟩
        simp only [hgtL]
        omega
      · refine ⟨r1, hfin r1 (Ev.step (f := fun _ => some r1) (fun k => ?_) (Ev.now _)), fun h => absurd h hr⟩
        simp only [rollbookref25_Weigh.l0]
        split
        · rfl
        · rfl
    · refine ⟨(n : Int), Ev.step (f := fun _ => some (n : Int)) (fun k => ?_) (Ev.now _), fun h => absurd h (by omega)⟩
      simp only [rollbookref25_Weigh.l0]
      rw [if_pos (by omega), if_neg (by omega)]
theorem weigh_ev : ∀ (x : S44) (d n : Nat), d ≤ 61 → n ≤ 30000 → ∃ r : Int, Ev (fun k => Wf k x n (d : Int)) r ∧ (r ≤ 30000 → r = (n + tot x : Nat) ∧ hgt x + d ≤ 61) := by
  intro x
  induction x using tree_ind with
  | h a b c s l ih =>
  intro d n hd hn
  by_cases hd2 : d ≤ 60
  · have hmin : wrap64 (wrap64 ((n : Int) + 2) + mn (s.size : Int) 30001) = ((n + 2 + min s.size 30001 : Nat) : Int) := by
      have e0 : wrap64 ((n : Int) + 2) = ((n + 2 : Nat) : Int) := by rw [wW _ (by omega) (by omega)]; omega
      rw [e0]
      have : mn (s.size : Int) 30001 = ((min s.size 30001 : Nat) : Int) := by unfold mn; split <;> omega
      rw [this, wW _ (by omega) (by omega)]
      omega
    obtain ⟨r, h1, h2⟩ := weigh_list d hd2 a b c s l l (fun y hy m hm => ih y hy (d + 1) m (by omega) hm) 0 (n + 2 + min s.size 30001) rfl (by omega)
    refine ⟨r, Ev.step (fun k => ?_) h1, fun h => ?_⟩
    · simp only [Wf, rollbookref25_Weigh.f]
      rw [if_neg (by omega), hmin]
      rfl
    · obtain ⟨h3, h4⟩ := h2 h
      simp only [tot, hgt]
      refine ⟨?_, by omega⟩
      rw [h3]
      have : s.size ≤ 30000 := by omega
      congr 1
      omega
  · refine ⟨30001, Ev.step (f := fun _ => some 30001) (fun k => ?_) (Ev.now _), fun h => absurd h (by decide)⟩
    simp only [Wf, rollbookref25_Weigh.f]
    rw [if_pos (by omega)]
set_option maxRecDepth 100000 in
theorem awake25 : rollbooklaw25_awake.f 12 = some true := by decide +kernel
theorem awake_ev : Ev (fun k => rollbooklaw25_awake.f k) true := Ev.of (fun k => rollbooklaw25_awake.mono k) awake25
end Go.Proofs.Ytghkgclbfjoilaa.R
