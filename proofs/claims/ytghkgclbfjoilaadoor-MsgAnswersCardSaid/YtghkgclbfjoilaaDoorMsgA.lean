/- Messages: a value's kids as a row that is taken one by one; the tree lies where ber.Decode left it (world Z). Contracts of is, within, may, must, end. -/
import Derived.Test.YtghkgclbfjoilaaDoorDecY
import Derived.Test.YtghkgclbfjoilaaDoorTripB
import Derived.Test.YtghkgclbfjoilaaDoorR6
import Derived.Test.YtghkgclbfjoilaaDoorR7
set_option linter.unusedVariables false
set_option linter.unusedSimpArgs false
namespace Go.Proofs.YtghkgclbfjoilaaDoor.Msg
open Go.RowKit Go.Proofs.YtghkgclbfjoilaaDoorW.PrintWords Go.Proofs.YtghkgclbfjoilaaDoorW.PrintLast Go.Proofs.YtghkgclbfjoilaaDoorW.PrintMore Go.Proofs.YtghkgclbfjoilaaDoor.Pl Go.Proofs.YtghkgclbfjoilaaDoor.R Go.Proofs.YtghkgclbfjoilaaDoor.Dec

def ok44 (Z : World) (k : Nat) : Prop := ∃ cells, Z.heap[k]? = some (.cells cells 44 (0, 0))
def El (Z : World) (x : S44) (cs : List Value) : Prop := k44.M Z 0 (ok44 Z) x cs
def Rw (Z : World) (A : Option Addr) (l : List S44) : Prop := ∀ i x, l[i]? = some x → ∃ g o cs, A = some ⟨g, o, none⟩ ∧ ok44 Z g ∧ El Z x cs ∧ ∀ j u, cs[j]? = some u → Z.cell? ⟨g, o + (i * 5 + j), none⟩ = some u
def Agree (Z W : World) : Prop := ∀ k, ok44 Z k → W.heap[k]? = Z.heap[k]?
theorem Agree.refl (Z : World) : Agree Z Z := fun _ _ => rfl
theorem cell_at {Z W : World} {g o : Nat} (h : W.heap[g]? = Z.heap[g]?) : W.cell? ⟨g, o, none⟩ = Z.cell? ⟨g, o, none⟩ := by
  simp only [World.cell?, h]
theorem rw_nil (Z : World) (A : Option Addr) : Rw Z A [] := fun i x h => by simp at h
theorem rw_of_R {Z : World} {base : Nat} {ok : Nat → Prop} {v : Value} {l : List S44} (h : k44.R 44 Z base ok v l) : ∃ A c, v = .slice A l.length c ∧ l.length ≤ c ∧ l.length ≤ 9223372036854775807 ∧ Rw Z A l := by
  obtain ⟨A, c, e, hl, hc⟩ := Kd.R_reads h
  have hmx := hc.2.1
  have hb := Kd.R_bound h
  obtain ⟨h0, inner, ho, hr⟩ := hb
  refine ⟨A, c, e, hl, hmx, fun i x hx => ?_⟩
  subst e
  rcases ho.2 with ⟨he, h1⟩ | ⟨g, cap, cur, he, hg, hh, hn, hm, hs, ht⟩
  · rw [List.eq_nil_of_length_eq_zero h1] at hx
    simp at hx
  · injection he with hA _ _
    subst hA
    have hi : i < l.length := (List.getElem?_eq_some_iff.mp hx).1
    have hM := hr.2 i x hx
    refine ⟨g, 0, _, rfl, ⟨cur, hh⟩, k44.M_mono ?_ (k44.M_lower (Nat.zero_le _) hM), ?_⟩
    · rintro k ⟨⟨_, _, _, q, hq, cells, hcells⟩, _⟩
      have : q = 44 := by
        rcases List.mem_cons.mp hq with h2 | h2
        · exact h2
        · rcases List.mem_cons.mp h2 with h3 | h3
          · exact h3
          · cases h3
      subst this
      exact ⟨cells, hcells⟩
    · intro j u hu
      have hj : j < 5 := by
        have := (List.getElem?_eq_some_iff.mp hu).1
        have h5 := k44.K_len (k44.K_of_M hM)
        have h6 : k44.sz = 5 := rfl
        rw [h6] at h5 this
        omega
      have hu2 : inner[i * 5 + j]? = some u := by
        rw [List.getElem?_take] at hu
        have h6 : k44.sz = 5 := rfl
        rw [h6, if_pos hj, List.getElem?_drop] at hu
        exact hu
      rw [← ht, List.getElem?_take] at hu2
      split at hu2
      · simp only [World.cell?, hh, Nat.zero_add]
        simpa using hu2
      · cases hu2
theorem el_open {Z : World} {x : S44} {cs : List Value} (h : El Z x cs) : ∃ A c, cs = [.int .i64 x.f0, .bool x.f1, .int .i64 x.f2, .string x.f3, .slice A x.f4.length c] ∧ x.f4.length ≤ c ∧ x.f4.length ≤ 9223372036854775807 ∧ Rw Z A x.f4 := by
  obtain ⟨v4, e, hR⟩ := k44_openM h
  obtain ⟨A, c, e2, h1, h2, h3⟩ := rw_of_R hR
  subst e2
  exact ⟨A, c, e, h1, h2, h3⟩
theorem el_K {Z W : World} {x : S44} {cs : List Value} (h : El Z x cs) (ag : Agree Z W) : k44.K W x cs := k44.K_of_M (k44.M_move (w1 := W) (fun k hk => ag k hk) h)
theorem addr_add (g o n : Nat) : (⟨g, o, none⟩ : Addr).add n = ⟨g, o + n, none⟩ := by
  unfold Addr.add
  split
  · rename_i h
    rw [h]
    rfl
  · rfl
theorem rw_C {Z W : World} {A : Option Addr} {l : List S44} (h : Rw Z A l) (hl : l.length ≤ 9223372036854775807) (ag : Agree Z W) : Kd.C k44 W A l.length l := by
  refine ⟨rfl, hl, fun h0 => ?_⟩
  obtain ⟨g, o, cs, e, _, _, _⟩ := h 0 _ (List.getElem?_eq_getElem h0)
  refine ⟨⟨g, o, none⟩, e, fun j p hj => ?_⟩
  obtain ⟨g2, o2, cs2, e2, hok, hel, hc⟩ := h j p hj
  rw [e] at e2
  injection e2 with e2
  injection e2 with e3 e4
  subst e3
  subst e4
  have hK := el_K hel ag
  refine ⟨cs2, k44.K_len hK, hK, fun i u hu => ?_⟩
  rw [show k44.sz = 5 from rfl, addr_add, cell_at (ag g hok)]
  exact hc i u hu
/-- the first of a row -/
theorem rw_head {Z : World} {A : Option Addr} {x : S44} {l : List S44} (h : Rw Z A (x :: l)) : ∃ g o A4 c4, A = some ⟨g, o, none⟩ ∧ ok44 Z g ∧ Rw Z (some ⟨g, o + 5, none⟩) l ∧ x.f4.length ≤ c4 ∧ x.f4.length ≤ 9223372036854775807 ∧ Rw Z A4 x.f4 ∧
    Z.cell? ⟨g, o, none⟩ = some (.int .i64 x.f0) ∧ Z.cell? ⟨g, o + 1, none⟩ = some (.bool x.f1) ∧ Z.cell? ⟨g, o + 2, none⟩ = some (.int .i64 x.f2) ∧ Z.cell? ⟨g, o + 3, none⟩ = some (.string x.f3) ∧ Z.cell? ⟨g, o + 4, none⟩ = some (.slice A4 x.f4.length c4) := by
  obtain ⟨g, o, cs, e, hok, hel, hc⟩ := h 0 x rfl
  obtain ⟨A4, c4, e4, h1, h2, h3⟩ := el_open hel
  subst e4
  refine ⟨g, o, A4, c4, e, hok, fun i y hy => ?_, h1, h2, h3, by simpa using hc 0 _ rfl, by simpa using hc 1 _ rfl, by simpa using hc 2 _ rfl, by simpa using hc 3 _ rfl, by simpa using hc 4 _ rfl⟩
  obtain ⟨g2, o2, cs2, e2, hok2, hel2, hc2⟩ := h (i + 1) y hy
  rw [e] at e2
  injection e2 with e2
  injection e2 with e3 e4
  subst e3
  subst e4
  refine ⟨g, o + 5, cs2, rfl, hok2, hel2, fun j u hu => ?_⟩
  have := hc2 j u hu
  rw [← this]
  congr 2
  omega

/-- what a call may change: the blocks of s; new blocks -/
structure Kp (s : List Nat) (w w' : World) : Prop where
  size : w.heap.size ≤ w'.heap.size
  block : ∀ k, k < w.heap.size → k ∉ s → w'.heap[k]? = w.heap[k]?
  env : w'.os = w.os ∧ w'.output = w.output
theorem Kp.refl (s : List Nat) (w : World) : Kp s w w := ⟨Nat.le_refl _, fun _ _ _ => rfl, rfl, rfl⟩
theorem Kp.trans {s : List Nat} {a b c : World} (h1 : Kp s a b) (h2 : Kp s b c) : Kp s a c := ⟨Nat.le_trans h1.1 h2.1, fun k hk hs => (h2.2 k (by have := h1.1; omega) hs).trans (h1.2 k hk hs), h2.3.1.trans h1.3.1, h2.3.2.trans h1.3.2⟩
theorem Kp.below {s : List Nat} {w w' : World} (h : Below w.heap.size w w') : Kp s w w' := ⟨h.size, fun k hk _ => h.block k hk, h.os, h.output⟩
theorem Kp.set {s : List Nat} (w : World) (g j : Nat) (v : Value) (h : g ∈ s ∨ w.heap.size ≤ g) : Kp s w (w.setCell ⟨g, j, none⟩ v) :=
  ⟨by simp [World.setCell], fun k hk hs => Below.heap_setCell w ⟨g, j, none⟩ v k (fun e => by subst e; rcases h with h | h; exact hs h; exact absurd hk (by simpa using h)), rfl, rfl⟩
theorem Kp.mono {s t : List Nat} {w w' : World} (h : Kp s w w') (hst : ∀ k, k ∈ s → k ∈ t) : Kp t w w' := ⟨h.1, fun k hk hs => h.2 k hk (fun hm => hs (hst k hm)), h.3⟩
theorem Kp.agree {s : List Nat} {Z w w' : World} (h : Kp s w w') (ag : Agree Z w) (hs : ∀ k, k ∈ s → ¬ ok44 Z k) (hz : ∀ k, ok44 Z k → k < w.heap.size) : Agree Z w' :=
  fun k hk => (h.2 k (hz k hk) (fun hm => hs k hm hk)).trans (ag k hk)
theorem agree_lt {Z w : World} (ag : Agree Z w) (k : Nat) (hk : ok44 Z k) : k < w.heap.size := by
  obtain ⟨cells, hc⟩ := hk
  have := ag k ⟨cells, hc⟩
  rw [hc] at this
  exact (Array.getElem?_eq_some_iff.1 this).1
/-- a block of another type is none of the tree's -/
theorem not_ok {Z w : World} (ag : Agree Z w) {g : Nat} {cells : Array Value} {t : TypeId} (h : w.heap[g]? = some (.cells cells t (0, 0))) (ht : t ≠ 44) : ¬ ok44 Z g := by
  rintro ⟨c2, h2⟩
  have := ag g ⟨c2, h2⟩
  rw [h, h2] at this
  injection this with this
  injection this with _ this
  exact ht this

set_option maxHeartbeats 1000000 in
theorem within_calls (n lo hi : Int) (w : World) : Calls Tryd.prog 36 #[.int .i64 n, .int .i64 lo, .int .i64 hi] w fun e w' => e = .returned (.bool (decide (lo ≤ n ∧ n ≤ hi))) ∧ w = w' := by
  by_cases h1 : lo ≤ n
  · have h1b : decide (lo ≤ n) = true := decide_eq_true h1
    have h2 : decide (lo ≤ n ∧ n ≤ hi) = decide (n ≤ hi) := by simp [h1]
    rw [h2]
    clear h2 h1
    go_enter Tryd.func36, Tryd.ntmps36
    go_wp2
    go_ret
    exact ⟨rfl, rfl⟩
  · have h1b : decide (lo ≤ n) = false := decide_eq_false h1
    have h2 : decide (lo ≤ n ∧ n ≤ hi) = false := by simp [h1]
    rw [h2]
    clear h2 h1
    go_enter Tryd.func36, Tryd.ntmps36
    go_wp2
    go_ret
    exact ⟨rfl, rfl⟩
def isB (x : S44) (c t : Int) (k : Bool) : Bool := decide (x.f0 = c) && decide (x.f2 = t) && (x.f1 == k)
set_option maxHeartbeats 1000000 in
theorem is_calls (x : S44) (v4 : Value) (c t : Int) (k : Bool) (w : World) : Calls Tryd.prog 24 #[.agg #[.int .i64 x.f0, .bool x.f1, .int .i64 x.f2, .string x.f3, v4], .int .i64 c, .int .i64 t, .bool k] w fun e w' => e = .returned (.bool (isB x c t k)) ∧ Below w.heap.size w w' := by
  obtain ⟨a, b, d, s, l⟩ := x
  unfold isB
  simp only
  by_cases h1 : a = c
  · have h1b : (a == c) = true := beq_iff_eq.mpr h1
    by_cases h2 : d = t
    · have h2b : (d == t) = true := beq_iff_eq.mpr h2
      have h3 : (decide (a = c) && decide (d = t) && (b == k)) = (b == k) := by simp [h1, h2]
      rw [h3]
      clear h3 h1 h2
      go_enter Tryd.func24, Tryd.ntmps24
      go_wp2
      go_ret
      exact ⟨rfl, below_alloc (Below.refl _ _) _⟩
    · have h2b : (d == t) = false := beq_eq_false_iff_ne.mpr h2
      have h3 : (decide (a = c) && decide (d = t) && (b == k)) = false := by simp [h2]
      rw [h3]
      clear h3 h1 h2
      go_enter Tryd.func24, Tryd.ntmps24
      go_wp2
      go_ret
      exact ⟨rfl, below_alloc (Below.refl _ _) _⟩
  · have h1b : (a == c) = false := beq_eq_false_iff_ne.mpr h1
    have h3 : (decide (a = c) && decide (d = t) && (b == k)) = false := by simp [h1]
    rw [h3]
    clear h3 h1
    go_enter Tryd.func24, Tryd.ntmps24
    go_wp2
    go_ret
    exact ⟨rfl, below_alloc (Below.refl _ _) _⟩
end Go.Proofs.YtghkgclbfjoilaaDoor.Msg
