/- The tree of an api.Tlv, plainly: its weight, its depth; what the document's Weigh says of it. -/
import Derived.Test.YtghkgclbfjoilaaDoorR4
import Derived.Test.YtghkgclbfjoilaaDoorPl
set_option linter.unusedVariables false
set_option linter.unusedSimpArgs false
namespace Go.Proofs.YtghkgclbfjoilaaDoor.R
open Go.RowKit Go.Proofs.YtghkgclbfjoilaaDoorW.PrintWords Go.Proofs.YtghkgclbfjoilaaDoorW.PrintLast Go.Proofs.YtghkgclbfjoilaaDoorW.PrintMore Go.Proofs.YtghkgclbfjoilaaDoor.Pl

mutual
def tot : S44 → Nat
  | ⟨_, _, _, s, l⟩ => 2 + s.size + totL l
def totL : List S44 → Nat
  | [] => 0
  | x :: l => tot x + totL l
end
mutual
def hgt : S44 → Nat
  | ⟨_, _, _, _, l⟩ => 1 + hgtL l
def hgtL : List S44 → Nat
  | [] => 0
  | x :: l => max (hgt x) (hgtL l)
end
theorem tree_ind {P : S44 → Prop} (h : ∀ a b c s l, (∀ y ∈ l, P y) → P ⟨a, b, c, s, l⟩) : ∀ x, P x := by
  intro x
  refine S44.rec (motive_1 := P) (motive_2 := fun l => ∀ y ∈ l, P y) (fun a b c s l ih => h a b c s l ih) (fun y hy => by cases hy) (fun x l hx hl y hy => ?_) x
  rcases List.mem_cons.mp hy with rfl | hy
  · exact hx
  · exact hl y hy
theorem rd_drop {whole l : List S44} {x : S44} {j : Nat} (h : whole.drop j = x :: l) : rd_T44 whole (j : Int) = x ∧ j < whole.length ∧ whole.drop (j + 1) = l := by
  have hl : j < whole.length := by
    rcases Nat.lt_or_ge j whole.length with h' | h'
    · exact h'
    · rw [List.drop_eq_nil_of_le h'] at h; cases h
  rw [List.drop_eq_getElem_cons hl] at h
  injection h with h1 h2
  refine ⟨?_, hl, h2⟩
  unfold rd_T44
  simp only [Int.toNat_natCast]
  rw [List.getD_eq_getElem?_getD, List.getElem?_eq_getElem hl]
  exact h1
theorem len_drop {α : Type} {whole : List α} {j : Nat} (h : whole.drop j = []) : whole.length ≤ j := by
  simpa using h
theorem tot_pos : ∀ x : S44, 2 ≤ tot x := by
  intro x; cases x; simp only [tot]; omega
theorem wW (n : Int) (h0 : 0 ≤ n) (h1 : n ≤ 1000000) : wrap64 n = n := w64 (by omega) (by omega)
end Go.Proofs.YtghkgclbfjoilaaDoor.R
