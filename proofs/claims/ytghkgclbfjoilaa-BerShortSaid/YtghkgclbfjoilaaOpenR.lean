/- An api.Tlv that is handed in, as the print's S44: its reading as data gives a tree whose rows can be read. -/
import Derived.Test.YtghkgclbfjoilaaR0
import Derived.ChangeArms
import Derived.DataReads
import Derived.DataElems
import Derived.OpenShut
set_option linter.unusedVariables false
set_option linter.unusedSimpArgs false
namespace Go.Proofs.Ytghkgclbfjoilaa.R
open Go.RowKit Go.Proofs.YtghkgclbfjoilaaW.PrintWords Go.Proofs.YtghkgclbfjoilaaW.PrintLast Go.Proofs.YtghkgclbfjoilaaW.PrintMore
variable {H : Type} {enc : TypeId × Value → H} {w : World} {base : Nat} {spare : Nat → Bool} {held : Bool}

theorem cells44 : Try.prog.cellsOf 44 = 5 := by kernel_rfl
theorem cells3 : Try.prog.cellsOf 3 = 1 := by kernel_rfl
theorem cells4 : Try.prog.cellsOf 4 = 1 := by kernel_rfl
theorem cells9 : Try.prog.cellsOf 9 = 1 := by kernel_rfl
theorem cells42 : Try.prog.cellsOf 42 = 1 := by kernel_rfl

theorem open44 : ∀ (fuel : Nat) (cs : List Value) (x : DataW H × List MemPlace), DataW.trod enc Try.prog w base spare held fuel 44 cs = some x → ∃ s : S44, k44.K w s cs := by
  intro fuel
  induction fuel using Nat.strongRecOn with
  | _ fuel ih =>
  intro cs x h
  obtain ⟨xs, n, rfl, hx, hl, hlen, hf⟩ := DataW.trod_struct Try.underlying44 h
  rw [cells44] at hl
  match cs, hl with
  | [c0, c1, c2, c3, c4], _ =>
  have hlen5 : xs.length = 5 := hlen
  match xs, hlen5 with
  | [y0, y1, y2, y3, y4], _ =>
  have g0 : DataW.trod enc Try.prog w base spare held n 3 [c0] = some y0 := by have := hf 0 _ rfl; simpa [cells3] using this
  have g1 : DataW.trod enc Try.prog w base spare held n 4 [c1] = some y1 := by have := hf 1 _ rfl; simpa [cells4] using this
  have g2 : DataW.trod enc Try.prog w base spare held n 3 [c2] = some y2 := by have := hf 2 _ rfl; simpa [cells3] using this
  have g3 : DataW.trod enc Try.prog w base spare held n 9 [c3] = some y3 := by have := hf 3 _ rfl; simpa [cells9] using this
  have g4 : DataW.trod enc Try.prog w base spare held n 42 [c4] = some y4 := by have := hf 4 _ rfl; simpa [cells42] using this
  obtain ⟨n0, e0, _⟩ := DataW.trod_int Try.underlying3 g0
  obtain ⟨b1, e1, _⟩ := DataW.trod_bool Try.underlying4 g1
  obtain ⟨n2, e2, _⟩ := DataW.trod_int Try.underlying3 g2
  obtain ⟨s3, e3, _⟩ := DataW.trod_string Try.underlying9 g3
  cases e0; cases e1; cases e2; cases e3
  rcases DataW.trod_slice Try.underlying42 g4 with ⟨e4, _⟩ | ⟨a, len, cap, elems, rest, m, hm, e4, _, hb, hlc, hmx, hel, hget, _⟩
  · cases e4
    exact ⟨⟨n0, b1, n2, s3, []⟩, k44_mk w ⟨n0, b1, n2, s3, []⟩ (A4 := none) (c4 := 0) (Nat.le_refl _) ⟨rfl, by simp, fun h => absurd h (by simp)⟩⟩
  · cases e4
    rw [cells44] at hget
    have each : ∀ i : Fin len, ∃ (s : S44) (c : List Value), k44.K w s c ∧ c.length = 5 ∧ ∀ j u, c[j]? = some u → w.cell? (a.add (i.1 * 5 + j)) = some u := by
      intro i
      have hi := hget i.1 i.2
      rw [List.getElem?_eq_getElem (by omega)] at hi
      obtain ⟨c, hc, ht⟩ := Option.bind_eq_some_iff.mp hi
      obtain ⟨s, hs⟩ := ih m (by omega) c _ ht
      refine ⟨s, c, hs, k44.K_len hs, ?_⟩
      intro j u hu
      obtain ⟨_, hcl, hq⟩ := World.cells?_some hc
      have hjl : j < 5 := by have := (List.getElem?_eq_some_iff.mp hu).1; omega
      rw [← Addr.add_add, hq j hjl, hu]
    obtain ⟨f, hf2⟩ := Classical.axiomOfChoice each
    refine ⟨⟨n0, b1, n2, s3, List.ofFn f⟩, ?_⟩
    have hll : (List.ofFn f).length = len := List.length_ofFn
    have := k44_mk w ⟨n0, b1, n2, s3, List.ofFn f⟩ (A4 := some a) (c4 := cap) (by rw [hll]; exact hlc) ⟨rfl, by rw [hll]; unfold maxLen at hmx; omega, fun _ => ⟨a, rfl, ?_⟩⟩
    · rw [hll] at this; exact this
    · intro j p hj
      obtain ⟨hjl, rfl⟩ := List.getElem?_eq_some_iff.mp hj
      have hjl2 : j < len := by rw [hll] at hjl; exact hjl
      rw [List.getElem_ofFn]
      obtain ⟨c, h1, h2, h3⟩ := hf2 ⟨j, hjl2⟩
      exact ⟨c, h2, h1, h3⟩
/-- an argument of the type -/
theorem open_tlv {v : Value} {d : DataW H} {p : List MemPlace} (hv : ∃ cs, v = .agg cs) (h : DataW.Trod enc Try.prog w base spare held 44 v d p) :
    ∃ (s : S44) (A4 : Option Addr) (c4 : Nat), v = .agg #[.int .i64 s.f0, .bool s.f1, .int .i64 s.f2, .string s.f3, .slice A4 s.f4.length c4] ∧ s.f4.length ≤ c4 ∧ k44.C w A4 s.f4.length s.f4 := by
  obtain ⟨cs, rfl⟩ := hv
  obtain ⟨n, hn⟩ := h
  obtain ⟨s, hs⟩ := open44 n _ _ hn
  obtain ⟨A4, c4, e, h1, h2⟩ := k44_open hs
  refine ⟨s, A4, c4, ?_, h1, h2⟩
  have e2 : cs.toList = _ := e
  congr 1
  exact Array.toList_inj.mp e2
end Go.Proofs.Ytghkgclbfjoilaa.R
