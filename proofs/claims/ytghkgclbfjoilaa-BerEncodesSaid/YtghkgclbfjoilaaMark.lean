/- A slice of bytes that a call has made by []byte(s) and appends to: its row bears a mark behind its cells. -/
import Derived.Test.YtghkgclbfjoilaaPl
import Derived.Lib.Builder
import Derived.Lib.UnsafeStr
import Derived.Lib.ConvBytes
import Derived.Laws.AppendOwn
import Derived.Laws.CopyRow
import Derived.OwnWalk
import Derived.Below
set_option linter.unusedVariables false
set_option linter.unusedSimpArgs false
namespace Go.Proofs.Ytghkgclbfjoilaa.Mark
open Go.RowKit Go.Lib Go.Proofs.Ytghkgclbfjoilaa.Pl

/-- the cells of the row that are written lie ahead of the mark -/
theorem cells_ahead (P : Program) (g o : Nat) (t : TypeId) (m0 m1 : Nat) : ∀ (vs : List Value) (i : Nat) (cur : Array Value) (w : World), w.heap[g]? = some (.cells cur t (m0, m1)) → o + i + vs.length ≤ m0 → o + i + vs.length ≤ cur.size → (∀ v ∈ vs, v.oneCell' = true) →
    (storeCells ⟨g, o, none⟩ vs i).run P w = .ok () (w.setRow g (cur.toList.take (o + i) ++ vs ++ cur.toList.drop (o + i + vs.length)).toArray) := by
  intro vs
  induction vs with
  | nil =>
    intro i cur w hg hm hl h1
    simp only [storeCells, List.append_nil, List.length_nil, Nat.add_zero, List.take_append_drop, Array.toArray_toList]
    rw [setRow_self w g cur t (m0, m1) hg]
    rfl
  | cons v rest ih =>
    intro i cur w hg hm hl h1
    simp only [List.length_cons] at hm hl
    have hi : o + i < cur.size := by omega
    have ha : (⟨g, o, none⟩ : Addr).add i = ⟨g, o + i, none⟩ := by unfold Addr.add; split <;> simp_all
    have hc : w.cell? ⟨g, o + i, none⟩ = some cur[o + i] := by simp [World.cell?, hg, hi]
    have hf : w.frozen? ⟨g, o + i, none⟩ = false := by
      simp only [World.frozen?, hg, Bool.and_eq_false_iff, decide_eq_false_iff_not]
      left
      omega
    have hst : (store ((⟨g, o, none⟩ : Addr).add i) v).run P w = .ok () (w.setRow g (cur.setIfInBounds (o + i) v)) := by
      rw [ha, run_store P w _ v _ (h1 v (by simp)), hc]
      simp [hf, setCell_eq_setRow w g (o + i) cur t (m0, m1) v hg]
    have h2 := ih (i + 1) (cur.setIfInBounds (o + i) v) (w.setRow g (cur.setIfInBounds (o + i) v)) (setRow_heap w g cur _ t _ hg) (by omega) (by simp; omega) (fun x hx => h1 x (by simp [hx]))
    simp only [storeCells, Sem.run_bind, hst, Result.andThen_ok, h2, setRow_setRow]
    congr 3
    have e := list_seg_step cur.toList (o + i) v rest (by simp; omega)
    simpa [Array.toList_setIfInBounds, Nat.add_assoc] using e

/-- bytes of the call's own, the row marked behind its cells or not -/
def OwnM (w : World) (base : Nat) (e : TypeId) (v : Value) (bs : List UInt8) : Prop :=
  ∃ g cap cur m0 m1, v = .slice (some ⟨g, 0, none⟩) bs.length cap ∧ base ≤ g ∧ w.heap[g]? = some (.cells cur e (m0, m1)) ∧ ((m0 = 0 ∧ m1 = 0) ∨ cur.size ≤ m0) ∧ bs.length ≤ cap ∧ cap ≤ maxLen ∧ cur.size = cap ∧ cur.toList.take bs.length = byteCells bs
theorem OwnM.below {w w1 : World} {base : Nat} {e : TypeId} {v : Value} {bs : List UInt8} (h : OwnM w base e v bs) (hb : Below w.heap.size w w1) : OwnM w1 base e v bs := by
  obtain ⟨g, cap, cur, m0, m1, h1, h2, h3, h4⟩ := h
  exact ⟨g, cap, cur, m0, m1, h1, h2, (hb.block g (Array.getElem?_eq_some_iff.1 h3).1).trans h3, h4⟩
theorem OwnM.drew {w : World} {base : Nat} {e : TypeId} {v : Value} {bs : List UInt8} (h : OwnM w base e v bs) : OwnM w.drew base e v bs := h
theorem OwnM.cells {w : World} {base : Nat} {e : TypeId} {v : Value} {bs : List UInt8} (h : OwnM w base e v bs) : ∃ ad cap, v = .slice (some ad) bs.length cap ∧ ∀ j u, (byteCells bs)[j]? = some u → w.cell? (ad.add j) = some u := by
  obtain ⟨g, cap, cur, m0, m1, h1, h2, h3, h4, h5, h6, h7, h8⟩ := h
  refine ⟨_, cap, h1, fun j u hu => ?_⟩
  have ha : (⟨g, 0, none⟩ : Addr).add j = ⟨g, j, none⟩ := by unfold Addr.add; split <;> simp_all
  rw [ha, cell_of_row w g j cur e (m0, m1) h3]
  rw [← h8, List.getElem?_take] at hu
  split at hu
  · simpa using hu
  · cases hu
theorem OwnM.slice {w : World} {base : Nat} {e : TypeId} {v : Value} {bs : List UInt8} (h : OwnM w base e v bs) : ∃ g cap, v = .slice (some ⟨g, 0, none⟩) bs.length cap := by
  obtain ⟨g, cap, _, _, _, h1, _⟩ := h
  exact ⟨g, cap, h1⟩
theorem byteCells_one (l : List UInt8) : ∀ u ∈ byteCells l, u.oneCell' = true := by
  intro u hu
  simp only [byteCells, List.mem_map] at hu
  obtain ⟨b, _, rfl⟩ := hu
  rfl

section
variable {P : Program} (w : World)
theorem run_append_mark (base : Nat) (t ty e : TypeId) (i : TypeInfo) (ht : P.underlying t = some (.slice e)) (hi : P.info? e = some i) (hz : i.zero = some (.int .u8 0)) (hsize : i.size = 1) (hby : i.bytes = 1)
    (v : Value) (bs : List UInt8) (hown : OwnM w base e v bs) (a : Addr) (c : Nat) (ns : List UInt8) (hnews : ∀ j u, (byteCells ns)[j]? = some u → w.cell? (a.add j) = some u)
    (hlen : bs.length + ns.length ≤ 140737488355328) (hbase : base ≤ w.heap.size) :
    ∃ v' w', (Builtin.append_ #[t, t] ty #[v, .slice (some a) ns.length c]).run P w = .ok v' w' ∧ OwnM w' base e v' (bs ++ ns) ∧ w.grownBy w' v.ownBlock := by
  obtain ⟨g, cap, cur, m0, m1, rfl, hbg, hg, hm, hnc, hcm, hcs, htake⟩ := hown
  have hmx : bs.length + ns.length ≤ maxLen := by unfold maxLen; omega
  have hnl : (byteCells ns).length = ns.length := byteCells_length ns
  have hbl : (byteCells bs).length = bs.length := byteCells_length bs
  have happ : byteCells (bs ++ ns) = byteCells bs ++ byteCells ns := byteCells_append bs ns
  by_cases hroom : bs.length + ns.length ≤ cap
  · have hf := run_firstCells_some (P := P) w i.size ns.length a ns.length c (byteCells ns) (by rw [hsize, hnl, Nat.mul_one]) hnews
    have hst : (storeCells ⟨g, bs.length, none⟩ (byteCells ns) 0).run P w = .ok () (w.setRow g (cur.toList.take bs.length ++ byteCells ns ++ cur.toList.drop (bs.length + (byteCells ns).length)).toArray) := by
      rcases hm with ⟨rfl, rfl⟩ | hm
      · have := run_storeCells_at P g bs.length e (byteCells ns) 0 cur w hg (by omega) (byteCells_one ns)
        simpa using this
      · have := cells_ahead P g bs.length e m0 m1 (byteCells ns) 0 cur w hg (by omega) (by omega) (byteCells_one ns)
        simpa using this
    have hr : (Builtin.append_ #[t, t] ty #[.slice (some ⟨g, 0, none⟩) bs.length cap, .slice (some a) ns.length c]).run P w = .ok (.slice (some ⟨g, 0, none⟩) (bs.length + ns.length) cap) (w.setRow g (cur.toList.take bs.length ++ byteCells ns ++ cur.toList.drop (bs.length + (byteCells ns).length)).toArray) := by
      rw [hsize] at hf
      simp [Builtin.append_, run_underlying ht, sizeOf, typeInfo, hi, hsize, Builtin.lenOf, hroom, hf, Addr.add_lit, hst]
    refine ⟨_, _, hr, ⟨g, cap, _, m0, m1, by rw [List.length_append], hbg, setRow_heap w g cur _ e _ hg, ?_, by rw [List.length_append]; exact hroom, hcm, ?_, ?_⟩, ⟨rfl, rfl, rfl, by simp, fun k _ hk => setRow_other w g k _ (fun e => hk (by simp [Value.ownBlock, e]))⟩⟩
    · rcases hm with hm | hm
      · exact Or.inl hm
      · refine Or.inr ?_
        simp only [List.size_toArray, List.length_append, List.length_take, List.length_drop, Array.length_toList]
        omega
    · simp only [List.size_toArray, List.length_append, List.length_take, List.length_drop, Array.length_toList]
      omega
    · rw [htake, happ, show (bs ++ ns).length = (byteCells bs ++ byteCells ns).length by simp [hnl, hbl]]
      exact List.take_left
  · have holds : ∀ j u, (byteCells bs)[j]? = some u → w.cell? ((⟨g, 0, none⟩ : Addr).add j) = some u := by
      intro j u hu
      have ha : (⟨g, 0, none⟩ : Addr).add j = ⟨g, j, none⟩ := by unfold Addr.add; split <;> simp_all
      rw [ha, cell_of_row w g j cur e (m0, m1) hg]
      rw [← htake, List.getElem?_take] at hu
      split at hu
      · simpa using hu
      · cases hu
    have hr := run_append_grow (P := P) w t ty e i (.int .u8 0) ht hi hz ⟨g, 0, none⟩ bs.length cap (byteCells bs) (by rw [hsize, hbl, Nat.mul_one]) holds a ns.length c (byteCells ns) (by rw [hsize, hnl, Nat.mul_one]) hnews (by omega) (by omega) (growslice_fits (by omega) (by rw [hby]; omega))
    have hge := grownCap_ge w (bs.length + ns.length) cap e
    have hcm2 : grownCap w (bs.length + ns.length) cap e ≤ maxLen := grownCap_le_maxLen w (bs.length + ns.length) cap e hmx
    refine ⟨_, _, hr, ⟨w.heap.size, _, _, 0, 0, by rw [List.length_append], hbase, heap_alloc_new w.drew _, Or.inl ⟨rfl, rfl⟩, by rw [List.length_append]; exact hge, hcm2, ?_, ?_⟩, ⟨rfl, rfl, rfl, by simp, fun k hk _ => Below.heap_alloc w.drew _ k hk⟩⟩
    · have hz1 : (Value.int IntKind.u8 0).cells.size = 1 := rfl
      simp only [Array.size_append, List.size_toArray, size_zeroCells, hz1, hnl, hbl]
      omega
    · simp only [Array.toList_append, List.append_assoc]
      rw [← List.append_assoc, happ, show (bs ++ ns).length = (byteCells bs ++ byteCells ns).length by simp [hnl, hbl]]
      exact List.take_left
end
section
variable {P : Program} {w : World}
theorem wpList_append_mark {ops : Array Oper} {rest : List Oper} {o : Oper} {a : Act} {Q : Exit → Act → World → Prop} (hgd : o.guard = none) (s x : Operand) (t : TypeId)
    (ho : o.op = .call { callee := .builtin .append, args := #[s, x], argTypes := #[t, t] })
    (base : Nat) (e : TypeId) (i : TypeInfo) (ht : P.underlying t = some (.slice e)) (hi : P.info? e = some i) (hz : i.zero = some (.int .u8 0)) (hsize : i.size = 1) (hby : i.bytes = 1)
    (v : Value) (bs : List UInt8) (hs : a.eval s = v) (hown : OwnM w base e v bs) (ad : Addr) (c : Nat) (ns : List UInt8) (hx : a.eval x = .slice (some ad) ns.length c) (hnews : ∀ j u, (byteCells ns)[j]? = some u → w.cell? (ad.add j) = some u)
    (hlen : bs.length + ns.length ≤ 140737488355328) (hbase : base ≤ w.heap.size)
    (h : ∀ v' w', OwnM w' base e v' (bs ++ ns) → w.grownBy w' v.ownBlock → wpList P ops Q rest (a.put o.dst v') w') : wpList P ops Q (o :: rest) a w := by
  refine wpList_plain hgd fun K hK => ?_
  obtain ⟨v', w', hr, h2, h3⟩ := run_append_mark (P := P) w base t o.type e i ht hi hz hsize hby v bs hown ad c ns hnews hlen hbase
  unfold Oper.wp execOp
  simp only [ho, resolve, invoke, builtin, Sem.run_bind, Sem.run_pure, Result.andThen_ok, List.map_toArray, List.map_cons, List.map_nil, hs, hx, hr]
  exact hK _ _ (h v' w' h2 h3)
/-- the conversion's row -/
theorem ownM_new (base : Nat) (e : TypeId) (s : ByteArray) (hb : base ≤ w.heap.size) (hs : s.size ≤ maxLen) : OwnM (bytesWorld w e s) base e (.slice (some ⟨w.heap.size, 0, none⟩) s.size (grownCap w s.size 0 e)) (L s) := by
  have hge := grownCap_ge w s.size 0 e
  have hsz : (bytesCells w e s).size = grownCap w s.size 0 e := by simp [bytesCells]; omega
  refine ⟨w.heap.size, grownCap w s.size 0 e, bytesCells w e s, _, _, by rw [L_len], hb, bytesWorld_at_new w e s, Or.inr (Nat.le_refl _), by rw [L_len]; exact hge, grownCap_le_maxLen w s.size 0 e hs, hsz, ?_⟩
  simp only [bytesCells, Array.toList_append, Array.toList_map]
  rw [List.take_append_of_le_length (by simp [L_len]), List.take_of_length_le (by simp [L_len])]
  rfl
end
end Go.Proofs.Ytghkgclbfjoilaa.Mark
