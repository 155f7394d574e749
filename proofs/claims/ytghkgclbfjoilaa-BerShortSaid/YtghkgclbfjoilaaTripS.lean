/- Of a tree's bytes each beginning is too short; BerShort. -/
import Derived.Test.YtghkgclbfjoilaaTripR
import Derived.Test.YtghkgclbfjoilaaR18
set_option linter.unusedVariables false
set_option linter.unusedSimpArgs false
namespace Go.Proofs.Ytghkgclbfjoilaa.Trip
open Go.RowKit Go.Proofs.YtghkgclbfjoilaaW.PrintWords Go.Proofs.YtghkgclbfjoilaaW.PrintLast Go.Proofs.YtghkgclbfjoilaaW.PrintMore Go.Proofs.Ytghkgclbfjoilaa.Pl Go.Proofs.Ytghkgclbfjoilaa.R Go.Proofs.Ytghkgclbfjoilaa.PureR Go.Proofs.Ytghkgclbfjoilaa.Dec

theorem lenB_long (n : Nat) (h : 128 ≤ n) (hn : n < 16777216) : ∃ (m : Nat) (mb : List UInt8), lenB n = (128 + m).toUInt8 :: mb ∧ mb.length = m ∧ 1 ≤ m ∧ m ≤ 3 ∧ numL mb = n := by
  unfold lenB
  rw [if_neg (by omega)]
  by_cases h2 : n < 256
  · rw [if_pos h2]
    exact ⟨1, _, rfl, rfl, by omega, by omega, by simp [numL, tu]; omega⟩
  rw [if_neg h2]
  by_cases h3 : n < 65536
  · rw [if_pos h3]
    exact ⟨2, _, rfl, rfl, by omega, by omega, by simp [numL, tu]; omega⟩
  rw [if_neg h3]
  exact ⟨3, _, rfl, rfl, by omega, by omega, by simp [numL, tu]; omega⟩
theorem short_head (h n : Nat) (b : List UInt8) (hb : b.length = n) (hh : h < 256) (h31 : h % 32 ≠ 31) (hn : n < 16777216) (k : Nat) (hk : k < (fin h b).length) (h8 : (fin h b).length ≤ 8192) :
    (PureR.totL ((fin h b).take k)).2 = 3 ∨ ((PureR.totL ((fin h b).take k)).2 = 0 ∧ k < (PureR.totL ((fin h b).take k)).1) := by
  have e0 : (h.toUInt8).toNat % 32 ≠ 31 := by rw [tu, Nat.mod_eq_of_lt hh]; exact h31
  unfold fin at hk h8 ⊢
  rw [hb] at hk h8 ⊢
  match k with
  | 0 => exact .inl (by simp [PureR.totL, headL])
  | 1 =>
    left
    rw [List.take_succ_cons, List.take_zero]
    have : headL [h.toUInt8] = (0, 0, 3) := by simp only [headL]; rw [if_neg e0]
    simp [PureR.totL, this]
  | k + 2 =>
    rw [List.take_succ_cons]
    by_cases h1 : n < 128
    · have el : lenB n = [n.toUInt8] := by unfold lenB; rw [if_pos h1]
      rw [el] at hk h8 ⊢
      simp only [List.cons_append, List.nil_append, List.length_cons, hb] at hk h8 ⊢
      rw [List.take_succ_cons]
      have : headL (h.toUInt8 :: n.toUInt8 :: b.take k) = (2, n, 0) := by
        simp only [headL]
        rw [if_neg e0, if_pos (by rw [tu]; omega), tu, Nat.mod_eq_of_lt (by omega)]
      right
      unfold PureR.totL
      rw [this, if_pos rfl, if_neg (by show ¬ 2 + n > 8192; omega)]
      exact ⟨rfl, by show k + 2 < 2 + n; omega⟩
    · obtain ⟨m, mb, e1, e2, e3, e4, e5⟩ := lenB_long n (by omega) hn
      rw [e1] at hk h8 ⊢
      simp only [List.cons_append, List.length_cons, List.length_append, hb, e2] at hk h8 ⊢
      rw [List.take_succ_cons]
      have t1 : ((128 + m).toUInt8).toNat = 128 + m := by rw [tu]; omega
      by_cases hj : k < m
      · left
        have : headL (h.toUInt8 :: (128 + m).toUInt8 :: (mb ++ b).take k) = (0, 0, 3) := by
          simp only [headL]
          rw [if_neg e0, t1, if_neg (by omega), if_neg (by omega), if_pos (by rw [List.length_take, List.length_append]; omega)]
        unfold PureR.totL
        rw [this, if_neg (by decide)]
      · right
        have et : ((mb ++ b).take k).take (128 + m - 128) = mb := by
          rw [List.take_take, show min (128 + m - 128) k = mb.length by omega, List.take_left]
        have : headL (h.toUInt8 :: (128 + m).toUInt8 :: (mb ++ b).take k) = (2 + m, n, 0) := by
          simp only [headL]
          rw [if_neg e0, t1, if_neg (by omega), if_neg (by omega), if_neg (by rw [List.length_take, List.length_append]; omega), et, e5]
          simp
        unfold PureR.totL
        rw [this, if_pos rfl, if_neg (by show ¬ 2 + m + n > 8192; omega)]
        exact ⟨rfl, by show k + 2 < 2 + m + n; omega⟩
theorem dec_short {x : S44} (hok : okT 16 x = true) (hl : (encT x).length ≤ 8192) (k : Nat) (hk : k < (encT x).length) : decF (mk ((encT x).take k)) = (z44, 0, 3) := by
  obtain ⟨h0, h1, h2, h3, _, _⟩ := ok_parts hok
  obtain ⟨c, q, t, s, l⟩ := x
  have hn := headB_nice (k := q) h0 h1 h2 h3
  simp only [encT] at hl hk ⊢
  generalize (if q = true then encTs l else L s) = b at *
  have hfl := fin_len (headB c q t) b
  have := short_head (headB c q t) b.length b rfl hn.1 hn.2.1 (by omega) k hk hl
  unfold decF
  rw [L_mk']
  generalize PureR.totL ((fin (headB c q t) b).take k) = r at *
  obtain ⟨n, cc⟩ := r
  unfold decG
  rcases this with h | ⟨h, h'⟩
  · have : cc = 3 := h
    subst this
    rw [if_pos (show (3 : Nat) ≠ 0 by decide)]
  · have : cc = 0 := h
    subst this
    rw [if_neg (fun h => h rfl), if_pos (by rw [sz_mk, List.length_take]; show _ < n; omega)]
theorem u64_nat (n : Nat) (h : n ≤ 8192) : IntKind.u64.wrap (n : Int) = (n : Int) := by
  rw [IntKind.wrap_u64]; omega
theorem u64_pos (a : Int) : 0 ≤ IntKind.u64.wrap a := by
  rw [IntKind.wrap_u64]; omega
theorem short_true (x : S44) (a1 : Int) (_ : -9223372036854775808 ≤ a1 ∧ a1 ≤ 9223372036854775807) : ∃ k, rollbooklaw25_BerShort.f k x.f0 x.f1 x.f2 x.f3 x.f4 a1 = some true := by
  refine ev_out (g := fun k => rollbooklaw25_BerShort.f k x.f0 x.f1 x.f2 x.f3 x.f4 a1) ?_
  obtain ⟨r, hr, hw⟩ := weigh_ev x 1 0 (by omega) (by omega)
  unfold rollbooklaw25_BerShort.f
  refine Ev.bind awake_ev ?_
  refine Ev.congr (fun k => if_pos rfl) ?_
  refine Ev.bind hr ?_
  by_cases hb : r > 30000
  · exact Ev.congr (fun k => if_pos hb) (Ev.now _)
  refine Ev.congr (fun k => if_neg hb) ?_
  obtain ⟨hw1, _⟩ := hw (by omega)
  refine Ev.bind (Encode_ev x (by omega)) ?_
  by_cases hok : okT 16 x = true
  case neg =>
    rw [if_neg hok]
    exact Ev.congr (fun k => if_neg (by decide)) (Ev.now _)
  rw [if_pos hok]
  by_cases hl : (encT x).length ≤ 8192
  case neg =>
    rw [if_neg hl]
    exact Ev.congr (fun k => if_neg (by decide)) (Ev.now _)
  rw [if_pos hl]
  refine Ev.congr (fun k => if_pos rfl) ?_
  have hp := encT_pos x
  have hsz : (⟨(encT x).toArray⟩ : ByteArray).size = (encT x).length := size_mk _
  simp only [hsz]
  rw [u64_nat _ hl]
  have hu := u64_pos a1
  generalize IntKind.u64.wrap a1 = u at *
  obtain ⟨u, rfl⟩ := Int.eq_ofNat_of_zero_le hu
  have em : Int.tmod (u : Int) ((encT x).length : Int) = ((u % (encT x).length : Nat) : Int) := rfl
  have hlt : u % (encT x).length < (encT x).length := Nat.mod_lt _ (by omega)
  rw [em, wW _ (by omega) (by omega)]
  generalize u % (encT x).length = j at *
  refine Ev.congr (fun k => if_neg (by omega)) ?_
  refine Ev.congr (fun k => if_pos (by omega)) ?_
  refine Ev.congr (fun k => if_pos (by omega)) ?_
  have hcut : (⟨(encT x).toArray⟩ : ByteArray).extract 0 (j : Int).toNat = mk ((encT x).take j) := by
    apply L_ext
    rw [Int.toNat_natCast, L_to, L_mk, L_mk']
  have hd : ∀ k, ber_Decode.f k (mk ((encT x).take j)) = some (0, false, 0, (⟨#[]⟩ : ByteArray), ([] : List S44), 0, 3) := by
    intro k
    rw [decode_f k _ (by rw [sz_mk, List.length_take]; omega), dec_short hok hl j hlt]
    rfl
  rw [hcut]
  refine Ev.bind (g := fun k => ber_Decode.f k (mk ((encT x).take j))) ⟨0, fun k _ => hd k⟩ ?_
  refine Ev.congr (fun k => if_pos rfl) ?_
  refine Ev.congr (fun k => if_pos rfl) ?_
  exact Ev.bind (f := fun _ t => some t) (same_ev z44 (by decide)) (Ev.now _)
end Go.Proofs.Ytghkgclbfjoilaa.Trip
