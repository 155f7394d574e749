/- A value's head, as the program reads it and as the document does: plain facts. -/
import Derived.Test.YtghkgclbfjoilaaDoorR4
import Derived.Test.YtghkgclbfjoilaaDoorR5
import Derived.Test.YtghkgclbfjoilaaDoorPl
import Derived.Lib.Hide
set_option linter.unusedVariables false
set_option linter.unusedSimpArgs false
namespace Go.Proofs.YtghkgclbfjoilaaDoor.PureR
open Go.RowKit Go.Proofs.YtghkgclbfjoilaaDoor.R Go.Proofs.YtghkgclbfjoilaaDoorW.PrintWords Go.Proofs.YtghkgclbfjoilaaDoorW.PrintLast Go.Proofs.YtghkgclbfjoilaaDoorW.PrintMore Go.Proofs.YtghkgclbfjoilaaDoor.Pl

def numL (l : List UInt8) : Nat := l.foldl (fun n b => n * 256 + b.toNat) 0
/-- where the body begins, how many bytes it has, what is amiss -/
def headL : List UInt8 → Nat × Nat × Nat
  | [] => (0, 0, 3)
  | a :: r => if a.toNat % 32 = 31 then (0, 0, 4) else match r with
    | [] => (0, 0, 3)
    | b :: q => if b.toNat < 128 then (2, b.toNat, 0) else if b.toNat = 128 ∨ 132 < b.toNat then (0, 0, 4) else if q.length < b.toNat - 128 then (0, 0, 3) else (2 + (b.toNat - 128), numL (q.take (b.toNat - 128)), 0)
def headI (l : List UInt8) : Int × Int × Int := ((headL l).1, (headL l).2.1, (headL l).2.2)
def totL (l : List UInt8) : Nat × Nat := if (headL l).2.2 = 0 then (if (headL l).1 + (headL l).2.1 > 8192 then (0, 5) else ((headL l).1 + (headL l).2.1, 0)) else (0, (headL l).2.2)
def totI (l : List UInt8) : Int × Int := ((totL l).1, (totL l).2)

theorem numL_lt (l : List UInt8) : numL l < 256 ^ l.length := by
  have : ∀ (l : List UInt8) (n m : Nat), n < 256 ^ m → l.foldl (fun n b => n * 256 + b.toNat) n < 256 ^ (m + l.length) := by
    intro l
    induction l with
    | nil => intro n m h; simpa using h
    | cons b l ih =>
      intro n m h
      have hb := b.toNat_lt
      have := ih (n * 256 + b.toNat) (m + 1) (by rw [Nat.pow_succ]; omega)
      simpa [Nat.add_assoc, Nat.add_comm, Nat.add_left_comm] using this
  simpa [numL] using this l 0 0 (by simp)
theorem numL_snoc (l : List UInt8) (b : UInt8) : numL (l ++ [b]) = numL l * 256 + b.toNat := by simp [numL]

theorem and31 : ∀ b : Fin 256, Go.bits .and .u8 (b.1 : Int) 31 = ((b.1 % 32 : Nat) : Int) := by decide +kernel
theorem and31' (b : UInt8) : Go.bits .and .u8 (b.toNat : Int) 31 = ((b.toNat % 32 : Nat) : Int) := and31 ⟨b.toNat, b.toNat_lt⟩
theorem clr128 : ∀ b : Fin 256, 128 ≤ b.1 → Go.bits .andNot .u8 (b.1 : Int) 128 = ((b.1 - 128 : Nat) : Int) := by decide +kernel
theorem clr128' (b : UInt8) (h : 128 ≤ b.toNat) : Go.bits .andNot .u8 (b.toNat : Int) 128 = ((b.toNat - 128 : Nat) : Int) := clr128 ⟨b.toNat, b.toNat_lt⟩ h
theorem wN (n : Nat) (h : n ≤ 1000000000000) : wrap64 (n : Int) = (n : Int) := w64 (by omega) (by omega)
theorem wN2 (n : Nat) (h : n ≤ 1000000000000) : wrap64 (2 + (n : Int)) = ((2 + n : Nat) : Int) := by rw [w64 (by omega) (by omega)]; omega
theorem wN1 (n : Nat) (h : n ≤ 1000000000000) : wrap64 ((n : Int) + 1) = ((n + 1 : Nat) : Int) := by rw [w64 (by omega) (by omega)]; omega
theorem or256 (n b : Nat) (hn : n < 16777216) (hb : b < 256) : Go.bits .or .i64 (wrap64 ((n : Int) * 256)) (wrap64 (b : Int)) = ((n * 256 + b : Nat) : Int) := by
  have e := bits_join .i64 62 (by decide) (fun n h0 h1 => by rw [IntKind.wrap_i64]; omega) 8 ((n : Int) * 256) (b : Int) (by omega) (by omega) (by omega) (by omega) (by omega) (by omega)
  rw [w64 (x := (n : Int) * 256) (by omega) (by omega), wN b (by omega), e]; omega
theorem add256 (n b : Nat) (hn : n < 16777216) (hb : b < 256) : wrap64 (wrap64 ((n : Int) * 256) + wrap64 (b : Int)) = ((n * 256 + b : Nat) : Int) := by
  rw [w64 (x := (n : Int) * 256) (by omega) (by omega), wN b (by omega), w64 (by omega) (by omega)]; omega

theorem num_step (q : List UInt8) (i k : Nat) (hi : i < k) (hk : k ≤ 4) (hq : k ≤ q.length) : numL (q.take i) < 16777216 ∧ numL (q.take (i + 1)) = numL (q.take i) * 256 + (q.getD i 0).toNat := by
  constructor
  · have h1 := numL_lt (q.take i)
    rw [List.length_take, show min i q.length = i by omega] at h1
    exact Nat.lt_of_lt_of_le h1 (Nat.le_trans (Nat.pow_le_pow_right (by decide) (show i ≤ 3 by omega)) (by decide))
  · rw [List.take_succ_eq_append_getElem (by omega), numL_snoc, List.getD_eq_getElem?_getD, List.getElem?_eq_getElem (by omega)]; rfl
theorem bt_two (s : ByteArray) (a b : UInt8) (q : List UInt8) (h : L s = a :: b :: q) (i : Nat) : bt s ((2 + i : Nat) : Int) = ((q.getD i 0).toNat : Int) := by
  rw [bt_get, h, show 2 + i = i + 1 + 1 by omega]; rfl

theorem head_loop (s : ByteArray) (a b : UInt8) (q : List UInt8) (h : L s = a :: b :: q) (k : Nat) (hk : k ≤ 4) (hq : k ≤ q.length) :
    ∀ (d i : Nat), i + d = k → Ev (fun r => ber_head.l0 r s (k : Int) ((numL (q.take i) : Nat) : Int) (k : Int) (i : Int)) (((2 + k : Nat) : Int), ((numL (q.take k) : Nat) : Int), 0) := by
  have hl : s.size = q.length + 2 := by rw [← L_len, h]; rfl
  intro d
  induction d with
  | zero =>
    intro i hi
    obtain rfl : i = k := by omega
    refine Ev.step (f := fun r => some _) (fun r => ?_) (Ev.now _)
    simp only [ber_head.l0]
    rw [if_neg (by omega), wN2 _ (by omega)]
  | succ d ih =>
    intro i hi
    obtain ⟨h1, h2⟩ := num_step q i k (by omega) hk hq
    have h3 := ih (i + 1) (by omega)
    rw [h2] at h3
    have g1 : (i : Int) < (k : Int) := by omega
    have g2 : (0 : Int) ≤ ((2 + i : Nat) : Int) := by omega
    have g3 : ((2 + i : Nat) : Int) < (s.size : Int) := by omega
    refine Ev.step (fun r => ?_) h3
    simp only [ber_head.l0]
    rw [if_pos g1, wN2 i (by omega), if_pos g2, if_pos g3, bt_two s a b q h i, or256 _ _ h1 (UInt8.toNat_lt _), wN1 i (by omega)]
set_option maxRecDepth 100000 in
theorem head_ev (s : ByteArray) (hs : s.size ≤ 1000000000) : Ev (fun k => ber_head.f k s) (headI (L s)) := by
  unfold headI
  cases hL : L s with
  | nil =>
    refine Ev.congr (fun k => ?_) (Ev.now _)
    unfold ber_head.f
    rw [if_pos (by rw [toL]; exact hL)]; rfl
  | cons a r =>
    have hne : ¬ s.toList = ([] : List UInt8) := by rw [toL, hL]; simp
    have hsz : s.size = r.length + 1 := by rw [← L_len, hL]; rfl
    have h0 : bt s 0 = (a.toNat : Int) := by have := bt_get s 0; rw [hL] at this; exact this
    have g0 : (0 : Int) < (s.size : Int) := by omega
    by_cases ha : a.toNat % 32 = 31
    · refine Ev.congr (fun k => ?_) (Ev.now _)
      unfold ber_head.f
      rw [if_neg hne, if_pos g0, h0, and31', if_pos (by omega)]
      simp [headL, ha]
    · have ha' : ¬ ((a.toNat % 32 : Nat) : Int) = 31 := by omega
      cases r with
      | nil =>
        have g1 : (s.size : Int) < 2 := by simp at hsz; omega
        refine Ev.congr (fun k => ?_) (Ev.now _)
        unfold ber_head.f
        rw [if_neg hne, if_pos g0, h0, and31', if_neg ha', if_pos g1]
        simp [headL, ha]
      | cons b q =>
        have hsz2 : s.size = q.length + 2 := by rw [hsz]; rfl
        have h1 : bt s 1 = (b.toNat : Int) := by have := bt_get s 1; rw [hL] at this; exact this
        have g1 : ¬ (s.size : Int) < 2 := by omega
        have g2 : (1 : Int) < (s.size : Int) := by omega
        have hb := b.toNat_lt
        by_cases hb1 : b.toNat < 128
        · refine Ev.congr (fun k => ?_) (Ev.now _)
          unfold ber_head.f
          rw [if_neg hne, if_pos g0, h0, and31', if_neg ha', if_neg g1, if_pos g2, h1, if_pos (by omega), wN _ (by omega)]
          simp [headL, ha, hb1]
        · have hc := clr128' b (by omega)
          have g3 : ¬ (b.toNat : Int) < 128 := by omega
          have j4 : ∀ (n : Int), Ev (fun k => ber_head.j0 k s n true) (0, 0, 4) := fun n => Ev.step (f := fun _ => some (0, 0, 4)) (fun k => by simp [ber_head.j0]) (Ev.now _)
          by_cases hk0 : b.toNat = 128
          · have g4 : ((b.toNat - 128 : Nat) : Int) = 0 := by omega
            refine Ev.congr (fun k => ?_) (j4 ((b.toNat - 128 : Nat) : Int) |> fun h => by simpa [headL, ha, hb1, hk0] using h)
            unfold ber_head.f
            rw [if_neg hne, if_pos g0, h0, and31', if_neg ha', if_neg g1, if_pos g2, h1, if_neg g3, hc, wN _ (by omega), if_pos g4, hk0]; rfl
          · have g4 : ¬ ((b.toNat - 128 : Nat) : Int) = 0 := by omega
            have hgo : ∀ k, ber_head.f k s = ber_head.j0 k s ((b.toNat - 128 : Nat) : Int) (decide (((b.toNat - 128 : Nat) : Int) > 4)) := by
              intro k
              unfold ber_head.f
              rw [if_neg hne, if_pos g0, h0, and31', if_neg ha', if_neg g1, if_pos g2, h1, if_neg g3, hc, wN _ (by omega), if_neg g4]
            refine Ev.congr hgo ?_
            by_cases hk4 : 132 < b.toNat
            · have g5 : (decide (((b.toNat - 128 : Nat) : Int) > 4)) = true := by simp; omega
              rw [g5]
              have : headL (a :: b :: q) = (0, 0, 4) := by simp [headL, ha, hb1, hk0, hk4]
              rw [this]; exact j4 _
            · have g5 : (decide (((b.toNat - 128 : Nat) : Int) > 4)) = false := by simp; omega
              rw [g5]
              by_cases hq : q.length < b.toNat - 128
              · have g6 : (s.size : Int) < ((2 + (b.toNat - 128) : Nat) : Int) := by omega
                refine Ev.step (f := fun _ => some (0, 0, 3)) (fun k => ?_) ?_
                · simp only [ber_head.j0]
                  rw [if_neg (by simp), wN2 _ (by omega), if_pos g6]
                · have : headL (a :: b :: q) = (0, 0, 3) := by simp [headL, ha, hb1, hk0, hk4, hq]
                  rw [this]; exact Ev.now _
              · have g6 : ¬ (s.size : Int) < ((2 + (b.toNat - 128) : Nat) : Int) := by omega
                have hloop := head_loop s a b q hL (b.toNat - 128) (by omega) (by omega) (b.toNat - 128) 0 (by omega)
                refine Ev.step (fun k => ?_) (by
                  have : headL (a :: b :: q) = (2 + (b.toNat - 128), numL (q.take (b.toNat - 128)), 0) := by simp [headL, ha, hb1, hk0, hk4, hq]
                  rw [this]; exact hloop)
                simp only [ber_head.j0]
                rw [if_neg (by simp), wN2 _ (by omega), if_neg g6]
                rfl
set_option maxRecDepth 100000 in
theorem headL_bound (l : List UInt8) : (headL l).1 ≤ 6 ∧ (headL l).2.1 < 4294967296 ∧ ((headL l).2.2 = 0 ∨ (headL l).2.2 = 3 ∨ (headL l).2.2 = 4) ∧ ((headL l).2.2 = 0 → 2 ≤ (headL l).1) := by
  match l with
  | [] => simp [headL]
  | [a] => simp only [headL]; split <;> simp
  | a :: b :: q =>
    have hb := b.toNat_lt
    simp only [headL]
    split
    · simp
    · split
      · simp; omega
      · split
        · simp
        · split
          · simp
          · rename_i h1 h2 h3
            have h4 := numL_lt (q.take (b.toNat - 128))
            rw [List.length_take, show min (b.toNat - 128) q.length = b.toNat - 128 by omega] at h4
            have h5 : numL (q.take (b.toNat - 128)) < 4294967296 := Nat.lt_of_lt_of_le h4 (Nat.le_trans (Nat.pow_le_pow_right (by decide) (show b.toNat - 128 ≤ 4 by omega)) (by decide))
            exact ⟨by show 2 + (b.toNat - 128) ≤ 6; omega, h5, Or.inl rfl, fun _ => by show 2 ≤ 2 + (b.toNat - 128); omega⟩
theorem length_ev (s : ByteArray) (hs : s.size ≤ 1000000000) : Ev (fun k => ber_Length.f k s) (totI (L s)) := by
  unfold ber_Length.f
  refine Ev.bind (head_ev s hs) ?_
  obtain ⟨h1, h2, h3, _⟩ := headL_bound (L s)
  unfold totI totL headI
  dsimp only
  generalize headL (L s) = x at *
  obtain ⟨at_, n, e⟩ := x
  dsimp only at *
  by_cases he : e = 0
  · have g1 : (e : Int) = 0 := by omega
    have w1 : wrap64 (8192 - (at_ : Int)) = 8192 - (at_ : Int) := w64 (by omega) (by omega)
    have w2 : wrap64 ((at_ : Int) + (n : Int)) = ((at_ + n : Nat) : Int) := by rw [w64 (by omega) (by omega)]; omega
    simp only [if_pos g1, if_pos he, w1, w2]
    by_cases hn : at_ + n > 8192
    · simp only [if_pos hn, if_pos (show (n : Int) > 8192 - (at_ : Int) by omega)]; exact Ev.now _
    · simp only [if_neg hn, if_neg (show ¬ (n : Int) > 8192 - (at_ : Int) by omega)]; exact Ev.now _
  · have g1 : ¬ (e : Int) = 0 := by omega
    simp only [if_neg g1, if_neg he]; exact Ev.now _

/-! the document's -/
theorem refHead_loop (s : ByteArray) (a b : UInt8) (q : List UInt8) (h : L s = a :: b :: q) (k : Nat) (hk : k ≤ 4) (hq : k ≤ q.length) :
    ∀ (d i : Nat), i + d = k → Ev (fun r => rollbookref25_Head.l0 r s ((numL (q.take i) : Nat) : Int) (k : Int) (i : Int)) (((2 + k : Nat) : Int), ((numL (q.take k) : Nat) : Int), 0) := by
  have hl : s.size = q.length + 2 := by rw [← L_len, h]; rfl
  intro d
  induction d with
  | zero =>
    intro i hi
    obtain rfl : i = k := by omega
    refine Ev.step (f := fun r => some _) (fun r => ?_) (Ev.now _)
    simp only [rollbookref25_Head.l0]
    rw [if_neg (by omega), wN2 _ (by omega)]
  | succ d ih =>
    intro i hi
    obtain ⟨h1, h2⟩ := num_step q i k (by omega) hk hq
    have h3 := ih (i + 1) (by omega)
    rw [h2] at h3
    have g1 : (i : Int) < (k : Int) := by omega
    have g2 : (0 : Int) ≤ ((2 + i : Nat) : Int) := by omega
    have g3 : ((2 + i : Nat) : Int) < (s.size : Int) := by omega
    refine Ev.step (fun r => ?_) h3
    simp only [rollbookref25_Head.l0]
    rw [if_pos g1, wN2 i (by omega), if_pos g2, if_pos g3, bt_two s a b q h i, add256 _ _ h1 (UInt8.toNat_lt _), wN1 i (by omega)]
set_option maxRecDepth 100000 in
theorem refHead_ev (s : ByteArray) (hs : s.size ≤ 1000000000) : Ev (fun k => rollbookref25_Head.f k s) (headI (L s)) := by
  unfold headI
  have j4 : Ev (fun k => rollbookref25_Head.j0 k s true) (0, 0, 4) := Ev.step (f := fun _ => some (0, 0, 4)) (fun k => by simp [rollbookref25_Head.j0]) (Ev.now _)
  cases hL : L s with
  | nil =>
    have hsz : s.size = 0 := by rw [← L_len, hL]; rfl
    have g0 : ¬ (s.size : Int) ≥ 1 := by omega
    have g1 : (s.size : Int) < 2 := by omega
    refine Ev.congr (fun k => ?_) (Ev.step (g := fun k => rollbookref25_Head.j0 k s false) (f := fun _ => some (0, 0, 3)) (fun k => ?_) (Ev.now _))
    · unfold rollbookref25_Head.f
      rw [if_neg g0]
    · simp only [rollbookref25_Head.j0]
      rw [if_neg (by simp), if_pos g1]
  | cons a r =>
    have hsz : s.size = r.length + 1 := by rw [← L_len, hL]; rfl
    have h0 : bt s 0 = (a.toNat : Int) := by have := bt_get s 0; rw [hL] at this; exact this
    have g0 : (0 : Int) < (s.size : Int) := by omega
    have g0' : (s.size : Int) ≥ 1 := by omega
    have hm : Int.tmod (a.toNat : Int) 32 = ((a.toNat % 32 : Nat) : Int) := by rw [Int.tmod_eq_emod_of_nonneg (by omega)]; omega
    by_cases ha : a.toNat % 32 = 31
    · have : headL (a :: r) = (0, 0, 4) := by simp [headL, ha]
      rw [this]
      refine Ev.congr (fun k => ?_) j4
      unfold rollbookref25_Head.f
      rw [if_pos g0', if_pos g0, h0, hm, ha]; rfl
    · have hbq : (((a.toNat % 32 : Nat) : Int) == 31) = false := by rw [beq_eq_false_iff_ne]; omega
      have hf : ∀ k, rollbookref25_Head.f k s = rollbookref25_Head.j0 k s false := by
        intro k
        unfold rollbookref25_Head.f
        rw [if_pos g0', if_pos g0, h0, hm, hbq]
      refine Ev.congr hf ?_
      cases r with
      | nil =>
        have g1 : (s.size : Int) < 2 := by simp at hsz; omega
        have : headL [a] = (0, 0, 3) := by simp [headL, ha]
        rw [this]
        refine Ev.step (f := fun _ => some (0, 0, 3)) (fun k => ?_) (Ev.now _)
        simp only [rollbookref25_Head.j0]
        rw [if_neg (by simp), if_pos g1]
      | cons b q =>
        have hsz2 : s.size = q.length + 2 := by rw [hsz]; rfl
        have h1 : bt s 1 = (b.toNat : Int) := by have := bt_get s 1; rw [hL] at this; exact this
        have g1 : ¬ (s.size : Int) < 2 := by omega
        have g2 : (1 : Int) < (s.size : Int) := by omega
        have hb := b.toNat_lt
        have hwb : wrap64 (b.toNat : Int) = (b.toNat : Int) := wN _ (by omega)
        by_cases hb1 : b.toNat < 128
        · have : headL (a :: b :: q) = (2, b.toNat, 0) := by simp [headL, ha, hb1]
          rw [this]
          refine Ev.step (f := fun _ => some (2, (b.toNat : Int), 0)) (fun k => ?_) (Ev.now _)
          simp only [rollbookref25_Head.j0]
          rw [if_neg (by simp), if_neg g1, if_pos g2, h1, hwb, if_pos (by omega)]
        · have g3 : ¬ (b.toNat : Int) < 128 := by omega
          have hw2 : wrap64 ((b.toNat : Int) - 128) = ((b.toNat - 128 : Nat) : Int) := by rw [w64 (by omega) (by omega)]; omega
          have j14 : ∀ (n : Int), Ev (fun k => rollbookref25_Head.j1 k s n true) (0, 0, 4) := fun n => Ev.step (f := fun _ => some (0, 0, 4)) (fun k => by simp [rollbookref25_Head.j1]) (Ev.now _)
          by_cases hk0 : b.toNat = 128
          · have g4 : ((b.toNat - 128 : Nat) : Int) < 1 := by omega
            have : headL (a :: b :: q) = (0, 0, 4) := by simp [headL, ha, hb1, hk0]
            rw [this]
            refine Ev.step (fun k => ?_) (j14 ((b.toNat - 128 : Nat) : Int))
            simp only [rollbookref25_Head.j0]
            rw [if_neg (by simp), if_neg g1, if_pos g2, h1, hwb, if_neg g3, hw2, if_pos g4]
          · have g4 : ¬ ((b.toNat - 128 : Nat) : Int) < 1 := by omega
            refine Ev.step (f := fun k => rollbookref25_Head.j1 k s ((b.toNat - 128 : Nat) : Int) (decide (((b.toNat - 128 : Nat) : Int) > 4))) (fun k => ?_) ?_
            · simp only [rollbookref25_Head.j0]
              rw [if_neg (by simp), if_neg g1, if_pos g2, h1, hwb, if_neg g3, hw2, if_neg g4]
            · by_cases hk4 : 132 < b.toNat
              · have g5 : (decide (((b.toNat - 128 : Nat) : Int) > 4)) = true := by simp; omega
                rw [g5]
                have : headL (a :: b :: q) = (0, 0, 4) := by simp [headL, ha, hb1, hk0, hk4]
                rw [this]; exact j14 _
              · have g5 : (decide (((b.toNat - 128 : Nat) : Int) > 4)) = false := by simp; omega
                rw [g5]
                by_cases hq : q.length < b.toNat - 128
                · have g6 : (s.size : Int) < ((2 + (b.toNat - 128) : Nat) : Int) := by omega
                  refine Ev.step (f := fun _ => some (0, 0, 3)) (fun k => ?_) ?_
                  · simp only [rollbookref25_Head.j1]
                    rw [if_neg (by simp), wN2 _ (by omega), if_pos g6]
                  · have : headL (a :: b :: q) = (0, 0, 3) := by simp [headL, ha, hb1, hk0, hk4, hq]
                    rw [this]; exact Ev.now _
                · have g6 : ¬ (s.size : Int) < ((2 + (b.toNat - 128) : Nat) : Int) := by omega
                  have hloop := refHead_loop s a b q hL (b.toNat - 128) (by omega) (by omega) (b.toNat - 128) 0 (by omega)
                  refine Ev.step (fun k => ?_) (by
                    have : headL (a :: b :: q) = (2 + (b.toNat - 128), numL (q.take (b.toNat - 128)), 0) := by simp [headL, ha, hb1, hk0, hk4, hq]
                    rw [this]; exact hloop)
                  simp only [rollbookref25_Head.j1]
                  rw [if_neg (by simp), wN2 _ (by omega), if_neg g6]
                  rfl
theorem total_ev (s : ByteArray) (hs : s.size ≤ 1000000000) : Ev (fun k => rollbookref25_Total.f k s) (totI (L s)) := by
  unfold rollbookref25_Total.f
  refine Ev.bind (refHead_ev s hs) ?_
  obtain ⟨h1, h2, h3, _⟩ := headL_bound (L s)
  unfold totI totL headI
  dsimp only
  generalize headL (L s) = x at *
  obtain ⟨at_, n, e⟩ := x
  dsimp only at *
  by_cases he : e = 0
  · have g1 : (e : Int) = 0 := by omega
    have w2 : wrap64 ((at_ : Int) + (n : Int)) = ((at_ + n : Nat) : Int) := by rw [w64 (by omega) (by omega)]; omega
    simp only [if_pos g1, if_pos he, w2]
    by_cases hn : at_ + n > 8192
    · simp only [if_pos hn, if_pos (show ((at_ + n : Nat) : Int) > 8192 by omega)]; exact Ev.now _
    · simp only [if_neg hn, if_neg (show ¬ ((at_ + n : Nat) : Int) > 8192 by omega)]; exact Ev.now _
  · have g1 : ¬ (e : Int) = 0 := by omega
    simp only [if_neg g1, if_neg he]; exact Ev.now _
end Go.Proofs.YtghkgclbfjoilaaDoor.PureR
