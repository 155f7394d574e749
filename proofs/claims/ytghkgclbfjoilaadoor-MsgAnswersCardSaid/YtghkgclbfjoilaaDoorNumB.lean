/- Numbers, plainly: what ber.Number and the document's Number read; what ber.OfNumber lays. -/
import Derived.Test.YtghkgclbfjoilaaDoorR1
import Derived.Test.YtghkgclbfjoilaaDoorR6
import Derived.Test.YtghkgclbfjoilaaDoorPl
import Derived.Laws.BitsLemmas
set_option linter.unusedVariables false
set_option linter.unusedSimpArgs false
namespace Go.Proofs.YtghkgclbfjoilaaDoor.R
open Go.RowKit Go.Proofs.YtghkgclbfjoilaaDoorW.PrintWords Go.Proofs.YtghkgclbfjoilaaDoorW.PrintLast Go.Proofs.YtghkgclbfjoilaaDoorW.PrintMore Go.Proofs.YtghkgclbfjoilaaDoor.Pl

theorem orBig (x : Int) (b : Nat) (hx : x % 256 = 0) (h0 : -9223372036854775808 ≤ x) (h1 : x ≤ 9223372036854775807) (hb : b < 256) : Go.bits .or .i64 x (b : Int) = x + b := by
  obtain ⟨a, ha⟩ : ∃ a : Nat, x % 18446744073709551616 = (a : Int) := ⟨(x % 18446744073709551616).toNat, by omega⟩
  have e : BitVec.ofInt 64 x = BitVec.ofInt 64 (a : Int) := by
    apply BitVec.eq_of_toNat_eq
    rw [BitVec.toNat_ofInt, BitVec.toNat_ofInt]
    congr 1
    show x % 18446744073709551616 = (a : Int) % 18446744073709551616
    omega
  have e2 : Go.bits .or .i64 x (b : Int) = Go.bits .or .i64 (a : Int) (b : Int) := by
    show IntKind.i64.wrap _ = IntKind.i64.wrap _
    rw [show BitVec.ofInt IntKind.i64.bits x = BitVec.ofInt IntKind.i64.bits (a : Int) from e]
  rw [e2]
  have e3 : a ||| b = a + b := by
    have hq : a = 2 ^ 8 * (a / 2 ^ 8) := by omega
    rw [hq, ← Nat.two_pow_add_eq_or_of_lt (by omega) (a / 2 ^ 8)]
  have e4 : Go.bits .or .i64 (a : Int) (b : Int) = IntKind.i64.wrap ((a + b : Nat) : Int) := by
    rw [← e3]
    show IntKind.i64.wrap _ = _
    congr 1
    show ((BitVec.ofInt 64 (a : Int) ||| BitVec.ofInt 64 (b : Int)).toNat : Int) = _
    rw [BitVec.toNat_or, BitVec.ofInt_natCast, BitVec.ofInt_natCast, BitVec.toNat_ofNat, BitVec.toNat_ofNat, Nat.mod_eq_of_lt (by omega), Nat.mod_eq_of_lt (by omega)]
  rw [e4, IntKind.wrap_i64]
  omega

/-- what bytes read behind n come to -/
def val (n : Int) (l : List UInt8) : Int := l.foldl (fun n b => n * 256 + b.toNat) n
def canon (l : List UInt8) : Bool := match l with
  | [] => false
  | [_] => true
  | a :: b :: q => decide (q.length ≤ 6) && !(a.toNat == 0 && decide (b.toNat < 128)) && !(a.toNat == 255 && decide (128 ≤ b.toNat))
def sign (l : List UInt8) : Int := match l with
  | [] => 0
  | a :: q => val (if a.toNat < 128 then (a.toNat : Int) else a.toNat - 256) q
def numP (cons : Bool) (l : List UInt8) : Int × Int := if cons = false ∧ canon l = true then (sign l, 0) else (0, 4)

theorem u64w (n : Int) : IntKind.u64.wrap n = n % 18446744073709551616 := by simp [IntKind.wrap, IntKind.bits, IntKind.signed]
theorem ref_add (n : Int) (b : Nat) (hb : b < 256) : IntKind.u64.wrap (IntKind.u64.wrap (n % 18446744073709551616 * 256) + IntKind.u64.wrap (b : Int)) = (n * 256 + b) % 18446744073709551616 := by
  rw [u64w, u64w, u64w]; omega
theorem wB (n : Nat) (h : n < 256) : wrap64 (n : Int) = (n : Int) := w64 (by omega) (by omega)
theorem wI (n : Nat) (h : n < 100) : wrap64 ((n : Int) + 1) = ((n + 1 : Nat) : Int) := by rw [w64 (by omega) (by omega)]; omega
theorem pow_le7 (i : Nat) (h : i ≤ 6) : (1 : Int) ≤ 256 ^ i ∧ (256 : Int) ^ i ≤ 281474976710656 := by
  have : ∀ j : Fin 7, (1 : Int) ≤ 256 ^ j.1 ∧ (256 : Int) ^ j.1 ≤ 281474976710656 := by decide
  exact this ⟨i, by omega⟩
theorem get_at (s : ByteArray) (i : Nat) (h : i < (L s).length) : bt s (i : Int) = (((L s)[i]'h).toNat : Int) := by
  rw [bt_get, List.getD_eq_getElem?_getD, List.getElem?_eq_getElem h]; rfl

theorem prog_loop (s : ByteArray) (hs : (L s).length ≤ 8) : ∀ (d i : Nat) (n : Int), i + 1 + d = (L s).length → -(128 * 256 ^ i) ≤ n → n < 128 * 256 ^ i →
    Ev (fun k => ber_Number.l0 k s n ((i + 1 : Nat) : Int)) (val n ((L s).drop (i + 1)), 0) ∧ True := by
  have hl : s.size = (L s).length := (L_len s).symm
  intro d
  induction d with
  | zero =>
    intro i n hi h0 h1
    have hp := pow_le7 (i - 1) (by omega)
    have hn : -9223372036854775808 ≤ n ∧ n ≤ 9223372036854775807 := by
      have hp7 : (256 : Int) ^ i ≤ 72057594037927936 := by
        have : ∀ j : Fin 8, (256 : Int) ^ j.1 ≤ 72057594037927936 := by decide
        exact this ⟨i, by omega⟩
      omega
    rw [List.drop_eq_nil_of_le (by omega)]
    have g : ¬ ((i + 1 : Nat) : Int) < (s.size : Int) := by omega
    constructor
    · refine Ev.step (f := fun r => some (n, 0)) (fun r => ?_) (Ev.now _)
      simp only [ber_Number.l0]
      rw [if_neg g]
    · trivial
  | succ d ih =>
    intro i n hi h0 h1
    have hlt : i + 1 < (L s).length := by omega
    have hp := pow_le7 i (by omega)
    have hb := ((L s)[i + 1]'hlt).toNat_lt
    have hps : (256 : Int) ^ (i + 1) = 256 * 256 ^ i := by rw [Int.pow_succ]; omega
    have h3 := ih (i + 1) (n * 256 + ((L s)[i + 1]'hlt).toNat) (by omega) (by omega) (by omega)
    have g1 : ((i + 1 : Nat) : Int) < (s.size : Int) := by omega
    have g2 : (0 : Int) ≤ ((i + 1 : Nat) : Int) := by omega
    have hbt := get_at s (i + 1) hlt
    rw [List.drop_eq_getElem_cons hlt]
    constructor
    · refine Ev.step (fun r => ?_) h3.1
      simp only [ber_Number.l0]
      rw [if_pos g1, if_pos g2, hbt, wB _ hb, w64 (x := n * 256) (by omega) (by omega), orBig _ _ (by omega) (by omega) (by omega) hb, wI _ (by omega)]
    · trivial

theorem bt0_at (s : ByteArray) (a : UInt8) (q : List UInt8) (h : L s = a :: q) : bt s 0 = (a.toNat : Int) := by have := bt_get s 0; rw [h] at this; exact this
theorem bt1_at (s : ByteArray) (a b : UInt8) (q : List UInt8) (h : L s = a :: b :: q) : bt s 1 = (b.toNat : Int) := by have := bt_get s 1; rw [h] at this; exact this
theorem i8s : ∀ n : Fin 256, wrap64 (IntKind.i8.wrap (n.1 : Int)) = if n.1 < 128 then (n.1 : Int) else n.1 - 256 := by decide +kernel
theorem tdiv128 : ∀ n : Fin 256, Int.tdiv (n.1 : Int) 128 % 256 = if n.1 < 128 then 0 else 1 := by decide +kernel

theorem j1_ev (s : ByteArray) (a : UInt8) (q : List UInt8) (h : L s = a :: q) (hs : (L s).length ≤ 8) :
    Ev (fun k => ber_Number.j1 k s false) (sign (L s), 0) ∧ True := by
  have hl : s.size = q.length + 1 := by rw [← L_len, h]; rfl
  have g0 : (0 : Int) < (s.size : Int) := by omega
  have h0 := bt0_at s a q h
  have ha := a.toNat_lt
  have hp := prog_loop s hs ((L s).length - 1) 0 (if a.toNat < 128 then (a.toNat : Int) else a.toNat - 256) (by rw [h]; simp; omega) (by split <;> omega) (by split <;> omega)
  have e : (L s).drop 1 = q := by rw [h]; rfl
  rw [e] at hp
  have es : sign (L s) = val (if a.toNat < 128 then (a.toNat : Int) else a.toNat - 256) q := by rw [h]; rfl
  rw [es]
  constructor
  · refine Ev.step (fun r => ?_) hp.1
    simp only [ber_Number.j1]
    rw [if_neg (by decide), if_pos g0, h0, i8s ⟨a.toNat, ha⟩]
    rfl
  · trivial

theorem j1_true (s : ByteArray) : Ev (fun k => ber_Number.j1 k s true) (0, 4) ∧ True :=
  ⟨Ev.step (f := fun _ => some (0, 4)) (fun k => by simp [ber_Number.j1]) (Ev.now _), trivial⟩
theorem j0_true (s : ByteArray) : Ev (fun k => ber_Number.j0 k s true) (0, 4) ∧ True :=
  ⟨Ev.step (f := fun _ => some (0, 4)) (fun k => by simp [ber_Number.j0]) (Ev.now _), trivial⟩

theorem j0_ev (s : ByteArray) (a : UInt8) (q : List UInt8) (h : L s = a :: q) (hs : (L s).length ≤ 8) :
    Ev (fun k => ber_Number.j0 k s false) (numP false (L s)) ∧ True := by
  have hl : s.size = q.length + 1 := by rw [← L_len, h]; rfl
  have h0 := bt0_at s a q h
  have g0 : (0 : Int) < (s.size : Int) := by omega
  have hj := j1_ev s a q h hs
  have ht := j1_true s
  cases q with
  | nil =>
    have g1 : ¬ (s.size : Int) > 1 := by simp at hl; omega
    have e : numP false (L s) = (sign (L s), 0) := by rw [h]; simp [numP, canon]
    rw [e]
    exact ⟨Ev.step (fun k => by simp only [ber_Number.j0]; rw [if_neg (by decide), if_neg g1]) hj.1, trivial⟩
  | cons b q =>
    have h1 := bt1_at s a b q h
    have hq6 : q.length ≤ 6 := by rw [h] at hs; simpa using hs
    have g1 : (s.size : Int) > 1 := by simp at hl; omega
    have g1' : (1 : Int) < (s.size : Int) := g1
    have hb := tdiv128 ⟨b.toNat, b.toNat_lt⟩
    simp only at hb
    have bad : (a.toNat = 0 ∧ b.toNat < 128) ∨ (a.toNat = 255 ∧ 128 ≤ b.toNat) → numP false (L s) = (0, 4) := by
      intro hh
      rw [h]
      rcases hh with ⟨x, y⟩ | ⟨x, y⟩ <;> simp [numP, canon, x, y]
    have good : ¬ (a.toNat = 0 ∧ b.toNat < 128) → ¬ (a.toNat = 255 ∧ 128 ≤ b.toNat) → numP false (L s) = (sign (L s), 0) := by
      intro x y
      have : canon (a :: b :: q) = true := by
        simp only [canon, Bool.and_eq_true, decide_eq_true_eq, Bool.not_eq_true', Bool.and_eq_false_iff, beq_eq_false_iff_ne, decide_eq_false_iff_not]
        refine ⟨⟨hq6, ?_⟩, ?_⟩ <;> omega
      rw [h, numP, if_pos ⟨rfl, this⟩]
    by_cases ha0 : a.toNat = 0
    · by_cases hb1 : b.toNat < 128
      · rw [bad (Or.inl ⟨ha0, hb1⟩)]
        constructor
        · refine Ev.step (fun k => ?_) ht.1
          simp only [ber_Number.j0]
          rw [if_neg (by decide), if_pos g1, if_pos g0, h0, if_pos (by omega), if_pos g1', h1, if_pos (by omega)]
        · trivial
      · rw [good (by omega) (by omega)]
        constructor
        · refine Ev.step (fun k => ?_) hj.1
          simp only [ber_Number.j0]
          rw [if_neg (by decide), if_pos g1, if_pos g0, h0, if_pos (by omega), if_pos g1', h1, if_neg (by omega), if_neg (by omega)]
        · trivial
    · by_cases ha5 : a.toNat = 255
      · by_cases hb1 : b.toNat < 128
        · rw [good (by omega) (by omega)]
          constructor
          · refine Ev.step (fun k => ?_) hj.1
            simp only [ber_Number.j0]
            rw [if_neg (by decide), if_pos g1, if_pos g0, h0, if_neg (by omega), if_pos (by omega), if_pos g1', h1, decide_eq_false (by omega)]
          · trivial
        · rw [bad (Or.inr ⟨ha5, by omega⟩)]
          constructor
          · refine Ev.step (fun k => ?_) ht.1
            simp only [ber_Number.j0]
            rw [if_neg (by decide), if_pos g1, if_pos g0, h0, if_neg (by omega), if_pos (by omega), if_pos g1', h1, decide_eq_true (by omega)]
          · trivial
      · rw [good (by omega) (by omega)]
        constructor
        · refine Ev.step (fun k => ?_) hj.1
          simp only [ber_Number.j0]
          rw [if_neg (by decide), if_pos g1, if_pos g0, h0, if_neg (by omega), if_neg (by omega)]
        · trivial

/-- both read alike -/
theorem number_ev (a0 : Int) (c : Bool) (a2 : Int) (s : ByteArray) (l : List S44) :
    Ev (fun k => ber_Number.f k a0 c a2 s l) (numP c (L s)) ∧ True := by
  have ht := j0_true s
  cases c with
  | true =>
    have e : numP true (L s) = (0, 4) := by simp [numP]
    rw [e]
    exact ⟨Ev.congr (fun k => by unfold ber_Number.f; rw [if_pos rfl]) ht.1, trivial⟩
  | false =>
    by_cases h1 : (s.size : Int) < 1
    · have e : numP false (L s) = (0, 4) := by
        have : L s = [] := List.eq_nil_of_length_eq_zero (by rw [L_len]; omega)
        rw [this]; rfl
      rw [e]
      exact ⟨Ev.congr (fun k => by unfold ber_Number.f; rw [if_neg (by decide), if_pos h1]) ht.1, trivial⟩
    · obtain ⟨a, q, hL⟩ : ∃ a q, L s = a :: q := by
        cases hL : L s with
        | nil => rw [← L_len, hL] at h1; simp at h1
        | cons a q => exact ⟨a, q, rfl⟩
      have hl : s.size = q.length + 1 := by rw [← L_len, hL]; rfl
      by_cases h8 : (s.size : Int) > 8
      · have e : numP false (L s) = (0, 4) := by
          rw [hL]
          cases q with
          | nil => simp at hl; omega
          | cons b q =>
            have : canon (a :: b :: q) = false := by
              have : ¬ q.length ≤ 6 := by simp at hl; omega
              simp [canon, this]
            simp [numP, this]
        rw [e]
        exact ⟨Ev.congr (fun k => by unfold ber_Number.f; rw [if_neg (by decide), if_neg h1, decide_eq_true h8]) ht.1, trivial⟩
      · have hj := j0_ev s a q hL (by rw [L_len]; omega)
        exact ⟨Ev.congr (fun k => by unfold ber_Number.f; rw [if_neg (by decide), if_neg h1, decide_eq_false h8]) hj.1, trivial⟩

/-! what ber.OfNumber lays -/
def up (l : List UInt8) : List Int := l.map fun u => (u.toNat : Int)
theorem L_up (l : List UInt8) : L (strOfNums (up l)) = l := by
  rw [L_nums, up, List.map_map]
  conv => rhs; rw [← List.map_id l]
  apply List.map_congr_left
  intro u _
  exact ofNat_toNat u
def byte (m : Int) : UInt8 := UInt8.ofNat (m % 256).toNat
theorem byte_to (m : Int) : ((byte m).toNat : Int) = m % 256 := by
  unfold byte
  rw [UInt8.toNat_ofNat']
  omega
theorem up_cons (m : Int) (l : List UInt8) : [m % 256] ++ up l = up (byte m :: l) := by simp [up, byte_to]
theorem of_stop (x0 x1 m : Int) (a : UInt8) (q : List UInt8) (k : Nat) (h : (m = 0 ∧ a.toNat < 128) ∨ (m = -1 ∧ 128 ≤ a.toNat)) : ber_OfNumber.l0 (k + 1) x0 x1 (up (a :: q)) m = some (x0, false, x1, strOfNums (up (a :: q)), []) := by
  have hr : rd (up (a :: q)) 0 = (a.toNat : Int) := rfl
  have hl : (0 : Int) < ((up (a :: q)).length : Int) := by simp [up] <;> omega
  simp only [ber_OfNumber.l0]
  rcases h with ⟨rfl, h⟩ | ⟨rfl, h⟩
  · rw [if_pos rfl, if_pos hl, hr, if_pos (by omega)]
  · rw [if_neg (by decide), if_pos rfl, if_pos hl, hr, if_pos (by omega)]
theorem of_go (x0 x1 m : Int) (a : UInt8) (q : List UInt8) (k : Nat) (hq : q.length < 100) (h1 : ¬ (m = 0 ∧ a.toNat < 128)) (h2 : ¬ (m = -1 ∧ 128 ≤ a.toNat)) : ber_OfNumber.l0 (k + 1) x0 x1 (up (a :: q)) m = ber_OfNumber.l0 k x0 x1 (up (byte m :: a :: q)) (m / 256) := by
  have hr : rd (up (a :: q)) 0 = (a.toNat : Int) := rfl
  have hl : (0 : Int) < ((up (a :: q)).length : Int) := by simp [up] <;> omega
  have hb : ([m % 256] : List Int).length + (up (a :: q)).length < 140737488355328 := by simp [up] <;> omega
  have step : ((some (([m % 256] : List Int) : List Int)).bind fun y => (if y.length + (up (a :: q)).length < 140737488355328 then (ber_OfNumber.l0 k x0 x1 (y ++ (up (a :: q))) (m / 256)) else (none))) = ber_OfNumber.l0 k x0 x1 (up (byte m :: a :: q)) (m / 256) := by
    simp only [Option.bind_some]
    rw [if_pos hb, up_cons]
  simp only [ber_OfNumber.l0]
  by_cases m0 : m = 0
  · rw [if_pos m0, if_pos hl, hr, if_neg (by omega), if_neg (by omega)]
    exact step
  · rw [if_neg m0]
    by_cases m1 : m = -1
    · rw [if_pos m1, if_pos hl, hr, if_neg (by omega)]
      exact step
    · rw [if_neg m1]
      exact step
theorem val_cons (n : Int) (a : UInt8) (q : List UInt8) : val n (a :: q) = val (n * 256 + a.toNat) q := rfl
theorem of_fin (n m : Int) (a : UInt8) (q : List UInt8) (hq : q.length ≤ 7) (h : (m = 0 ∧ a.toNat < 128) ∨ (m = -1 ∧ 128 ≤ a.toNat)) (hv : val m (a :: q) = n)
    (hc : ∀ b r, q = b :: r → ¬ (m * 256 + a.toNat = 0 ∧ b.toNat < 128) ∧ ¬ (m * 256 + a.toNat = -1 ∧ 128 ≤ b.toNat)) : canon (a :: q) = true ∧ sign (a :: q) = n := by
  have ha := a.toNat_lt
  constructor
  · cases q with
    | nil => rfl
    | cons b r =>
      have := hc b r rfl
      simp only [canon, Bool.and_eq_true, decide_eq_true_eq, Bool.not_eq_true', Bool.and_eq_false_iff, beq_eq_false_iff_ne, decide_eq_false_iff_not]
      simp at hq
      refine ⟨⟨by omega, ?_⟩, ?_⟩ <;> omega
  · rw [← hv, val_cons]
    show val _ q = _
    congr 1
    split <;> omega
theorem of_loop (x0 x1 n : Int) : ∀ (j : Nat) (a : UInt8) (q : List UInt8) (m : Int), q.length + 1 + j = 8 → (j = 0 → (m = 0 ∧ a.toNat < 128) ∨ (m = -1 ∧ 128 ≤ a.toNat)) →
    (∀ i, j = i + 1 → -(128 * 256 ^ i) ≤ m ∧ m < 128 * 256 ^ i) → val m (a :: q) = n →
    (∀ b r, q = b :: r → ¬ (m * 256 + a.toNat = 0 ∧ b.toNat < 128) ∧ ¬ (m * 256 + a.toNat = -1 ∧ 128 ≤ b.toNat)) →
    ∃ cs, Ev (fun k => ber_OfNumber.l0 k x0 x1 (up (a :: q)) m) (x0, false, x1, strOfNums (up cs), []) ∧ canon cs = true ∧ sign cs = n := by
  intro j
  induction j with
  | zero =>
    intro a q m hl h0 _ hv hc
    exact ⟨a :: q, Ev.step (fun k => of_stop x0 x1 m a q k (h0 rfl)) (Ev.now _), of_fin n m a q (by omega) (h0 rfl) hv hc⟩
  | succ j ih =>
    intro a q m hl _ hr hv hc
    by_cases hs : (m = 0 ∧ a.toNat < 128) ∨ (m = -1 ∧ 128 ≤ a.toNat)
    · exact ⟨a :: q, Ev.step (fun k => of_stop x0 x1 m a q k hs) (Ev.now _), of_fin n m a q (by omega) hs hv hc⟩
    · have hm := hr j rfl
      have hby := byte_to m
      have e : m / 256 * 256 + ((byte m).toNat : Int) = m := by rw [hby]; omega
      obtain ⟨cs, h1, h2⟩ := ih (byte m) (a :: q) (m / 256) (by simp; omega) (by
          rintro rfl
          simp at hm
          omega) (by
          rintro i rfl
          have hps : (256 : Int) ^ (i + 1) = 256 * 256 ^ i := by rw [Int.pow_succ]; omega
          omega) (by rw [val_cons, e]; exact hv) (by
          intro b r hbr
          cases hbr
          rw [e]
          omega)
      exact ⟨cs, Ev.step (fun k => of_go x0 x1 m a q k (by omega) (by omega) (by omega)) h1, h2⟩
theorem ofNumber_ev (x0 x1 n : Int) (h0 : -9223372036854775808 ≤ n) (h1 : n ≤ 9223372036854775807) : ∃ cs, Ev (fun k => ber_OfNumber.f k x0 x1 n) (x0, false, x1, strOfNums (up cs), []) ∧ canon cs = true ∧ sign cs = n := by
  have hby := byte_to n
  obtain ⟨cs, h2, h3⟩ := of_loop x0 x1 n 7 (byte n) [] (n / 256) (by simp) (by omega) (by
      rintro i hi
      obtain rfl : i = 6 := by omega
      constructor <;> simp <;> omega) (by rw [val_cons, hby]; show n / 256 * 256 + n % 256 = n; omega) (by intro b r h; cases h)
  refine ⟨cs, Ev.congr (fun k => ?_) h2, h3⟩
  unfold ber_OfNumber.f
  congr 1
  simp [up, hby]
end Go.Proofs.YtghkgclbfjoilaaDoor.R
