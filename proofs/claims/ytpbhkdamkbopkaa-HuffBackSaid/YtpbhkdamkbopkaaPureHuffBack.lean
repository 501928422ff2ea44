/- A symbol's code is read back as it: for every input. -/
import Derived.Test.YtpbhkdamkbopkaaHuffStage
import Derived.Test.YtpbhkdamkbopkaaGBackx2
namespace Go.Proofs.Ytpbhkdamkbopkaa.Pure
set_option linter.unusedSimpArgs false
set_option linter.unusedVariables false
open Go.RowKit Go.Proofs.Ytpbhkdamkbopkaa.Ext Go.Proofs.Ytpbhkdamkbopkaa.ExtAwake Go.Proofs.Ytpbhkdamkbopkaa.Stage Go.Proofs.Ytpbhkdamkbopkaa.GBack Go.Proofs.YtpbhkdamkbopkaaW.PrintWords Go.Proofs.YtpbhkdamkbopkaaW.PrintLast Go.Proofs.YtpbhkdamkbopkaaW.PrintMore

/-! ### The bytes that a code is laid in -/
/-- Bit q of a code of n bits, its highest first. -/
def cb (c : Int) (n q : Nat) : Int := c / 2 ^ (n - 1 - q) % 2
/-- The first p bits, the first one lowest. -/
def laid (c : Int) (n : Nat) : Nat → Int
  | 0 => 0
  | p + 1 => laid c n p + cb c n p * 2 ^ p
theorem cb_rng (c : Int) (n q : Nat) : cb c n q = 0 ∨ cb c n q = 1 := by unfold cb; omega
theorem laid_rng (c : Int) (n p : Nat) : 0 ≤ laid c n p ∧ laid c n p < 2 ^ p := by
  induction p with
  | zero => simp [laid]
  | succ p ih =>
    have e : (2 : Int) ^ (p + 1) = 2 * 2 ^ p := by rw [Int.pow_succ, Int.mul_comm]
    simp only [laid]
    rcases cb_rng c n p with h | h <;> rw [h, e] <;> omega
theorem laid_bit (c : Int) (n q p : Nat) (h : q < p) : laid c n p / 2 ^ q % 2 = cb c n q := by
  induction p with
  | zero => omega
  | succ p ih =>
    simp only [laid]
    have hq : (0 : Int) < 2 ^ q := Int.pow_pos (by decide)
    by_cases e : q = p
    · subst e
      have hr := laid_rng c n q
      rw [Int.add_mul_ediv_right _ _ (by omega), Int.ediv_eq_zero_of_lt hr.1 hr.2]
      rcases cb_rng c n q with h | h <;> omega
    · have h1 := ih (by omega)
      have e2 : (2 : Int) ^ p = 2 * 2 ^ (p - q - 1) * 2 ^ q := by
        rw [Int.mul_comm 2, ← Int.pow_succ, ← Int.pow_add]
        congr 1
        omega
      rw [e2, ← Int.mul_assoc, Int.add_mul_ediv_right _ _ (by omega)]
      rw [show cb c n p * (2 * 2 ^ (p - q - 1)) = 2 * (cb c n p * 2 ^ (p - q - 1)) by rw [Int.mul_left_comm]]
      omega
theorem or_bit {r : Nat} (hr : r < 8) {a : Int} (h0 : 0 ≤ a) (h1 : a < 2 ^ r) : Go.bits .or .u8 a (shl .u8 1 ((r : Nat) : Int)) = a + 2 ^ r := by
  have key : ∀ r : Fin 8, ∀ a : Fin 128, a.val < 2 ^ r.val → Go.bits .or .u8 (a.val : Int) (shl .u8 1 ((r.val : Nat) : Int)) = a.val + 2 ^ r.val := by decide +kernel
  have h3 : (2 : Nat) ^ r ≤ 2 ^ 7 := Nat.pow_le_pow_right (by decide) (by omega)
  have e : ((2 ^ r : Nat) : Int) = 2 ^ r := by rw [Int.natCast_pow]; rfl
  rw [← e] at h1
  have := key ⟨r, hr⟩ ⟨a.toNat, by omega⟩ (by show a.toNat < 2 ^ r; omega)
  simp only [Int.toNat_of_nonneg h0] at this
  exact this
/-- The two bytes. -/
def two (v : Int) : List Int := [v % 256, v / 256]
theorem two_step (c : Int) (n p : Nat) (hp : p < 16) :
    (if cb c n p = 1 then (two (laid c n p)).set (p / 8) (Go.bits .or .u8 ((two (laid c n p)).getD (p / 8) 0) (shl .u8 1 ((p % 8 : Nat) : Int))) else two (laid c n p)) = two (laid c n (p + 1)) := by
  have hr := laid_rng c n p
  rcases cb_rng c n p with h | h
  · rw [if_neg (by omega)]
    simp only [laid]
    rw [h, Int.zero_mul, Int.add_zero]
  · rw [if_pos h]
    have hl : laid c n (p + 1) = laid c n p + 2 ^ p := by simp only [laid]; rw [h, Int.one_mul]
    rw [hl]
    generalize laid c n p = v at hr
    by_cases h8 : p < 8
    · have h3 : (2 : Nat) ^ p ≤ 2 ^ 7 := Nat.pow_le_pow_right (by decide) (by omega)
      have e : ((2 ^ p : Nat) : Int) = 2 ^ p := by rw [Int.natCast_pow]; rfl
      have hv : v % 256 = v := by omega
      rw [show p / 8 = 0 by omega, show p % 8 = p by omega]
      show [Go.bits .or .u8 (v % 256) _, v / 256] = _
      rw [hv, or_bit h8 hr.1 hr.2]
      unfold two
      rw [← e] at hr ⊢
      congr 1
      · omega
      · congr 1; omega
    · obtain ⟨q, rfl⟩ : ∃ q, p = 8 + q := ⟨p - 8, by omega⟩
      have e : (2 : Int) ^ (8 + q) = 256 * 2 ^ q := by rw [Int.pow_add]; rfl
      rw [show (8 + q) / 8 = 1 by omega, show (8 + q) % 8 = q by omega]
      show [v % 256, Go.bits .or .u8 (v / 256) _] = _
      rw [e] at hr ⊢
      have hq : (0 : Int) < 2 ^ q := Int.pow_pos (by decide)
      rw [or_bit (by omega) (by omega) (by omega)]
      unfold two
      congr 1
      · omega
      · congr 1; omega
theorem bt_two (v : Int) (h0 : 0 ≤ v) (h1 : v < 65536) (more : ByteArray) (q : Nat) (hq : q < 16) : bitN (strOfNums (two v) ++ more) q = v / 2 ^ q % 2 := by
  have hz : (strOfNums (two v) ++ more).size = 2 + more.size := by rw [ByteArray.size_append, strOfNums_size]; rfl
  have key : ∀ k : Nat, k < 2 → bt (strOfNums (two v) ++ more) (k : Nat) = (two v).getD k 0 := fun k hk => by
    have hs : k < (strOfNums (two v)).size := by rw [strOfNums_size]; exact hk
    unfold bt
    rw [dif_pos (by rw [Int.toNat_natCast, hz]; omega)]
    simp only [Int.toNat_natCast]
    rw [ByteArray.getElem_append_left hs]
    have e2 : ∀ h, ((strOfNums (two v))[k]'h).toNat = ((two v).getD k 0).toNat := by
      intro h
      rw [ByteArray.getElem_eq_getElem_data]
      match k, hk with
      | 0, _ =>
        show (UInt8.ofNat (v % 256).toNat).toNat = (v % 256).toNat
        rw [UInt8.toNat_ofNat']; omega
      | 1, _ =>
        show (UInt8.ofNat (v / 256).toNat).toNat = (v / 256).toNat
        rw [UInt8.toNat_ofNat']; omega
    rw [e2]
    match k, hk with
    | 0, _ => show ((v % 256).toNat : Int) = v % 256; omega
    | 1, _ => show ((v / 256).toNat : Int) = v / 256; omega
  unfold bitN
  by_cases h8 : q < 8
  · rw [show (q : Int) / 8 = (0 : Nat) by omega, show ((q : Int) % 8).toNat = q by omega, key 0 (by decide)]
    show v % 256 / 2 ^ q % 2 = v / 2 ^ q % 2
    have e : (256 : Int) = 2 * 2 ^ (7 - q) * 2 ^ q := by
      rw [Int.mul_comm 2, ← Int.pow_succ, ← Int.pow_add, show 7 - q + 1 + q = 8 by omega]; rfl
    have hq0 : (0 : Int) < 2 ^ q := Int.pow_pos (by decide)
    have hv : v = v % 256 + 2 * 2 ^ (7 - q) * (v / 256) * 2 ^ q := by
      have h := Int.emod_add_mul_ediv v 256
      rw [show 2 * 2 ^ (7 - q) * (v / 256) * 2 ^ q = 2 * 2 ^ (7 - q) * 2 ^ q * (v / 256) by rw [Int.mul_right_comm], ← e]
      exact h.symm
    conv => rhs; rw [hv]
    rw [Int.add_mul_ediv_right _ _ (by omega), show 2 * 2 ^ (7 - q) * (v / 256) = 2 * (2 ^ (7 - q) * (v / 256)) by rw [Int.mul_assoc]]
    omega
  · obtain ⟨r, rfl⟩ : ∃ r, q = 8 + r := ⟨q - 8, by omega⟩
    rw [show ((8 + r : Nat) : Int) / 8 = (1 : Nat) by omega, show (((8 + r : Nat) : Int) % 8).toNat = r by omega, key 1 (by decide)]
    show v / 256 / 2 ^ r % 2 = _
    rw [Int.pow_add, Int.ediv_ediv_of_nonneg (by decide)]
    rfl
/-! ### What is read of them -/
theorem pow_half (n m : Nat) (h : m + 1 ≤ n) : (2 : Int) ^ (n - m) = 2 ^ (n - 1 - m) * 2 := by
  rw [← Int.pow_succ]; congr 1; omega
theorem Vn_laid (c : Int) (n : Nat) (hn : n ≤ 15) (h0 : 0 ≤ c) (h1 : c < 2 ^ n) (more : ByteArray) (m : Nat) (hm : m ≤ n) : Vn (strOfNums (two (laid c n n)) ++ more) 0 m = c / 2 ^ (n - m) := by
  have hr := laid_rng c n n
  have h3 : (2 : Nat) ^ n ≤ 2 ^ 15 := Nat.pow_le_pow_right (by decide) hn
  have e : ((2 ^ n : Nat) : Int) = 2 ^ n := by rw [Int.natCast_pow]; rfl
  induction m with
  | zero => rw [Nat.sub_zero, Int.ediv_eq_zero_of_lt h0 h1]; rfl
  | succ m ih =>
    have h2 := ih (by omega)
    show 2 * Vn _ 0 m + bitN _ (0 + (m : Int)) = _
    rw [h2, Int.zero_add, bt_two _ hr.1 (by omega) more m (by omega), laid_bit c n m n (by omega), pow_half n m hm, ← Int.ediv_ediv_of_nonneg (Int.le_of_lt (Int.pow_pos (by decide)))]
    unfold cb
    rw [show n - (m + 1) = n - 1 - m by omega]
    omega
/-- Where a code lies, no shorter one begins. -/
theorem below_code (l : List Int) (i n : Nat) (h0 : 1 ≤ n) (h : n < 16) (hi : i < l.length) (he : l.getD i 0 = n) (m : Nat) (hm : m < n) : Gn l m ≤ codeAt l i / 2 ^ (n - m) ∧ Sn l m ≠ (syms l).length := by
  have hs := symbol_at l i n h0 h hi he
  obtain ⟨k, rfl⟩ : ∃ k, n = k + 1 := ⟨n - 1, by omega⟩
  have hmono := Gn_mono l m k (by omega)
  rw [firstC_succ] at hs
  have hp : (0 : Int) < 2 ^ (k + 1 - m) := Int.pow_pos (by decide)
  refine ⟨?_, ?_⟩
  · rw [Int.le_ediv_iff_mul_le hp, show k + 1 - m = (k - m) + 1 by omega, Int.pow_succ, ← Int.mul_assoc]
    omega
  · have h1 := Sn_mono l m k (by omega) (by omega)
    have h2 := Sn_succ l k (by omega)
    have h3 := Sn_mono l (k + 1) 15 (by omega) (by omega)
    have h4 := Gn_succ l k
    have h5 := syms_Sn l
    omega
theorem code_room (l : List Int) (he : errOf l = 0) (n : Nat) (hn : n ≤ 15) : Gn l n ≤ 2 ^ n := by
  have h15 : Gn l 15 ≤ 32768 := by
    rcases good_sum l (errOf_ok l he).2.2 with h | ⟨_, h⟩ | ⟨_, _, h⟩ <;> omega
  have hm := Gn_mono l n 15 hn
  have e : (2 : Int) ^ n * 2 ^ (15 - n) = 32768 := by rw [← Int.pow_add, show n + (15 - n) = 15 by omega]; decide
  have hp : (0 : Int) < 2 ^ (15 - n) := Int.pow_pos (by decide)
  exact Int.le_of_mul_le_mul_right (by omega) hp
theorem back_stage (l : List Int) (he : errOf l = 0) (i n : Nat) (h0 : 1 ≤ n) (h : n ≤ 15) (hi : i < l.length) (hl : l.getD i 0 = n) (more : ByteArray) (hz : more.size ≤ 100) (d : Nat) : ∀ m, m + d = n →
    stageOf l (strOfNums (two (laid (codeAt l i) n n)) ++ more) 0 m = some ((i : Int), (n : Int), 0) := by
  have hs := symbol_at l i n h0 (by omega) hi hl
  have hsz : (strOfNums (two (laid (codeAt l i) n n)) ++ more).size = 2 + more.size := by rw [ByteArray.size_append, strOfNums_size]; rfl
  have hF : 0 ≤ firstC l n := by
    obtain ⟨k, rfl⟩ : ∃ k, n = k + 1 := ⟨n - 1, by omega⟩
    have := Gn_nonneg l k
    rw [firstC_succ]; omega
  have hroom := code_room l he n h
  have hV := Vn_laid (codeAt l i) n h (by omega) (by omega) more
  induction d with
  | zero =>
    intro m hm
    obtain rfl : m = n := by omega
    have hv := hV m (Nat.le_refl _)
    rw [Nat.sub_self, Int.pow_zero, Int.ediv_one] at hv
    unfold stageOf
    rw [hv, if_pos hs.2.1, hs.2.2, Int.zero_add]
  | succ d ih =>
    intro m hm
    have hb := below_code l i n h0 (by omega) hi hl m (by omega)
    rw [stage_step l (errOf_ok l he).1 _ (by rw [hsz]; omega) 0 (by decide) (by decide) m (by omega) (by rw [hV m (by omega)]; exact hb.1) hb.2, if_pos (by rw [hsz]; omega)]
    exact ih (m + 1) (by omega)
/-- No other code begins with a code. -/
theorem apart_code (l : List Int) (i j n m : Nat) (h0 : 1 ≤ n) (hm : m ≤ 15) (hi : i < l.length) (hj : j < l.length) (hli : l.getD i 0 = n) (hlj : l.getD j 0 = m) (hnm : n ≤ m) (hne : j ≠ i) : codeAt l j / 2 ^ (m - n) ≠ codeAt l i := by
  intro hc
  by_cases e : m = n
  · subst e
    rw [Nat.sub_self, Int.pow_zero, Int.ediv_one] at hc
    exact hne (code_inj l j i m h0 (by omega) hj hi hlj hli hc)
  · have h1 := (below_code l j m (by omega) (by omega) hj hlj n (by omega)).1
    have h2 := (symbol_at l i n h0 (by omega) hi hli).2.1
    rw [hc] at h1
    omega
/-! ### The law -/
theorem shr_is (x : Int) (r : Nat) (hr : r ≤ 64) : shr .i64 x (r : Int) = x / 2 ^ r := by
  unfold shr
  rw [Int.toNat_natCast, Nat.min_eq_left (by exact hr)]
theorem back_l1 (l : List Int) (hok : okL l = true) (i n : Nat) (h0 : 1 ≤ n) (hn : n ≤ 15) (hi : i < l.length) (hl : l.getD i 0 = n) (hlen : l.length ≤ 320) (d : Nat) : ∀ j : Nat, j + d = l.length →
    Ev (fun k => celluloidlaw04_HuffBack.l1 k l i (codesOf l) l.length j) true := by
  have haw : celluloidlaw04_awake.f = some true := rfl
  have hil : (i : Int) < l.length := by omega
  have hri : rd l i = n := by rw [rd_nat]; exact hl
  have hcl : ((codesOf l).length : Int) = l.length := by rw [codesOf_length]
  have hci : rd (codesOf l) i = codeAt l i := by
    rw [rd_nat, List.getD_eq_getElem?_getD, codesOf_get l i hi, if_neg (by omega)]; rfl
  induction d with
  | zero =>
    intro j hj
    obtain rfl : j = l.length := by omega
    refine Ev.step (f := fun _ => some true) (fun k => ?_) (Ev.now _)
    simp only [celluloidlaw04_HuffBack.l1]
    rw [if_neg (Int.lt_irrefl _), haw]
    rfl
  | succ d ih =>
    intro j hj
    have hd := ih (j + 1) (by omega)
    have hjl : (j : Int) < l.length := by omega
    have e1 : Aside0 (wrap64 ((j : Int) + 1) = ((j + 1 : Nat) : Int)) := ⟨by rw [wrap_in (by omega) (by omega)]; rfl⟩
    have next : Ev (fun k => celluloidlaw04_HuffBack.j5 k l i (codesOf l) l.length j false) true := by
      refine Ev.step (fun k => ?_) hd
      simp only [celluloidlaw04_HuffBack.j5]
      rw [if_neg (by decide), e1.out]
    refine Ev.step (fun k => ?_) next
    simp only [celluloidlaw04_HuffBack.l1]
    rw [if_pos hjl]
    by_cases hji : j = i
    · subst hji; rw [if_pos rfl]
    · rw [if_neg (by omega), if_pos (Int.natCast_nonneg _), if_pos hjl, if_pos (Int.natCast_nonneg _), if_pos hil]
      obtain ⟨m, hm, hm15⟩ := ok_at l hok j (by omega)
      have hrj : rd l j = m := by rw [rd_nat]; exact hm
      rw [hrj, hri]
      by_cases hge : (m : Int) ≥ n
      · have hcj : rd (codesOf l) j = codeAt l j := by
          rw [rd_nat, List.getD_eq_getElem?_getD, codesOf_get l j (by omega), if_neg (by omega)]; rfl
        have hw : wrap64 ((m : Int) - n) = ((m - n : Nat) : Int) := by rw [wrap_in (by omega) (by omega)]; omega
        have hne := apart_code l i j n m h0 hm15 hi (by omega) hl hm (by omega) hji
        rw [if_pos hge, hcl, if_pos hjl, hw, if_pos (Int.natCast_nonneg _), if_pos hil, hcj, hci, shr_is _ _ (by omega), beq_eq_false_iff_ne.2 hne]
      · rw [if_neg hge]
theorem back_l0 (l : List Int) (he : errOf l = 0) (more : ByteArray) (hz : more.size ≤ 100) (i n : Nat) (h0 : 1 ≤ n) (hn : n ≤ 15) (hi : i < l.length) (hl : l.getD i 0 = n) (d : Nat) : ∀ p : Nat, p + d = n →
    Ev (fun k => celluloidlaw04_HuffBack.l0 k l i more (codesOf l) (two (laid (codeAt l i) n p)) p ((newCs l).getD 0 0) ((newCs l).getD 1 0) ((newCs l).getD 2 0) ((newCs l).getD 3 0) ((newCs l).getD 4 0) ((newCs l).getD 5 0) ((newCs l).getD 6 0) ((newCs l).getD 7 0) ((newCs l).getD 8 0) ((newCs l).getD 9 0) ((newCs l).getD 10 0) ((newCs l).getD 11 0) ((newCs l).getD 12 0) ((newCs l).getD 13 0) ((newCs l).getD 14 0) ((newCs l).getD 15 0) (newSs l)) true := by
  obtain ⟨hlen, hok, hb⟩ := errOf_ok l he
  have hil : (i : Int) < l.length := by omega
  have hri : rd l i = n := by rw [rd_nat]; exact hl
  have hcl : ((codesOf l).length : Int) = l.length := by rw [codesOf_length]
  have hci : rd (codesOf l) i = codeAt l i := by
    rw [rd_nat, List.getD_eq_getElem?_getD, codesOf_get l i hi, if_neg (by omega)]; rfl
  have hs := symbol_at l i n h0 (by omega) hi hl
  have hF := firstC_le l hlen n (by omega)
  have hroom := code_room l he n hn
  have h3 : (2 : Nat) ^ n ≤ 2 ^ 15 := Nat.pow_le_pow_right (by decide) hn
  have e2 : ((2 ^ n : Nat) : Int) = 2 ^ n := by rw [Int.natCast_pow]; rfl
  have hc0 : 0 ≤ codeAt l i := by omega
  have hc1 : codeAt l i < 32768 := by omega
  induction d with
  | zero =>
    intro p hp
    obtain rfl : p = n := by omega
    have hst := back_stage l he i p h0 hn hi hl more hz p 0 (by omega)
    rw [← nextOf_stage l he] at hst
    have h1 := back_l1 l hok i p h0 hn hi hl hlen l.length 0 (by omega)
    have hj3 : Ev (fun k => celluloidlaw04_HuffBack.j3 k l i (codesOf l) false) true := by
      refine Ev.step (fun k => ?_) h1
      simp only [celluloidlaw04_HuffBack.j3]
      rw [if_neg (by decide)]
      rfl
    refine Ev.step (fun k => ?_) hj3
    simp only [celluloidlaw04_HuffBack.l0]
    have hsz : (strOfNums (two (laid (codeAt l i) p p))).size = 2 := by rw [strOfNums_size]; rfl
    rw [if_pos (Int.natCast_nonneg _), if_pos hil, hri, if_neg (Int.lt_irrefl _), if_pos (by rw [hsz]; omega), next_of16f _ _ (newCs_length l), hst]
    simp only [Option.bind_some]
    rw [if_pos trivial, if_pos trivial]
    rfl
  | succ d ih =>
    intro p hp
    have hd := ih (p + 1) (by omega)
    have e1 : Aside0 (wrap64 ((p : Int) + 1) = ((p + 1 : Nat) : Int)) := ⟨by rw [wrap_in (by omega) (by omega)]; rfl⟩
    have e3 : Aside0 (wrap64 (wrap64 ((n : Int) - 1) - p) = ((n - 1 - p : Nat) : Int)) := ⟨by rw [wrap_in (n := (n : Int) - 1) (by omega) (by omega), wrap_in (by omega) (by omega)]; omega⟩
    have e4 : Aside0 (wrap64 (Int.tdiv (p : Int) 8) = ((p / 8 : Nat) : Int)) := ⟨by rw [Int.tdiv_eq_ediv_of_nonneg (by omega), wrap_in (by omega) (by omega)]; rfl⟩
    have e5 : Int.tmod (p : Int) 8 = ((p % 8 : Nat) : Int) := by rw [Int.tmod_eq_emod_of_nonneg (by omega)]; rfl
    have hsh : 0 ≤ codeAt l i / 2 ^ (n - 1 - p) := Int.ediv_nonneg hc0 (Int.le_of_lt (Int.pow_pos (by decide)))
    have hsh2 : codeAt l i / 2 ^ (n - 1 - p) ≤ codeAt l i := Int.ediv_le_self _ hc0
    have hand : Go.bits .and .i64 (codeAt l i / 2 ^ (n - 1 - p)) 1 = cb (codeAt l i) n p := by
      unfold cb
      exact and_1 hsh (by omega)
    have hstep := two_step (codeAt l i) n p (by omega)
    rw [← hstep] at hd
    refine Ev.step (fun k => ?_) hd
    simp only [celluloidlaw04_HuffBack.l0]
    rw [if_pos (Int.natCast_nonneg _), if_pos hil, hri, if_pos (by omega), hcl, if_pos hil, e3.out, if_pos (Int.natCast_nonneg _), hci, shr_is _ _ (by omega), hand]
    by_cases hbit : cb (codeAt l i) n p = 1
    · rw [if_pos hbit, if_pos hbit, e4.out, if_pos (Int.natCast_nonneg _), if_pos (by show ((p / 8 : Nat) : Int) < 2; omega), e5, if_pos (Int.natCast_nonneg _), rd_nat, Int.toNat_natCast, e1.out]
    · rw [if_neg hbit, if_neg hbit, e1.out]
theorem HuffBack : celluloidlaw04_HuffBack.Pure := by
  intro l x more hlm hl8 hwf hx hmore
  have haw : celluloidlaw04_awake.f = some true := rfl
  have fin : ∀ e : Int, ∀ cs : List Int, (e = 0 → cs.length = l.length) → ∀ b0 b1 b2 b3 b4 b5 b6 b7 b8 b9 b10 b11 b12 b13 b14 b15 (b16 : List Int), Ev (fun k => celluloidlaw04_HuffBack.j0 k l x more e cs true b0 b1 b2 b3 b4 b5 b6 b7 b8 b9 b10 b11 b12 b13 b14 b15 b16) true := by
    intro e cs hcs b0 b1 b2 b3 b4 b5 b6 b7 b8 b9 b10 b11 b12 b13 b14 b15 b16
    refine Ev.step (f := fun _ => some true) (fun k => ?_) (Ev.now _)
    simp only [celluloidlaw04_HuffBack.j0]
    rw [if_pos trivial, haw]
    by_cases he : e = 0
    · rw [if_pos he, if_pos (by rw [hcs he])]; rfl
    · rw [if_neg he]; rfl
  have hgo : Ev (fun k => celluloidlaw04_HuffBack.f k l x more) true := by
    by_cases he : errOf l = 0
    · obtain ⟨hlen, hok, hb⟩ := errOf_ok l he
      have hcl : ((codesOf l).length : Int) = l.length := by rw [codesOf_length]
      have hfin := fin 0 (codesOf l) (fun _ => codesOf_length l)
      by_cases hx0 : x < 0
      · refine (fun (h : Ev _ true) => (?_ : Ev _ true)) (hfin ((newCs l).getD 0 0) ((newCs l).getD 1 0) ((newCs l).getD 2 0) ((newCs l).getD 3 0) ((newCs l).getD 4 0) ((newCs l).getD 5 0) ((newCs l).getD 6 0) ((newCs l).getD 7 0) ((newCs l).getD 8 0) ((newCs l).getD 9 0) ((newCs l).getD 10 0) ((newCs l).getD 11 0) ((newCs l).getD 12 0) ((newCs l).getD 13 0) ((newCs l).getD 14 0) ((newCs l).getD 15 0) (newSs l))
        obtain ⟨K, h⟩ := h
        refine ⟨K, fun k hk => ?_⟩
        unfold celluloidlaw04_HuffBack.f huff_New.f huff_Codes.f
        simp only [Option.bind_some]
        rw [he, if_pos rfl, if_pos rfl, if_pos hx0]
        exact h k hk
      obtain ⟨i, rfl⟩ : ∃ i : Nat, x = i := ⟨x.toNat, by omega⟩
      by_cases hi : (i : Int) ≥ l.length
      · obtain ⟨K, h⟩ := hfin ((newCs l).getD 0 0) ((newCs l).getD 1 0) ((newCs l).getD 2 0) ((newCs l).getD 3 0) ((newCs l).getD 4 0) ((newCs l).getD 5 0) ((newCs l).getD 6 0) ((newCs l).getD 7 0) ((newCs l).getD 8 0) ((newCs l).getD 9 0) ((newCs l).getD 10 0) ((newCs l).getD 11 0) ((newCs l).getD 12 0) ((newCs l).getD 13 0) ((newCs l).getD 14 0) ((newCs l).getD 15 0) (newSs l)
        refine ⟨K, fun k hk => ?_⟩
        unfold celluloidlaw04_HuffBack.f huff_New.f huff_Codes.f
        simp only [Option.bind_some]
        rw [he, if_pos rfl, if_pos rfl, if_neg hx0, if_pos hi]
        exact h k hk
      obtain ⟨n, hn, hn15⟩ := ok_at l hok i (by omega)
      have hri : rd l i = n := by rw [rd_nat]; exact hn
      have hj0 : Ev (fun k => celluloidlaw04_HuffBack.j0 k l i more 0 (codesOf l) (decide ((more.size : Int) > 100)) ((newCs l).getD 0 0) ((newCs l).getD 1 0) ((newCs l).getD 2 0) ((newCs l).getD 3 0) ((newCs l).getD 4 0) ((newCs l).getD 5 0) ((newCs l).getD 6 0) ((newCs l).getD 7 0) ((newCs l).getD 8 0) ((newCs l).getD 9 0) ((newCs l).getD 10 0) ((newCs l).getD 11 0) ((newCs l).getD 12 0) ((newCs l).getD 13 0) ((newCs l).getD 14 0) ((newCs l).getD 15 0) (newSs l)) true := by
        by_cases hz : (more.size : Int) > 100
        · rw [decide_eq_true hz]
          exact hfin _ _ _ _ _ _ _ _ _ _ _ _ _ _ _ _ _
        · rw [decide_eq_false hz]
          by_cases h1 : (n : Int) < 1
          · refine Ev.step (fun k => ?_) (Ev.step (f := fun _ => some true) (g := fun k => celluloidlaw04_HuffBack.j1 k l i more (codesOf l) true ((newCs l).getD 0 0) ((newCs l).getD 1 0) ((newCs l).getD 2 0) ((newCs l).getD 3 0) ((newCs l).getD 4 0) ((newCs l).getD 5 0) ((newCs l).getD 6 0) ((newCs l).getD 7 0) ((newCs l).getD 8 0) ((newCs l).getD 9 0) ((newCs l).getD 10 0) ((newCs l).getD 11 0) ((newCs l).getD 12 0) ((newCs l).getD 13 0) ((newCs l).getD 14 0) ((newCs l).getD 15 0) (newSs l)) (fun k => ?_) (Ev.now _))
            · simp only [celluloidlaw04_HuffBack.j0]
              rw [if_neg (by decide), if_pos (Int.natCast_nonneg _), if_pos (by omega), hri, if_pos h1]
            · simp only [celluloidlaw04_HuffBack.j1]
              rw [if_pos trivial, haw]
              rfl
          · have hl0 := back_l0 l he more (by omega) i n (by omega) hn15 (by omega) hn n 0 (by omega)
            refine Ev.step (fun k => ?_) (Ev.step (g := fun k => celluloidlaw04_HuffBack.j1 k l i more (codesOf l) false ((newCs l).getD 0 0) ((newCs l).getD 1 0) ((newCs l).getD 2 0) ((newCs l).getD 3 0) ((newCs l).getD 4 0) ((newCs l).getD 5 0) ((newCs l).getD 6 0) ((newCs l).getD 7 0) ((newCs l).getD 8 0) ((newCs l).getD 9 0) ((newCs l).getD 10 0) ((newCs l).getD 11 0) ((newCs l).getD 12 0) ((newCs l).getD 13 0) ((newCs l).getD 14 0) ((newCs l).getD 15 0) (newSs l)) (fun k => ?_) hl0)
            · simp only [celluloidlaw04_HuffBack.j0]
              rw [if_neg (by decide), if_pos (Int.natCast_nonneg _), if_pos (by omega), hri, if_neg h1, decide_eq_false (by omega)]
            · simp only [celluloidlaw04_HuffBack.j1]
              rw [if_neg (by decide), if_pos (by decide)]
              rfl
      obtain ⟨K, h⟩ := hj0
      refine ⟨K, fun k hk => ?_⟩
      unfold celluloidlaw04_HuffBack.f huff_New.f huff_Codes.f
      simp only [Option.bind_some]
      rw [he, if_pos rfl, if_pos rfl, if_neg hx0, if_neg hi, if_pos rfl, if_pos hcl]
      exact h k hk
    · obtain ⟨K, h⟩ := fin (errOf l) [] (fun h => absurd h he) ((newCs l).getD 0 0) ((newCs l).getD 1 0) ((newCs l).getD 2 0) ((newCs l).getD 3 0) ((newCs l).getD 4 0) ((newCs l).getD 5 0) ((newCs l).getD 6 0) ((newCs l).getD 7 0) ((newCs l).getD 8 0) ((newCs l).getD 9 0) ((newCs l).getD 10 0) ((newCs l).getD 11 0) ((newCs l).getD 12 0) ((newCs l).getD 13 0) ((newCs l).getD 14 0) ((newCs l).getD 15 0) (newSs l)
      refine ⟨K, fun k hk => ?_⟩
      unfold celluloidlaw04_HuffBack.f huff_New.f huff_Codes.f
      simp only [Option.bind_some]
      rw [if_neg he, if_neg he]
      exact h k hk
  exact hgo.rounds
end Go.Proofs.Ytpbhkdamkbopkaa.Pure
