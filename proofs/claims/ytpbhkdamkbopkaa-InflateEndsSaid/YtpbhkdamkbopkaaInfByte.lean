/- Stored blocks, byte by byte; what Raw tells of bytes that begin alike. -/
import Derived.Test.YtpbhkdamkbopkaaInfSim
import Derived.Laws.DeepNot64
namespace Go.Proofs.Ytpbhkdamkbopkaa.Inf
set_option linter.unusedSimpArgs false
set_option linter.unusedVariables false
open Go.RowKit Go.Proofs.Ytpbhkdamkbopkaa.Ext Go.Proofs.Ytpbhkdamkbopkaa.RefP Go.Proofs.YtpbhkdamkbopkaaW.PrintWords Go.Proofs.YtpbhkdamkbopkaaW.PrintLast Go.Proofs.YtpbhkdamkbopkaaW.PrintMore

theorem strOfNums_bytes (s : ByteArray) : strOfNums (bytesOf s) = s := by
  unfold strOfNums bytesOf
  rw [List.map_map]
  have e : (fun n : Int => UInt8.ofNat n.toNat) ∘ (fun b : UInt8 => (b.toNat : Int)) = id := by
    funext b; simp
  rw [e, List.map_id]
theorem bytesOf_append (s t : ByteArray) : bytesOf (s ++ t) = bytesOf s ++ bytesOf t := by simp [bytesOf]
theorem strOfNums_append (a b : List Int) : strOfNums (a ++ b) = strOfNums a ++ strOfNums b := by
  apply ByteArray.ext
  simp [strOfNums, List.map_append]
theorem bt_left (s t : ByteArray) (j : Int) (h0 : 0 ≤ j) (h1 : j < s.size) : bt (s ++ t) j = bt s j := by
  rw [← rd_bytesOf, ← rd_bytesOf, bytesOf_append]
  unfold rd
  simp only [List.getD_eq_getElem?_getD]
  rw [List.getElem?_append_left (by rw [bytesOf_length]; omega)]
theorem bt_right (s t : ByteArray) (j : Int) (h1 : (s.size : Int) ≤ j) : bt (s ++ t) j = bt t (j - s.size) := by
  rw [← rd_bytesOf, ← rd_bytesOf, bytesOf_append]
  unfold rd
  simp only [List.getD_eq_getElem?_getD]
  rw [List.getElem?_append_right (by rw [bytesOf_length]; omega), bytesOf_length]
  have e : j.toNat - s.size = (j - (s.size : Int)).toNat := by omega
  rw [e]
theorem bt_nums (l : List Int) (hl : ∀ x ∈ l, 0 ≤ x ∧ x ≤ 255) (j : Nat) (h : j < l.length) : bt (strOfNums l) (j : Int) = l.getD j 0 := by
  rw [← rd_bytesOf]
  unfold rd bytesOf
  have hd : (strOfNums l).data.toList = l.map fun n => UInt8.ofNat n.toNat := rfl
  rw [hd, List.map_map]
  simp only [List.getD_eq_getElem?_getD, Int.toNat_natCast]
  rw [List.getElem?_map, List.getElem?_eq_getElem h]
  have := hl _ (List.getElem_mem h)
  simp
  omega
theorem cut_all (s : ByteArray) : cut s 0 s.size = bytesOf s := by
  have h := cut_bytes (s := s) (q := 0) (n := s.size) (by omega)
  rw [← h]
  simp
theorem bitN_at (s : ByteArray) (q : Int) (i : Nat) (hi : i < 8) : bitN s (8 * q + i) = bt s q / 2 ^ i % 2 := by
  unfold bitN
  rw [show (8 * q + (i : Int)) / 8 = q by omega, show ((8 * q + (i : Int)) % 8).toNat = i by omega]
theorem Bn_mod (s : ByteArray) (q : Int) : ∀ k : Nat, k ≤ 8 → Bn s (8 * q) k = (((bt s q).toNat % 2 ^ k : Nat) : Int) := by
  intro k
  induction k with
  | zero => intro _; simp [Bn, Nat.mod_one]
  | succ k ih =>
    intro hk
    show Bn s (8 * q) k + 2 ^ k * bitN s (8 * q + k) = _
    rw [ih (by omega), bitN_at s q k (by omega), Nat.mod_pow_succ]
    have hr := bt_range s q
    obtain ⟨b, hb⟩ := Int.eq_ofNat_of_zero_le hr.1
    rw [hb, Int.toNat_natCast]
    push_cast
    rfl
theorem Bn8 (s : ByteArray) (q : Int) : Bn s (8 * q) 8 = bt s q := by
  have hr := bt_range s q
  rw [Bn_mod s q 8 (Nat.le_refl _), show (2 : Nat) ^ 8 = 256 from rfl]
  omega
theorem Bn_add (s : ByteArray) (pos : Int) (a : Nat) : ∀ b : Nat, Bn s pos (a + b) = Bn s pos a + 2 ^ a * Bn s (pos + a) b := by
  intro b
  induction b with
  | zero => simp [Bn]
  | succ b ih =>
    show Bn s pos (a + b) + 2 ^ (a + b) * bitN s (pos + ((a + b : Nat) : Int)) = Bn s pos a + 2 ^ a * (Bn s (pos + a) b + 2 ^ b * bitN s (pos + a + b))
    rw [ih, Int.pow_add, Int.mul_add, show pos + ((a + b : Nat) : Int) = pos + a + b by omega, Int.mul_assoc]
    omega
theorem Bn16 (s : ByteArray) (q : Int) : Bn s (8 * q) 16 = bt s q + 256 * bt s (q + 1) := by
  have h := Bn_add s (8 * q) 8 8
  rw [Bn8, show 8 * q + ((8 : Nat) : Int) = 8 * (q + 1) by omega, Bn8] at h
  exact h
theorem Bn_one (s : ByteArray) (q : Int) : Bn s (8 * q) 1 = bt s q % 2 := by
  have h0 := bitN_at s q 0 (by decide)
  simp only [Bn]
  rw [h0]
  simp only [show (2 : Int) ^ 0 = 1 from rfl]
  omega
theorem Bn_two (s : ByteArray) (q : Int) : Bn s (8 * q + 1) 2 = bt s q / 2 % 4 := by
  have h1 := bitN_at s q 1 (by decide)
  have h2 := bitN_at s q 2 (by decide)
  simp only [Bn]
  rw [show 8 * q + 1 + ((0 : Nat) : Int) = 8 * q + ((1 : Nat) : Int) by omega, h1, show 8 * q + 1 + ((1 : Nat) : Int) = 8 * q + ((2 : Nat) : Int) by omega, h2]
  simp only [show (2 : Int) ^ 0 = 1 from rfl, show (2 : Int) ^ 1 = 2 from rfl, show (2 : Int) ^ 2 = 4 from rfl]
  omega
theorem bits_at (s : ByteArray) (k : Nat) (p : Int) (o : List Int) (h0 : 0 ≤ p) (hk : k ≤ 16) (h : p + k ≤ 8 * s.size) : bits s k ⟨p, o, 0⟩ = (Bn s p k, ⟨p + k, o, 0⟩) := by
  have e : bitsOf s p k = (Bn s p k, p + k, 0) := by
    unfold bitsOf
    rw [if_neg (by omega), if_pos h, Int.toNat_natCast]
  unfold bits tak
  rw [if_pos rfl]
  simp only [e]
  rfl
theorem xor_16 (n : Int) (h0 : 0 ≤ n) (h1 : n ≤ 65535) : Go.bits .xor .i64 n (65535 - n) = 65535 := by
  obtain ⟨a, rfl⟩ := Int.eq_ofNat_of_zero_le h0
  have hb : (65535 - (a : Int)) = ((65535 - a : Nat) : Int) := by omega
  rw [hb]
  have hx : a ^^^ (65535 - a) = 65535 := by
    have e1 : (BitVec.ofNat 16 a).toNat = a := by rw [BitVec.toNat_ofNat]; omega
    have e2 : (~~~ (BitVec.ofNat 16 a)).toNat = 65535 - a := by rw [BitVec.toNat_not, e1]
    have e3 : ((BitVec.ofNat 16 a) ^^^ ~~~ (BitVec.ofNat 16 a)).toNat = 65535 := by
      have : (BitVec.ofNat 16 a) ^^^ ~~~ (BitVec.ofNat 16 a) = BitVec.allOnes 16 := by
        ext i hi
        rw [BitVec.getElem_xor, BitVec.getElem_not, BitVec.getElem_allOnes]
        cases (BitVec.ofNat 16 a)[i] <;> rfl
      rw [this]; rfl
    rw [BitVec.toNat_xor, e1, e2] at e3
    exact e3
  show IntKind.i64.wrap ((BitVec.ofInt 64 (a : Int) ^^^ BitVec.ofInt 64 ((65535 - a : Nat) : Int)).toNat : Int) = _
  rw [BitVec.toNat_xor, ofInt_u64 a (by omega), ofInt_u64 (65535 - a) (by omega), hx, IntKind.wrap_i64]
  rfl
/-- A stored block in its bytes. -/
structure Stb (s : ByteArray) (q : Nat) (f : Int) (n : Nat) : Prop where
  z : q + 5 + n ≤ s.size
  f : bt s (q : Int) = f
  a : bt s ((q : Int) + 1) + 256 * bt s ((q : Int) + 2) = n
  b : bt s ((q : Int) + 3) + 256 * bt s ((q : Int) + 4) = 65535 - n
theorem stored_at {s : ByteArray} {mx : Int} {q n : Nat} {f p : Int} {o : List Int} (h : Stb s q f n) (hn : n ≤ 65535) (hp0 : 8 * q < p) (hp1 : p ≤ 8 * q + 8) (ho : (o.length : Int) + n ≤ mx) : stored s mx ⟨p, o, 0⟩ = ⟨8 * ((q + 5 + n : Nat) : Int), o ++ cut s (q + 5) n, 0⟩ := by
  have hz := h.z
  have e0 : (p + 7) / 8 * 8 = 8 * ((q : Int) + 1) := by omega
  unfold stored
  simp only
  rw [e0, show (16 : Int) = ((16 : Nat) : Int) from rfl, bits_at s 16 _ o (by omega) (by decide) (by omega)]
  simp only
  rw [show 8 * ((q : Int) + 1) + ((16 : Nat) : Int) = 8 * ((q : Int) + 3) by omega, bits_at s 16 _ o (by omega) (by decide) (by omega)]
  simp only
  rw [Bn16, Bn16, show (q : Int) + 1 + 1 = q + 2 by omega, show (q : Int) + 3 + 1 = q + 4 by omega, h.a, h.b, xor_16 _ (by omega) (by omega), if_pos trivial, if_pos rfl, if_pos ho]
  have e1 : (8 * ((q : Int) + 3) + ((16 : Nat) : Int)) / 8 = ((q + 5 : Nat) : Int) := by omega
  rw [e1, if_pos (by omega), Int.toNat_natCast, Int.toNat_natCast]
  congr 1
  omega
theorem block_at {s : ByteArray} {mx : Int} {q n : Nat} {f : Int} {o : List Int} (h : Stb s q f n) (hf : f = 0 ∨ f = 1) (hn : n ≤ 65535) (ho : (o.length : Int) + n ≤ mx) : block s mx ⟨8 * (q : Int), o, 0⟩ = (decide (f = 1), ⟨8 * ((q + 5 + n : Nat) : Int), o ++ cut s (q + 5) n, 0⟩) := by
  have hz := h.z
  unfold block
  simp only
  rw [show (1 : Int) = ((1 : Nat) : Int) from rfl, bits_at s 1 _ o (by omega) (by decide) (by omega)]
  simp only
  rw [show (2 : Int) = ((2 : Nat) : Int) from rfl, bits_at s 2 _ o (by omega) (by decide) (by omega)]
  simp only
  have e2 : Bn s (8 * (q : Int) + ((1 : Nat) : Int)) 2 = 0 := by
    rw [show 8 * (q : Int) + ((1 : Nat) : Int) = 8 * (q : Int) + 1 by omega, Bn_two, h.f]
    rcases hf with rfl | rfl <;> rfl
  have e1 : Bn s (8 * (q : Int)) 1 = f := by
    rw [Bn_one, h.f]
    rcases hf with rfl | rfl <;> rfl
  rw [e1, e2, if_pos rfl, if_pos trivial, stored_at h hn (by omega) (by omega) ho]
/-! ### Raw -/
def run0 (s : ByteArray) (mx : Int) : St := blocks s mx (8 * s.size + 2) ⟨0, [], 0⟩
theorem ok0 (s : ByteArray) : Ok s ⟨0, [], 0⟩ := ⟨Int.le_refl _, by show (0 : Int) ≤ _; omega, .inl rfl⟩
theorem left0 (s : ByteArray) : left s ⟨0, [], 0⟩ ≤ 8 * s.size + 2 := by unfold left; show (8 * (s.size : Int) + 1 - 0).toNat + 1 ≤ _; omega
theorem raw_is (s : ByteArray) (mx : Int) (h : 0 ≤ mx ∧ mx ≤ 262144) : raw s mx = if (run0 s mx).e = 0 then (strOfNums (run0 s mx).o, ((run0 s mx).p + 7) / 8, 0) else (⟨#[]⟩, 0, (run0 s mx).e) := by
  unfold raw; rw [if_neg (by omega)]; rfl
theorem raw_same {s t : ByteArray} {N : Nat} {mx mz : Int} (A : Agr s t N) (hx : 0 ≤ mx ∧ mx ≤ 262144) (hz : 0 ≤ mz ∧ mz ≤ 262144) (he : (run0 s mx).e = 0) (hp : (run0 s mx).p ≤ 8 * N) :
    (((run0 s mx).o.length : Int) ≤ mz → raw t mz = raw s mx) ∧ (mz < ((run0 s mx).o.length : Int) → (raw t mz).2.2 = 7) := by
  have f := blocks_same (mz := mz) A (8 * s.size + 2) ⟨0, [], 0⟩ (ok0 s) rfl (left0 s) he hp hz.1 (8 * t.size + 2) (left0 t)
  refine ⟨fun h => ?_, fun h => ?_⟩
  · rw [raw_is s mx hx, raw_is t mz hz]
    have e : run0 t mz = run0 s mx := f.1 h
    rw [e]
  · have e7 : (run0 t mz).e = 7 := f.2 h
    rw [raw_is t mz hz, if_neg (by rw [e7]; decide)]
    exact e7
theorem run_aft (s : ByteArray) (hs : s.size ≤ 140737488351232) (mx : Int) : Aft s mx ⟨0, [], 0⟩ (run0 s mx) := Aft.blocks hs _ _ (ok0 s)
theorem run_pos (s : ByteArray) (hs : s.size ≤ 140737488351232) (mx : Int) (he : (run0 s mx).e = 0) : 1 ≤ (run0 s mx).p := by
  have a1 := Aft.block (mx := mx) hs (ok0 s)
  have e : run0 s mx = if (block s mx ⟨0, [], 0⟩).1 = true then (block s mx ⟨0, [], 0⟩).2 else if (block s mx ⟨0, [], 0⟩).2.e = 0 then blocks s mx (8 * s.size + 1) (block s mx ⟨0, [], 0⟩).2 else (block s mx ⟨0, [], 0⟩).2 := rfl
  rw [e] at he ⊢
  split at he
  · rename_i c; rw [if_pos c]; exact a1.2 he
  · rename_i c
    rw [if_neg c]
    split at he
    · rename_i c2; rw [if_pos c2]
      exact Int.le_trans (a1.2 c2) (Aft.blocks (mx := mx) hs _ _ a1.1.ok).p
    · rename_i c2; exact absurd he c2
end Go.Proofs.Ytpbhkdamkbopkaa.Inf
