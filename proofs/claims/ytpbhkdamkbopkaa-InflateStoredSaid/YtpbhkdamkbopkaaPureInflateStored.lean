/- A stored block is just its bytes; a sum that is turned is found. -/
import Derived.Test.YtpbhkdamkbopkaaInfSim
import Derived.Laws.DeepNot64
import Derived.Test.YtpbhkdamkbopkaaGEndsx1
import Derived.Test.YtpbhkdamkbopkaaGEndsx2
/- Stored blocks, byte by byte; what Raw tells of bytes that begin alike. -/
namespace Go.Proofs.Ytpbhkdamkbopkaa.Inf
set_option linter.unusedSimpArgs false
set_option linter.unusedVariables false
open Go.RowKit Go.Proofs.Ytpbhkdamkbopkaa.Ext Go.Proofs.Ytpbhkdamkbopkaa.RefP Go.Proofs.YtpbhkdamkbopkaaW.PrintWords Go.Proofs.YtpbhkdamkbopkaaW.PrintLast Go.Proofs.YtpbhkdamkbopkaaW.PrintMore

theorem strOfNums_bytes (s : ByteArray) : strOfNums (bytesOf s) = s := by
  unfold strOfNums bytesOf
  rw [List.map_map]
  have e : (fun n : Int => UInt8.ofNat n.toNat) ∘ (fun b : UInt8 => (b.toNat : Int)) = id := by
    funext b; simp
  rw [e, List.map_id]
theorem bytesOf_append (s t : ByteArray) : bytesOf (s ++ t) = bytesOf s ++ bytesOf t := by simp [bytesOf]
theorem strOfNums_append (a b : List Int) : strOfNums (a ++ b) = strOfNums a ++ strOfNums b := by
  apply ByteArray.ext
  simp [strOfNums, List.map_append]
theorem bt_left (s t : ByteArray) (j : Int) (h0 : 0 ≤ j) (h1 : j < s.size) : bt (s ++ t) j = bt s j := by
  rw [← rd_bytesOf, ← rd_bytesOf, bytesOf_append]
  unfold rd
  simp only [List.getD_eq_getElem?_getD]
  rw [List.getElem?_append_left (by rw [bytesOf_length]; omega)]
theorem bt_right (s t : ByteArray) (j : Int) (h1 : (s.size : Int) ≤ j) : bt (s ++ t) j = bt t (j - s.size) := by
  rw [← rd_bytesOf, ← rd_bytesOf, bytesOf_append]
  unfold rd
  simp only [List.getD_eq_getElem?_getD]
  rw [List.getElem?_append_right (by rw [bytesOf_length]; omega), bytesOf_length]
  have e : j.toNat - s.size = (j - (s.size : Int)).toNat := by omega
  rw [e]
theorem bt_nums (l : List Int) (hl : ∀ x ∈ l, 0 ≤ x ∧ x ≤ 255) (j : Nat) (h : j < l.length) : bt (strOfNums l) (j : Int) = l.getD j 0 := by
  rw [← rd_bytesOf]
  unfold rd bytesOf
  have hd : (strOfNums l).data.toList = l.map fun n => UInt8.ofNat n.toNat := rfl
  rw [hd, List.map_map]
  simp only [List.getD_eq_getElem?_getD, Int.toNat_natCast]
  rw [List.getElem?_map, List.getElem?_eq_getElem h]
  have := hl _ (List.getElem_mem h)
  simp
  omega
theorem cut_all (s : ByteArray) : cut s 0 s.size = bytesOf s := by
  have h := cut_bytes (s := s) (q := 0) (n := s.size) (by omega)
  rw [← h]
  simp
theorem bitN_at (s : ByteArray) (q : Int) (i : Nat) (hi : i < 8) : bitN s (8 * q + i) = bt s q / 2 ^ i % 2 := by
  unfold bitN
  rw [show (8 * q + (i : Int)) / 8 = q by omega, show ((8 * q + (i : Int)) % 8).toNat = i by omega]
theorem Bn_mod (s : ByteArray) (q : Int) : ∀ k : Nat, k ≤ 8 → Bn s (8 * q) k = (((bt s q).toNat % 2 ^ k : Nat) : Int) := by
  intro k
  induction k with
  | zero => intro _; simp [Bn, Nat.mod_one]
  | succ k ih =>
    intro hk
    show Bn s (8 * q) k + 2 ^ k * bitN s (8 * q + k) = _
    rw [ih (by omega), bitN_at s q k (by omega), Nat.mod_pow_succ]
    have hr := bt_range s q
    obtain ⟨b, hb⟩ := Int.eq_ofNat_of_zero_le hr.1
    rw [hb, Int.toNat_natCast]
    push_cast
    rfl
theorem Bn8 (s : ByteArray) (q : Int) : Bn s (8 * q) 8 = bt s q := by
  have hr := bt_range s q
  rw [Bn_mod s q 8 (Nat.le_refl _), show (2 : Nat) ^ 8 = 256 from rfl]
  omega
theorem Bn_add (s : ByteArray) (pos : Int) (a : Nat) : ∀ b : Nat, Bn s pos (a + b) = Bn s pos a + 2 ^ a * Bn s (pos + a) b := by
  intro b
  induction b with
  | zero => simp [Bn]
  | succ b ih =>
    show Bn s pos (a + b) + 2 ^ (a + b) * bitN s (pos + ((a + b : Nat) : Int)) = Bn s pos a + 2 ^ a * (Bn s (pos + a) b + 2 ^ b * bitN s (pos + a + b))
    rw [ih, Int.pow_add, Int.mul_add, show pos + ((a + b : Nat) : Int) = pos + a + b by omega, Int.mul_assoc]
    omega
theorem Bn16 (s : ByteArray) (q : Int) : Bn s (8 * q) 16 = bt s q + 256 * bt s (q + 1) := by
  have h := Bn_add s (8 * q) 8 8
  rw [Bn8, show 8 * q + ((8 : Nat) : Int) = 8 * (q + 1) by omega, Bn8] at h
  exact h
theorem Bn_one (s : ByteArray) (q : Int) : Bn s (8 * q) 1 = bt s q % 2 := by
  have h0 := bitN_at s q 0 (by decide)
  simp only [Bn]
  rw [h0]
  simp only [show (2 : Int) ^ 0 = 1 from rfl]
  omega
theorem Bn_two (s : ByteArray) (q : Int) : Bn s (8 * q + 1) 2 = bt s q / 2 % 4 := by
  have h1 := bitN_at s q 1 (by decide)
  have h2 := bitN_at s q 2 (by decide)
  simp only [Bn]
  rw [show 8 * q + 1 + ((0 : Nat) : Int) = 8 * q + ((1 : Nat) : Int) by omega, h1, show 8 * q + 1 + ((1 : Nat) : Int) = 8 * q + ((2 : Nat) : Int) by omega, h2]
  simp only [show (2 : Int) ^ 0 = 1 from rfl, show (2 : Int) ^ 1 = 2 from rfl, show (2 : Int) ^ 2 = 4 from rfl]
  omega
theorem bits_at (s : ByteArray) (k : Nat) (p : Int) (o : List Int) (h0 : 0 ≤ p) (hk : k ≤ 16) (h : p + k ≤ 8 * s.size) : bits s k ⟨p, o, 0⟩ = (Bn s p k, ⟨p + k, o, 0⟩) := by
  have e : bitsOf s p k = (Bn s p k, p + k, 0) := by
    unfold bitsOf
    rw [if_neg (by omega), if_pos h, Int.toNat_natCast]
  unfold bits tak
  rw [if_pos rfl]
  simp only [e]
  rfl
theorem xor_16 (n : Int) (h0 : 0 ≤ n) (h1 : n ≤ 65535) : Go.bits .xor .i64 n (65535 - n) = 65535 := by
  obtain ⟨a, rfl⟩ := Int.eq_ofNat_of_zero_le h0
  have hb : (65535 - (a : Int)) = ((65535 - a : Nat) : Int) := by omega
  rw [hb]
  have hx : a ^^^ (65535 - a) = 65535 := by
    have e1 : (BitVec.ofNat 16 a).toNat = a := by rw [BitVec.toNat_ofNat]; omega
    have e2 : (~~~ (BitVec.ofNat 16 a)).toNat = 65535 - a := by rw [BitVec.toNat_not, e1]
    have e3 : ((BitVec.ofNat 16 a) ^^^ ~~~ (BitVec.ofNat 16 a)).toNat = 65535 := by
      have : (BitVec.ofNat 16 a) ^^^ ~~~ (BitVec.ofNat 16 a) = BitVec.allOnes 16 := by
        ext i hi
        rw [BitVec.getElem_xor, BitVec.getElem_not, BitVec.getElem_allOnes]
        cases (BitVec.ofNat 16 a)[i] <;> rfl
      rw [this]; rfl
    rw [BitVec.toNat_xor, e1, e2] at e3
    exact e3
  show IntKind.i64.wrap ((BitVec.ofInt 64 (a : Int) ^^^ BitVec.ofInt 64 ((65535 - a : Nat) : Int)).toNat : Int) = _
  rw [BitVec.toNat_xor, ofInt_u64 a (by omega), ofInt_u64 (65535 - a) (by omega), hx, IntKind.wrap_i64]
  rfl
/-- A stored block in its bytes. -/
structure Stb (s : ByteArray) (q : Nat) (f : Int) (n : Nat) : Prop where
  z : q + 5 + n ≤ s.size
  f : bt s (q : Int) = f
  a : bt s ((q : Int) + 1) + 256 * bt s ((q : Int) + 2) = n
  b : bt s ((q : Int) + 3) + 256 * bt s ((q : Int) + 4) = 65535 - n
theorem stored_at {s : ByteArray} {mx : Int} {q n : Nat} {f p : Int} {o : List Int} (h : Stb s q f n) (hn : n ≤ 65535) (hp0 : 8 * q < p) (hp1 : p ≤ 8 * q + 8) (ho : (o.length : Int) + n ≤ mx) : stored s mx ⟨p, o, 0⟩ = ⟨8 * ((q + 5 + n : Nat) : Int), o ++ cut s (q + 5) n, 0⟩ := by
  have hz := h.z
  have e0 : (p + 7) / 8 * 8 = 8 * ((q : Int) + 1) := by omega
  unfold stored
  simp only
  rw [e0, show (16 : Int) = ((16 : Nat) : Int) from rfl, bits_at s 16 _ o (by omega) (by decide) (by omega)]
  simp only
  rw [show 8 * ((q : Int) + 1) + ((16 : Nat) : Int) = 8 * ((q : Int) + 3) by omega, bits_at s 16 _ o (by omega) (by decide) (by omega)]
  simp only
  rw [Bn16, Bn16, show (q : Int) + 1 + 1 = q + 2 by omega, show (q : Int) + 3 + 1 = q + 4 by omega, h.a, h.b, xor_16 _ (by omega) (by omega), if_pos trivial, if_pos rfl, if_pos ho]
  have e1 : (8 * ((q : Int) + 3) + ((16 : Nat) : Int)) / 8 = ((q + 5 : Nat) : Int) := by omega
  rw [e1, if_pos (by omega), Int.toNat_natCast, Int.toNat_natCast]
  congr 1
  omega
theorem block_at {s : ByteArray} {mx : Int} {q n : Nat} {f : Int} {o : List Int} (h : Stb s q f n) (hf : f = 0 ∨ f = 1) (hn : n ≤ 65535) (ho : (o.length : Int) + n ≤ mx) : block s mx ⟨8 * (q : Int), o, 0⟩ = (decide (f = 1), ⟨8 * ((q + 5 + n : Nat) : Int), o ++ cut s (q + 5) n, 0⟩) := by
  have hz := h.z
  unfold block
  simp only
  rw [show (1 : Int) = ((1 : Nat) : Int) from rfl, bits_at s 1 _ o (by omega) (by decide) (by omega)]
  simp only
  rw [show (2 : Int) = ((2 : Nat) : Int) from rfl, bits_at s 2 _ o (by omega) (by decide) (by omega)]
  simp only
  have e2 : Bn s (8 * (q : Int) + ((1 : Nat) : Int)) 2 = 0 := by
    rw [show 8 * (q : Int) + ((1 : Nat) : Int) = 8 * (q : Int) + 1 by omega, Bn_two, h.f]
    rcases hf with rfl | rfl <;> rfl
  have e1 : Bn s (8 * (q : Int)) 1 = f := by
    rw [Bn_one, h.f]
    rcases hf with rfl | rfl <;> rfl
  rw [e1, e2, if_pos rfl, if_pos trivial, stored_at h hn (by omega) (by omega) ho]
/-! ### Raw -/
def run0 (s : ByteArray) (mx : Int) : St := blocks s mx (8 * s.size + 2) ⟨0, [], 0⟩
theorem ok0 (s : ByteArray) : Ok s ⟨0, [], 0⟩ := ⟨Int.le_refl _, by show (0 : Int) ≤ _; omega, .inl rfl⟩
theorem left0 (s : ByteArray) : left s ⟨0, [], 0⟩ ≤ 8 * s.size + 2 := by unfold left; show (8 * (s.size : Int) + 1 - 0).toNat + 1 ≤ _; omega
theorem raw_is (s : ByteArray) (mx : Int) (h : 0 ≤ mx ∧ mx ≤ 262144) : raw s mx = if (run0 s mx).e = 0 then (strOfNums (run0 s mx).o, ((run0 s mx).p + 7) / 8, 0) else (⟨#[]⟩, 0, (run0 s mx).e) := by
  unfold raw; rw [if_neg (by omega)]; rfl
theorem raw_same {s t : ByteArray} {N : Nat} {mx mz : Int} (A : Agr s t N) (hx : 0 ≤ mx ∧ mx ≤ 262144) (hz : 0 ≤ mz ∧ mz ≤ 262144) (he : (run0 s mx).e = 0) (hp : (run0 s mx).p ≤ 8 * N) :
    (((run0 s mx).o.length : Int) ≤ mz → raw t mz = raw s mx) ∧ (mz < ((run0 s mx).o.length : Int) → (raw t mz).2.2 = 7) := by
  have f := blocks_same (mz := mz) A (8 * s.size + 2) ⟨0, [], 0⟩ (ok0 s) rfl (left0 s) he hp hz.1 (8 * t.size + 2) (left0 t)
  refine ⟨fun h => ?_, fun h => ?_⟩
  · rw [raw_is s mx hx, raw_is t mz hz]
    have e : run0 t mz = run0 s mx := f.1 h
    rw [e]
  · have e7 : (run0 t mz).e = 7 := f.2 h
    rw [raw_is t mz hz, if_neg (by rw [e7]; decide)]
    exact e7
theorem run_aft (s : ByteArray) (hs : s.size ≤ 140737488351232) (mx : Int) : Aft s mx ⟨0, [], 0⟩ (run0 s mx) := Aft.blocks hs _ _ (ok0 s)
theorem run_pos (s : ByteArray) (hs : s.size ≤ 140737488351232) (mx : Int) (he : (run0 s mx).e = 0) : 1 ≤ (run0 s mx).p := by
  have a1 := Aft.block (mx := mx) hs (ok0 s)
  have e : run0 s mx = if (block s mx ⟨0, [], 0⟩).1 = true then (block s mx ⟨0, [], 0⟩).2 else if (block s mx ⟨0, [], 0⟩).2.e = 0 then blocks s mx (8 * s.size + 1) (block s mx ⟨0, [], 0⟩).2 else (block s mx ⟨0, [], 0⟩).2 := rfl
  rw [e] at he ⊢
  split at he
  · rename_i c; rw [if_pos c]; exact a1.2 he
  · rename_i c
    rw [if_neg c]
    split at he
    · rename_i c2; rw [if_pos c2]
      exact Int.le_trans (a1.2 c2) (Aft.blocks (mx := mx) hs _ _ a1.1.ok).p
    · rename_i c2; exact absurd he c2
end Go.Proofs.Ytpbhkdamkbopkaa.Inf
/- Raw of stored blocks, one behind the other. -/
namespace Go.Proofs.Ytpbhkdamkbopkaa.Inf
set_option linter.unusedSimpArgs false
set_option linter.unusedVariables false
open Go.RowKit Go.Proofs.Ytpbhkdamkbopkaa.Ext Go.Proofs.Ytpbhkdamkbopkaa.RefP Go.Proofs.YtpbhkdamkbopkaaW.PrintWords Go.Proofs.YtpbhkdamkbopkaaW.PrintLast Go.Proofs.YtpbhkdamkbopkaaW.PrintMore

/-- A stored block's head: is it the last, its length, its length turned. -/
def hdr (f : Int) (n : Nat) : List Int := [f, (n : Int) % 256, (n : Int) / 256 % 256, 255 - (n : Int) % 256, 255 - (n : Int) / 256 % 256]
def sblk (f : Int) (a : ByteArray) : ByteArray := strOfNums (hdr f a.size) ++ a
theorem hdr_size (f : Int) (n : Nat) : (strOfNums (hdr f n)).size = 5 := rfl
theorem sblk_size (f : Int) (a : ByteArray) : (sblk f a).size = 5 + a.size := by unfold sblk; rw [ByteArray.size_append, hdr_size]
theorem hdr_rng (f : Int) (n : Nat) (hf : f = 0 ∨ f = 1) : ∀ x ∈ hdr f n, 0 ≤ x ∧ x ≤ 255 := by
  intro x hx
  unfold hdr at hx
  simp only [List.mem_cons, List.not_mem_nil, or_false] at hx
  rcases hx with rfl | rfl | rfl | rfl | rfl <;> omega
theorem bt_mid (pre m X : ByteArray) (i : Nat) (hi : i < m.size) : bt ((pre ++ m) ++ X) ((pre.size : Int) + i) = bt m i := by
  rw [bt_left _ _ _ (by omega) (by rw [ByteArray.size_append]; omega), bt_right _ _ _ (by omega)]
  congr 1
  omega
theorem sblk_hdr (f : Int) (a : ByteArray) (hf : f = 0 ∨ f = 1) (i : Nat) (hi : i < 5) : bt (sblk f a) (i : Int) = (hdr f a.size).getD i 0 := by
  unfold sblk
  rw [bt_left _ _ _ (by omega) (by rw [hdr_size]; omega)]
  exact bt_nums _ (hdr_rng f a.size hf) i hi
theorem sblk_body (f : Int) (a : ByteArray) (i : Nat) : bt (sblk f a) ((5 + i : Nat) : Int) = bt a i := by
  unfold sblk
  rw [bt_right _ _ _ (by rw [hdr_size]; omega), hdr_size]
  congr 1
  omega
theorem stored_mid (pre a X : ByteArray) (f : Int) (hf : f = 0 ∨ f = 1) (hn : a.size ≤ 65535) :
    Stb ((pre ++ sblk f a) ++ X) pre.size f a.size ∧ cut ((pre ++ sblk f a) ++ X) (pre.size + 5) a.size = bytesOf a := by
  have hz := sblk_size f a
  have hb : ∀ i : Nat, i < 5 → bt ((pre ++ sblk f a) ++ X) ((pre.size : Int) + i) = (hdr f a.size).getD i 0 := fun i hi => by
    rw [bt_mid _ _ _ i (by omega), sblk_hdr f a hf i hi]
  have h0 := hb 0 (by decide)
  have h1 := hb 1 (by decide)
  have h2 := hb 2 (by decide)
  have h3 := hb 3 (by decide)
  have h4 := hb 4 (by decide)
  have g1 : (hdr f a.size).getD 1 0 = (a.size : Int) % 256 := rfl
  have g2 : (hdr f a.size).getD 2 0 = (a.size : Int) / 256 % 256 := rfl
  have g3 : (hdr f a.size).getD 3 0 = 255 - (a.size : Int) % 256 := rfl
  have g4 : (hdr f a.size).getD 4 0 = 255 - (a.size : Int) / 256 % 256 := rfl
  refine ⟨⟨by rw [ByteArray.size_append, ByteArray.size_append, hz]; omega, ?_, ?_, ?_⟩, ?_⟩
  · rw [← Int.add_zero (pre.size : Int)]; exact h0
  · rw [show (pre.size : Int) + 1 = (pre.size : Int) + ((1 : Nat) : Int) from rfl, show (pre.size : Int) + 2 = (pre.size : Int) + ((2 : Nat) : Int) from rfl, h1, h2, g1, g2]; omega
  · rw [show (pre.size : Int) + 3 = (pre.size : Int) + ((3 : Nat) : Int) from rfl, show (pre.size : Int) + 4 = (pre.size : Int) + ((4 : Nat) : Int) from rfl, h3, h4, g3, g4]; omega
  · rw [← cut_all a]
    unfold cut
    refine List.map_congr_left fun i hi => ?_
    rw [List.mem_range] at hi
    have h := bt_mid pre (sblk f a) X (5 + i) (by omega)
    rw [show ((pre.size + 5 + i : Nat) : Int) = (pre.size : Int) + ((5 + i : Nat) : Int) by omega, h, sblk_body, Nat.zero_add]
/-- The bytes of blocks; the last one is told. -/
def chain : List ByteArray → ByteArray
  | [] => ⟨#[]⟩
  | [a] => sblk 1 a
  | a :: b :: l => sblk 0 a ++ chain (b :: l)
def joined : List ByteArray → ByteArray
  | [] => ⟨#[]⟩
  | a :: l => a ++ joined l
theorem blocks_chain (mx : Int) : ∀ (l : List ByteArray) (pre X : ByteArray) (o : List Int) (k : Nat), l ≠ [] → (∀ a ∈ l, a.size ≤ 65535) → (o.length : Int) + (joined l).size ≤ mx → l.length ≤ k →
    blocks ((pre ++ chain l) ++ X) mx k ⟨8 * (pre.size : Int), o, 0⟩ = ⟨8 * ((pre.size + (chain l).size : Nat) : Int), o ++ bytesOf (joined l), 0⟩ := by
  intro l
  induction l with
  | nil => intro _ _ _ _ h; exact absurd rfl h
  | cons a l ih =>
    intro pre X o k _ hl ho hk
    obtain ⟨k1, rfl⟩ : ∃ k1, k = k1 + 1 := ⟨k - 1, by simp only [List.length_cons] at hk; omega⟩
    have ha := hl a (List.mem_cons_self ..)
    cases l with
    | nil =>
      have e1 : joined [a] = a := by show a ++ (⟨#[]⟩ : ByteArray) = a; exact ByteArray.append_empty
      rw [e1] at ho ⊢
      obtain ⟨h1, h2⟩ := stored_mid pre a X 1 (.inr rfl) ha
      have hb := block_at (mx := mx) (o := o) h1 (.inr rfl) ha ho
      rw [h2] at hb
      show blocks ((pre ++ sblk 1 a) ++ X) mx (k1 + 1) _ = ⟨8 * ((pre.size + (sblk 1 a).size : Nat) : Int), _, 0⟩
      unfold blocks
      rw [hb, sblk_size, show pre.size + 5 + a.size = pre.size + (5 + a.size) by omega]
      exact if_pos (decide_eq_true (rfl : (1 : Int) = 1))
    | cons b l =>
      have e1 : joined (a :: b :: l) = a ++ joined (b :: l) := rfl
      have e2 : chain (a :: b :: l) = sblk 0 a ++ chain (b :: l) := rfl
      have e3 : (pre ++ chain (a :: b :: l)) ++ X = (pre ++ sblk 0 a) ++ (chain (b :: l) ++ X) := by rw [e2, ← ByteArray.append_assoc, ByteArray.append_assoc]
      rw [e1, ByteArray.size_append] at ho
      obtain ⟨h1, h2⟩ := stored_mid pre a (chain (b :: l) ++ X) 0 (.inl rfl) ha
      have hb := block_at (mx := mx) (o := o) h1 (.inl rfl) ha (by omega)
      rw [h2] at hb
      unfold blocks
      rw [e3, hb, if_neg (fun h => absurd (of_decide_eq_true h) (by decide)), if_pos rfl]
      simp only
      have h := ih (pre ++ sblk 0 a) X (o ++ bytesOf a) k1 (by simp) (fun c hc => hl c (List.mem_cons_of_mem _ hc)) (by rw [List.length_append, bytesOf_length]; omega) (by simp only [List.length_cons] at hk ⊢; omega)
      rw [ByteArray.append_assoc (a := pre ++ sblk 0 a)] at h
      rw [show ((pre.size + 5 + a.size : Nat) : Int) = ((pre ++ sblk 0 a).size : Int) by rw [ByteArray.size_append, sblk_size]; omega, h, e1, e2, bytesOf_append, List.append_assoc, ByteArray.size_append, ByteArray.size_append]
      congr 2
      omega
theorem raw_chain (l : List ByteArray) (X : ByteArray) (mx : Int) (hl : l ≠ []) (h : ∀ a ∈ l, a.size ≤ 65535) (h0 : ((joined l).size : Int) ≤ mx) (h1 : mx ≤ 262144) (hn : l.length ≤ 8 * (chain l ++ X).size + 2) :
    raw (chain l ++ X) mx = (joined l, ((chain l).size : Int), 0) := by
  have e := blocks_chain mx l ByteArray.empty X [] (8 * (chain l ++ X).size + 2) hl h (by show ((0 : Nat) : Int) + _ ≤ _; omega) hn
  rw [ByteArray.empty_append] at e
  have er : run0 (chain l ++ X) mx = ⟨8 * ((0 + (chain l).size : Nat) : Int), [] ++ bytesOf (joined l), 0⟩ := e
  rw [raw_is _ _ ⟨by omega, h1⟩, er]
  simp only
  rw [if_pos trivial, List.nil_append, strOfNums_bytes]
  congr 2
  omega
end Go.Proofs.Ytpbhkdamkbopkaa.Inf
/- What Open tells of bytes that are wrapped. -/
set_option linter.unusedSimpArgs false
set_option linter.unusedVariables false
namespace Go.Proofs.Ytpbhkdamkbopkaa.OpenE
open Go.RowKit Go.Proofs.Ytpbhkdamkbopkaa.Ext Go.Proofs.Ytpbhkdamkbopkaa.GEnds Go.Proofs.Ytpbhkdamkbopkaa.Wr2 Go.Proofs.Ytpbhkdamkbopkaa.Inf Go.Proofs.YtpbhkdamkbopkaaW.PrintWords Go.Proofs.YtpbhkdamkbopkaaW.PrintLast

theorem raw_f (s : ByteArray) (mx : Int) (hs : s.size ≤ 17592186044416) : inflate_Raw.f s mx = some (raw s mx) := by unfold inflate_Raw.f; rw [if_pos hs]
theorem behind (a b : ByteArray) (n m : Nat) (hn : n = a.size) (hm : m = (a ++ b).size) : (a ++ b).extract n m = b := by
  subst hn; subst hm
  rw [ByteArray.size_append]
  exact ByteArray.extract_append_eq_right rfl rfl
theorem d1 : Go.bits .and .u8 120 15 = 8 := by decide +kernel
theorem d2 : ¬ ((120 : Int) / 16 > 7) := by decide +kernel
theorem d3 : Int.tmod (Go.bits .or .i64 (wrap64 (wrap64 120 * 256)) (wrap64 156)) 31 = 0 := by decide +kernel
theorem d4 : Go.bits .and .u8 156 32 = 0 := by decide +kernel
theorem or_four (b0 b1 b2 b3 : Int) (h0 : 0 ≤ b0 ∧ b0 ≤ 255) (h1 : 0 ≤ b1 ∧ b1 ≤ 255) (h2 : 0 ≤ b2 ∧ b2 ≤ 255) (h3 : 0 ≤ b3 ∧ b3 ≤ 255) :
    Go.bits .or .i64 (Go.bits .or .i64 (Go.bits .or .i64 (wrap64 (wrap64 b0 * 16777216)) (wrap64 (wrap64 b1 * 65536))) (wrap64 (wrap64 b2 * 256))) (wrap64 b3) = b0 * 16777216 + b1 * 65536 + b2 * 256 + b3 := by
  have W : ∀ n : Int, 0 ≤ n → n < 2 ^ 40 → IntKind.i64.wrap n = n := fun n h0 h1 => by
    rw [IntKind.wrap_i64]
    have : (2 : Int) ^ 40 = 1099511627776 := by decide
    omega
  rw [wrap_in (n := b0) (by omega) (by omega), wrap_in (n := b1) (by omega) (by omega), wrap_in (n := b2) (by omega) (by omega), wrap_in (n := b3) (by omega) (by omega),
    wrap_in (n := b0 * 16777216) (by omega) (by omega), wrap_in (n := b1 * 65536) (by omega) (by omega), wrap_in (n := b2 * 256) (by omega) (by omega)]
  rw [Go.bits_join .i64 40 (by decide) W 24 (b0 * 16777216) (b1 * 65536) (by omega) (by omega) (by omega) (by omega) (by omega) (by omega)]
  rw [Go.bits_join .i64 40 (by decide) W 16 (b0 * 16777216 + b1 * 65536) (b2 * 256) (by omega) (by omega) (by omega) (by omega) (by omega) (by omega)]
  rw [Go.bits_join .i64 40 (by decide) W 8 (b0 * 16777216 + b1 * 65536 + b2 * 256) b3 (by omega) (by omega) (by omega) (by omega) (by omega) (by omega)]
/-- Bytes that are wrapped: their sum's four bytes behind them. -/
theorem open_is (k : Nat) (body tail out : ByteArray) (mx v : Int) (b0 b1 b2 b3 : Int) (h0 : 0 ≤ b0 ∧ b0 ≤ 255) (h1 : 0 ≤ b1 ∧ b1 ≤ 255) (h2 : 0 ≤ b2 ∧ b2 ≤ 255) (h3 : 0 ≤ b3 ∧ b3 ≤ 255) (ht : tail = strOfNums [b0, b1, b2, b3])
    (hm : 0 ≤ mx ∧ mx ≤ 262144) (hs : body.size ≤ 1000000000) (hr : raw (body ++ tail) mx = (out, (body.size : Int), 0)) (hv : adler_Sum.f k out = some v) :
    inflate_Open.f (k + 1) ((⟨#[120, 156]⟩ ++ body) ++ tail) mx = some (if b0 * 16777216 + b1 * 65536 + b2 * 256 + b3 = v then (out, 0) else (⟨#[]⟩, 5)) := by
  have e4 : tail.size = 4 := by rw [ht]; rfl
  have hl : ∀ x ∈ [b0, b1, b2, b3], 0 ≤ x ∧ x ≤ 255 := by
    intro x hx
    simp only [List.mem_cons, List.not_mem_nil, or_false] at hx
    rcases hx with rfl | rfl | rfl | rfl <;> assumption
  have t0 : bt tail 0 = b0 := by rw [ht]; exact bt_nums _ hl 0 (by decide : 0 < 4)
  have t1 : bt tail 1 = b1 := by rw [ht]; exact bt_nums _ hl 1 (by decide : 1 < 4)
  have t2 : bt tail 2 = b2 := by rw [ht]; exact bt_nums _ hl 2 (by decide : 2 < 4)
  have t3 : bt tail 3 = b3 := by rw [ht]; exact bt_nums _ hl 3 (by decide : 3 < 4)
  have z2 : (⟨#[120, 156]⟩ : ByteArray).size = 2 := rfl
  have eA : ((⟨#[120, 156]⟩ : ByteArray) ++ body) ++ tail = ⟨#[120, 156]⟩ ++ (body ++ tail) := ByteArray.append_assoc
  obtain ⟨s, hS⟩ : ∃ s : ByteArray, s = ((⟨#[120, 156]⟩ : ByteArray) ++ body) ++ tail := ⟨_, rfl⟩
  have zs : s.size = 2 + body.size + 4 := by rw [hS, ByteArray.size_append, ByteArray.size_append, z2, e4]
  have c0 : bt s 0 = 120 := by rw [hS, eA, bt_left _ _ 0 (by decide) (by rw [z2]; decide)]; rfl
  have c1 : bt s 1 = 156 := by rw [hS, eA, bt_left _ _ 1 (by decide) (by rw [z2]; decide)]; rfl
  have x1 : s.extract 2 s.size = body ++ tail := by rw [hS, eA]; exact behind _ _ _ _ rfl rfl
  have x2 : s.extract (2 + body.size) s.size = tail := by rw [hS]; exact behind _ _ _ _ (by rw [ByteArray.size_append, z2]) rfl
  have wn : Aside0 (wrap64 (2 + (body.size : Int)) = ((2 + body.size : Nat) : Int)) := ⟨by rw [wrap_in (by omega) (by omega)]; omega⟩
  rw [← hS]
  clear hS eA ht
  unfold inflate_Open.f
  rw [if_neg (by omega), decide_eq_false (by omega), inflate_Open.j0, if_neg (by decide), if_neg (by omega), if_pos (by omega), c0, if_pos d1, if_neg d2, if_pos (by omega), c1, if_pos d3, if_pos d4, if_pos (by omega), x1, raw_f _ _ (by rw [ByteArray.size_append]; omega), hr, Option.bind_some]
  simp only
  rw [if_pos trivial, wn.out, if_pos (by omega), if_pos (by omega), Int.toNat_natCast, x2, e4, if_neg (by decide), if_pos (by decide), if_pos (by decide), if_pos (by decide), if_pos (by decide), hv, Option.bind_some, t0, t1, t2, t3, or_four b0 b1 b2 b3 h0 h1 h2 h3]
  by_cases c : b0 * 16777216 + b1 * 65536 + b2 * 256 + b3 = v
  · rw [if_pos c, if_pos c, if_neg (by decide)]
  · rw [if_neg c, if_neg c]
end Go.Proofs.Ytpbhkdamkbopkaa.OpenE
/- The checksum: the program and the reference tell the same sum of any bytes. -/
set_option linter.unusedSimpArgs false
set_option linter.unusedVariables false
namespace Go.Proofs.Ytpbhkdamkbopkaa.ASumE
open Go.RowKit Go.Proofs.Ytpbhkdamkbopkaa.GEnds Go.Proofs.YtpbhkdamkbopkaaW.PrintWords Go.Proofs.YtpbhkdamkbopkaaW.PrintLast Go.Proofs.YtpbhkdamkbopkaaW.PrintMore
/-- A byte more. -/
def stp (p : Int × Int) (c : Int) : Int × Int := ((p.1 + c) % 65521, (p.2 + (p.1 + c) % 65521) % 65521)
def run (p : Int × Int) (l : List Int) : Int × Int := l.foldl stp p
def bts (s : ByteArray) : List Int := s.data.toList.map fun c => (c.toNat : Int)
def fin (p : Int × Int) : Int := p.2 * 65536 + p.1
def Rng (p : Int × Int) : Prop := 0 ≤ p.1 ∧ p.1 < 65521 ∧ 0 ≤ p.2 ∧ p.2 < 65521

theorem bts_length (s : ByteArray) : (bts s).length = s.size := by unfold bts; rw [List.length_map, Array.length_toList]; rfl
theorem bts_append (s t : ByteArray) : bts (s ++ t) = bts s ++ bts t := by simp [bts]
theorem bts_get (s : ByteArray) (i : Nat) (h : i < s.size) : (bts s)[i]'(by rw [bts_length]; exact h) = bt s i := by
  have h2 : (Int.toNat (i : Int)) < s.size := by simpa using h
  unfold bt
  rw [dif_pos h2]
  simp [bts]
  rfl
theorem bts_drop (s : ByteArray) (i : Nat) (h : i < s.size) : (bts s).drop i = bt s i :: (bts s).drop (i + 1) := by
  rw [List.drop_eq_getElem_cons (by rw [bts_length]; exact h), bts_get s i h]
theorem bts_nil : bts ⟨#[]⟩ = [] := rfl
theorem stp_rng (p : Int × Int) (c : Int) : Rng (stp p c) := by unfold stp Rng; refine ⟨?_, ?_, ?_, ?_⟩ <;> simp only <;> omega
theorem run_nil (p : Int × Int) : run p [] = p := rfl
theorem run_cons (p : Int × Int) (c : Int) (l : List Int) : run p (c :: l) = run (stp p c) l := rfl
theorem run_append (p : Int × Int) (l m : List Int) : run p (l ++ m) = run (run p l) m := by unfold run; rw [List.foldl_append]
theorem run_rng (l : List Int) : ∀ p, Rng p → Rng (run p l) := by
  induction l with
  | nil => intro p h; exact h
  | cons c l ih => intro p _; rw [run_cons]; exact ih _ (stp_rng p c)
theorem rng_one : Rng (1, 0) := by unfold Rng; simp

theorem wrap_in {n : Int} (h0 : -9223372036854775808 ≤ n) (h1 : n ≤ 9223372036854775807) : wrap64 n = n := by unfold wrap64; omega

theorem wraps_i64 (j : Nat) (hj : j ≤ 62) (n : Int) (h₀ : 0 ≤ n) (h₁ : n < 2 ^ j) : IntKind.i64.wrap n = n := by
  have : (2 : Int) ^ j ≤ 2 ^ 62 := by
    have := Nat.pow_le_pow_right (n := 2) (by decide) hj
    exact_mod_cast this
  have h2 : (2 : Int) ^ 62 = 4611686018427387904 := by decide
  rw [IntKind.wrap_i64]; omega
theorem wraps_u32 (n : Int) (h₀ : 0 ≤ n) (h₁ : n < 2 ^ 32) : IntKind.u32.wrap n = n := by rw [IntKind.wrap_u32]; omega
theorem or_16 {x y : Int} (hx₀ : 0 ≤ x) (hx₁ : x < 65536) (h₀ : 0 ≤ y) (h₁ : y < 65536) : Go.bits .or .i64 (x * 65536) y = x * 65536 + y :=
  Go.bits_join .i64 40 (by decide) (wraps_i64 40 (by decide)) 16 _ _ (by omega) (by omega) (by omega) h₀ (by omega) (by omega)
theorem and_16 {x : Int} (hx₀ : 0 ≤ x) (hx₁ : x < 4294967296) : Go.bits .and .i64 x 65535 = x % 65536 :=
  Go.bits_mask .i64 40 (by decide) (wraps_i64 40 (by decide)) 16 (by decide) x hx₀ (by omega)
theorem and_16u {x : Int} (hx₀ : 0 ≤ x) (hx₁ : x < 4294967296) : Go.bits .and .u32 x 65535 = x % 65536 :=
  Go.bits_mask .u32 32 (by decide) wraps_u32 16 (by decide) x hx₀ (by omega)

/-- What the sum's parts are. -/
def prt (n : Int) : Int × Int := (n % 4294967296 % 65536 % 65521, n % 4294967296 / 65536 % 65521)
theorem prt_rng (n : Int) : Rng (prt n) := by unfold prt Rng; refine ⟨?_, ?_, ?_, ?_⟩ <;> simp only <;> omega
theorem prt_fin (p : Int × Int) (h : Rng p) : prt (fin p) = p := by
  obtain ⟨a, b⟩ := p
  unfold Rng at h; unfold prt fin
  simp only at h ⊢
  rw [Prod.mk.injEq]; constructor <;> omega
theorem prt_one : prt 1 = (1, 0) := by decide

/-- From another beginning: what is ahead is added once to A, and as often to B as there are bytes. -/
theorem run_from (l : List Int) : ∀ (a b x y : Int), 0 ≤ a → a < 65521 → 0 ≤ b → b < 65521 →
    (run (a, b) l).1 = ((run (x, y) l).1 + (a - x)) % 65521 ∨ l = [] := by
  induction l with
  | nil => intro a b x y _ _ _ _; exact .inr rfl
  | cons c l ih =>
    intro a b x y h0 h1 h2 h3
    refine .inl ?_
    rw [run_cons, run_cons]
    have e := stp_rng (a, b) c
    unfold Rng at e
    rcases ih (stp (a, b) c).1 (stp (a, b) c).2 (stp (x, y) c).1 (stp (x, y) c).2 e.1 e.2.1 e.2.2.1 e.2.2.2 with e1 | rfl
    · rw [show stp (a, b) c = ((stp (a, b) c).1, (stp (a, b) c).2) from rfl, show stp (x, y) c = ((stp (x, y) c).1, (stp (x, y) c).2) from rfl, e1]
      simp only [stp]
      omega
    · simp only [run_nil, stp]
      omega

/-- Congruent modulo 65521, by the quotient. -/
def Cg (a b : Int) : Prop := ∃ t : Int, a = b + 65521 * t
theorem Cg.eq_mod {a b : Int} (h : Cg a b) : a % 65521 = b % 65521 := by obtain ⟨t, rfl⟩ := h; omega
theorem Cg.rfl' (a : Int) : Cg a a := ⟨0, by omega⟩

/-- The second sum over n bytes from (a, b) against that from (x, y). -/
theorem run_cg (l : List Int) : ∀ (a b x y : Int),
    Cg ((run (a, b) l).1 - (run (x, y) l).1) (a - x) ∧ Cg ((run (a, b) l).2 - (run (x, y) l).2) (b - y + l.length * (a - x)) := by
  induction l with
  | nil => intro a b x y; simp only [run_nil]; exact ⟨Cg.rfl' _, ⟨0, by simp⟩⟩
  | cons c l ih =>
    intro a b x y
    obtain ⟨⟨t, e1⟩, ⟨u, e2⟩⟩ := ih (stp (a, b) c).1 (stp (a, b) c).2 (stp (x, y) c).1 (stp (x, y) c).2
    rw [run_cons, run_cons]
    have e3 : run (stp (a, b) c) l = run ((stp (a, b) c).1, (stp (a, b) c).2) l := rfl
    have e4 : run (stp (x, y) c) l = run ((stp (x, y) c).1, (stp (x, y) c).2) l := rfl
    rw [e3, e4, e1, e2]
    obtain ⟨v, hv⟩ : ∃ v : Int, (stp (a, b) c).1 = a + c - 65521 * v := ⟨(a + c) / 65521, by simp only [stp]; omega⟩
    obtain ⟨v', hv'⟩ : ∃ v : Int, (stp (x, y) c).1 = x + c - 65521 * v := ⟨(x + c) / 65521, by simp only [stp]; omega⟩
    obtain ⟨z, hz⟩ : ∃ z : Int, (stp (a, b) c).2 = b + (stp (a, b) c).1 - 65521 * z := ⟨(b + (stp (a, b) c).1) / 65521, by simp only [stp]; omega⟩
    obtain ⟨z', hz'⟩ : ∃ z : Int, (stp (x, y) c).2 = y + (stp (x, y) c).1 - 65521 * z := ⟨(y + (stp (x, y) c).1) / 65521, by simp only [stp]; omega⟩
    refine ⟨⟨t - v + v', by rw [hv, hv']; omega⟩, ⟨u - z + z' - v + v' + l.length * (v' - v), ?_⟩⟩
    rw [hz, hz', hv, hv', List.length_cons]
    push_cast
    grind

theorem join_math (p l m : Int × Int) (n : Int) (h1 : Cg (l.1 - m.1) (p.1 - 1)) (h2 : Cg (l.2 - m.2) (p.2 - 0 + n * (p.1 - 1))) (hl : Rng l) :
    (p.2 + m.2 + n % 65521 * (p.1 + 65521 - 1)) % 65521 = l.2 ∧ (p.1 + m.1 + 65521 - 1) % 65521 = l.1 := by
  obtain ⟨t, e1⟩ := h1
  obtain ⟨u, e2⟩ := h2
  obtain ⟨l0, l1, l2, l3⟩ := hl
  refine ⟨?_, by omega⟩
  obtain ⟨q, hq⟩ : ∃ q : Int, n % 65521 = n - 65521 * q := ⟨n / 65521, by omega⟩
  have : p.2 + m.2 + n % 65521 * (p.1 + 65521 - 1) = l.2 + 65521 * (n - 65521 * q - q * (p.1 - 1) - u) := by
    rw [hq]
    grind
  rw [this]
  omega

/-- The document's way, by places. -/
theorem ref_stp (a b p q c m : Int) (ha : Cg a p) (hb : Cg b (q + (m + 1) * p)) :
    Cg (a + c) (stp (p, q) c).1 ∧ Cg ((b + c * (m + 1)) % 65521) ((stp (p, q) c).2 + m * (stp (p, q) c).1) := by
  obtain ⟨t, rfl⟩ := ha
  obtain ⟨u, rfl⟩ := hb
  obtain ⟨v, hv⟩ : ∃ v : Int, (stp (p, q) c).1 = p + c - 65521 * v := ⟨(p + c) / 65521, by simp only [stp]; omega⟩
  obtain ⟨z, hz⟩ : ∃ z : Int, (stp (p, q) c).2 = q + (stp (p, q) c).1 - 65521 * z := ⟨(q + (stp (p, q) c).1) / 65521, by simp only [stp]; omega⟩
  generalize hx : (q + (m + 1) * p + 65521 * u + c * (m + 1)) / 65521 = x
  have hm : (q + (m + 1) * p + 65521 * u + c * (m + 1)) % 65521 = q + (m + 1) * p + 65521 * u + c * (m + 1) - 65521 * x := by omega
  refine ⟨⟨t + v, by rw [hv]; omega⟩, ⟨u - x + z + v * (m + 1), ?_⟩⟩
  rw [hm, hz, hv]
  grind


theorem parts_is (n : Int) : adler_parts.f n = some (prt n) := by
  unfold adler_parts.f
  rw [and_16u (by omega) (by omega), wrap_in (by omega) (by omega), Int.tmod_eq_emod_of_nonneg (by omega)]
  rfl

theorem more_l (s : ByteArray) (hn : s.size ≤ 140737488351232) (d : Nat) : ∀ (k i : Nat) (p : Int × Int), Rng p → i + d = s.size → d < k →
    adler_More.l0 k s p.1 p.2 s.size i = some (fin (run p ((bts s).drop i))) := by
  induction d with
  | zero =>
    intro k i p hp hi hk
    obtain ⟨k, rfl⟩ : ∃ m, k = m + 1 := ⟨k - 1, by omega⟩
    simp only [adler_More.l0]
    rw [if_neg (by omega), List.drop_of_length_le (by rw [bts_length]; omega), run_nil]
    obtain ⟨h0, h1, h2, h3⟩ := hp
    rw [wrap_in (by omega) (by omega), or_16 h2 (by omega) h0 (by omega)]; rfl
  | succ d ih =>
    intro k i p hp hi hk
    obtain ⟨k, rfl⟩ : ∃ m, k = m + 1 := ⟨k - 1, by omega⟩
    have hb := bt_range s i
    obtain ⟨h0, h1, h2, h3⟩ := hp
    simp only [adler_More.l0]
    rw [if_pos (by omega), if_pos (by omega), if_pos (by omega)]
    have e := ih k (i + 1) (stp p (bt s i)) (stp_rng _ _) (by omega) (by omega)
    rw [bts_drop s i (by omega), run_cons, ← e]
    have w1 : wrap64 (bt s i) = bt s i := wrap_in (by omega) (by omega)
    have w2 : wrap64 (p.1 + bt s i) = p.1 + bt s i := wrap_in (by omega) (by omega)
    have w3 : wrap64 (p.2 + (p.1 + bt s i) % 65521) = p.2 + (p.1 + bt s i) % 65521 := wrap_in (by omega) (by omega)
    have w4 : wrap64 ((i : Int) + 1) = ((i + 1 : Nat) : Int) := by rw [wrap_in (by omega) (by omega)]; omega
    rw [w1, w2, Int.tmod_eq_emod_of_nonneg (by omega), w3, Int.tmod_eq_emod_of_nonneg (by omega), w4]
    rfl

theorem more_is (n : Int) (s : ByteArray) (hn : s.size ≤ 140737488351232) (k : Nat) (hk : s.size < k) :
    adler_More.f k n s = some (fin (run (prt n) (bts s))) := by
  unfold adler_More.f
  rw [parts_is]
  have e := more_l s hn s.size k 0 (prt n) (prt_rng n) (by omega) hk
  rw [List.drop_zero] at e
  exact e

theorem sum_is (s : ByteArray) (hn : s.size ≤ 140737488351232) (k : Nat) (hk : s.size < k) :
    adler_Sum.f k s = some (fin (run (1, 0) (bts s))) := by
  unfold adler_Sum.f
  rw [more_is 1 s hn k hk, prt_one]; rfl

end Go.Proofs.Ytpbhkdamkbopkaa.ASumE
/- A stored block is just its bytes; a sum that is turned is found. -/
namespace Go.Proofs.Ytpbhkdamkbopkaa.Pure
open Go.RowKit Go.Proofs.Ytpbhkdamkbopkaa.Ext Go.Proofs.Ytpbhkdamkbopkaa.GEnds Go.Proofs.Ytpbhkdamkbopkaa.Wr2 Go.Proofs.Ytpbhkdamkbopkaa.Inf Go.Proofs.YtpbhkdamkbopkaaW.PrintWords Go.Proofs.YtpbhkdamkbopkaaW.PrintLast

theorem sto_awake20 : celluloidlaw05_awake.f 20 = some true := by kernel_rfl
theorem sto_awake (k : Nat) : celluloidlaw05_awake.f (20 + k) = some true := by
  induction k with
  | zero => exact sto_awake20
  | succ k ih => exact celluloidlaw05_awake.mono _ _ ih
theorem u8_rng (c : Int) (h : (Lit.int .u8 c).wf = true) : 0 ≤ c ∧ c ≤ 255 := by
  simp [Lit.wf, IntKind.min, IntKind.max, IntKind.signed, IntKind.bits] at h
  omega
theorem xor_u8 (a b : Int) (h0 : 0 ≤ a ∧ a ≤ 255) (h1 : 0 ≤ b ∧ b ≤ 255) : 0 ≤ Go.bits .xor .u8 a b ∧ Go.bits .xor .u8 a b ≤ 255 ∧ (Go.bits .xor .u8 a b = a ↔ b = 0) := by
  rw [Go.u8_xor a b h0.1 (by omega) h1.1 (by omega)]
  have hx : a.toNat ^^^ b.toNat < 2 ^ 8 := Nat.xor_lt_two_pow (by omega) (by omega)
  refine ⟨by omega, by omega, fun h => ?_, fun h => ?_⟩
  · have e : a.toNat ^^^ b.toNat = a.toNat := by omega
    have e2 : a.toNat ^^^ (a.toNat ^^^ b.toNat) = b.toNat := by rw [← Nat.xor_assoc, Nat.xor_self, Nat.zero_xor]
    rw [e, Nat.xor_self] at e2
    omega
  · subst h
    rw [show (0 : Int).toNat = 0 from rfl, Nat.xor_zero]
    omega
theorem nil_lst : (⟨#[]⟩ : ByteArray).toList = ([] : List UInt8) := by kernel_rfl
theorem InflateStored : celluloidlaw05_InflateStored.Pure := by
  intro a0 a1 h0 h1
  have ha1 := u8_rng a1 h1
  refine ⟨5000 + 20 + 1, ?_⟩
  unfold celluloidlaw05_InflateStored.f
  by_cases c0 : (a0.size : Int) > 4096
  · rw [if_pos c0, show 5000 + 20 + 1 = 20 + 5001 from rfl, sto_awake 5001]; rfl
  rw [if_neg c0]
  have en := Go.i64_not a0.size (by omega)
  have eh : (⟨#[1]⟩ : ByteArray) ++ strOfNums [(a0.size : Int) % 256, (a0.size : Int) / 256 % 256, (Go.bits .xor .i64 (-1) (a0.size : Int)) % 256, ((Go.bits .xor .i64 (-1) (a0.size : Int)) / 256) % 256] = strOfNums (hdr 1 a0.size) := by
    rw [en, show (⟨#[1]⟩ : ByteArray) = strOfNums [1] from rfl, ← strOfNums_append, show (-1 - (a0.size : Int)) % 256 = 255 - (a0.size : Int) % 256 by omega, show (-1 - (a0.size : Int)) / 256 % 256 = 255 - (a0.size : Int) / 256 % 256 by omega]
    rfl
  rw [Option.bind_some, eh]
  have z4 : ∀ a b c d : Int, (strOfNums [a, b, c, d]).size = 4 := fun _ _ _ _ => rfl
  rw [z4, if_pos (by decide), hdr_size, if_pos (by omega)]
  obtain ⟨B, hB⟩ : ∃ B : ByteArray, B = strOfNums (hdr 1 a0.size) ++ a0 := ⟨_, rfl⟩
  have hj : joined [a0] = a0 := by show a0 ++ (⟨#[]⟩ : ByteArray) = a0; exact ByteArray.append_empty
  have hch : chain [a0] = B := hB.symm
  have hBs : B.size = 5 + a0.size := by rw [hB, ByteArray.size_append, hdr_size]
  have hraw : ∀ X : ByteArray, raw (B ++ X) 4096 = (a0, (B.size : Int), 0) := fun X => by
    have h := raw_chain [a0] X 4096 (by simp) (fun a ha => by rw [List.mem_singleton] at ha; subst ha; omega) (by rw [hj]; omega) (by decide) (by rw [hch, ByteArray.size_append]; show 1 ≤ _; omega)
    rw [hj, hch] at h
    exact h
  have hraw0 : raw B 4096 = (a0, (B.size : Int), 0) := by
    have h := hraw ByteArray.empty
    rw [ByteArray.append_empty] at h
    exact h
  rw [← hB, OpenE.raw_f B 4096 (by omega), hraw0, Option.bind_some]
  obtain ⟨v, hv⟩ : ∃ v, v = ASumE.fin (ASumE.run (1, 0) (ASumE.bts a0)) := ⟨_, rfl⟩
  have hrng := ASumE.run_rng (ASumE.bts a0) (1, 0) ASumE.rng_one
  have hv0 : 0 ≤ v ∧ v < 4294967296 := by
    rw [hv]; unfold ASumE.fin
    obtain ⟨r1, r2, r3, r4⟩ := hrng
    omega
  have hsum : ∀ k, 5000 ≤ k → adler_Sum.f k a0 = some v := fun k hk => by rw [hv]; exact ASumE.sum_is a0 h0 k (by omega)
  rw [hsum _ (by omega), Option.bind_some, Option.bind_some, z4, if_pos (by omega), ByteArray.size_append, show (⟨#[120, 156]⟩ : ByteArray).size = 2 from rfl, if_pos (by omega)]
  obtain ⟨hx0, hx1, hx2⟩ := xor_u8 (v % 256) a1 (by omega) ha1
  obtain ⟨b3, hb3⟩ : ∃ b3, b3 = Go.bits .xor .u8 (v % 256) a1 := ⟨_, rfl⟩
  rw [← hb3] at hx0 hx1 hx2 ⊢
  have ho := OpenE.open_is (5000 + 20) B (strOfNums [v / 16777216 % 256, v / 65536 % 256, v / 256 % 256, b3]) a0 4096 v _ _ _ b3 (by omega) (by omega) (by omega) ⟨hx0, hx1⟩ rfl (by decide) (by omega) (hraw _) (hsum _ (by omega))
  rw [ho, Option.bind_some]
  simp only
  have hw : wrap64 ((a0.size : Int) + 5) = (B.size : Int) := by rw [wrap_in (by omega) (by omega)]; omega
  rw [if_pos trivial, hw, if_pos rfl]
  by_cases c1 : a1 = 0
  · have e3 := hx2.2 c1
    rw [if_pos (by omega), celluloidlaw05_InflateStored.j0, if_neg (by decide), if_pos c1, if_pos rfl, if_pos rfl]
    rw [show 5000 + 20 = 20 + 5000 from rfl, sto_awake 5000]; rfl
  · have e3 : ¬ b3 = v % 256 := fun e => c1 (hx2.1 e)
    rw [if_neg (by omega), celluloidlaw05_InflateStored.j0, if_neg (by decide), if_neg c1, if_pos nil_lst, if_pos rfl]
    rw [show 5000 + 20 = 20 + 5000 from rfl, sto_awake 5000]; rfl
end Go.Proofs.Ytpbhkdamkbopkaa.Pure
