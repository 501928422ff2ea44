/- Stored blocks, one behind the other, are their bytes. -/
import Derived.Test.YtpbhkdamkbopkaaInfSim
import Derived.Laws.DeepNot64
import Derived.Test.YtpbhkdamkbopkaaWWords
import Derived.Deep.Slices
import Derived.ChangeSame
import Derived.ChangeMaps5
import Derived.WideShapes
import Derived.Test.YtpbhkdamkbopkaaProg
import Derived.Test.YtpbhkdamkbopkaaGBlksx1
/- Stored blocks, byte by byte; what Raw tells of bytes that begin alike. -/
namespace Go.Proofs.Ytpbhkdamkbopkaa.Inf
set_option linter.unusedSimpArgs false
set_option linter.unusedVariables false
open Go.RowKit Go.Proofs.Ytpbhkdamkbopkaa.Ext Go.Proofs.Ytpbhkdamkbopkaa.RefP Go.Proofs.YtpbhkdamkbopkaaW.PrintWords Go.Proofs.YtpbhkdamkbopkaaW.PrintLast Go.Proofs.YtpbhkdamkbopkaaW.PrintMore

theorem strOfNums_bytes (s : ByteArray) : strOfNums (bytesOf s) = s := by
  unfold strOfNums bytesOf
  rw [List.map_map]
  have e : (fun n : Int => UInt8.ofNat n.toNat) ∘ (fun b : UInt8 => (b.toNat : Int)) = id := by
    funext b; simp
  rw [e, List.map_id]
theorem bytesOf_append (s t : ByteArray) : bytesOf (s ++ t) = bytesOf s ++ bytesOf t := by simp [bytesOf]
theorem strOfNums_append (a b : List Int) : strOfNums (a ++ b) = strOfNums a ++ strOfNums b := by
  apply ByteArray.ext
  simp [strOfNums, List.map_append]
theorem bt_left (s t : ByteArray) (j : Int) (h0 : 0 ≤ j) (h1 : j < s.size) : bt (s ++ t) j = bt s j := by
  rw [← rd_bytesOf, ← rd_bytesOf, bytesOf_append]
  unfold rd
  simp only [List.getD_eq_getElem?_getD]
  rw [List.getElem?_append_left (by rw [bytesOf_length]; omega)]
theorem bt_right (s t : ByteArray) (j : Int) (h1 : (s.size : Int) ≤ j) : bt (s ++ t) j = bt t (j - s.size) := by
  rw [← rd_bytesOf, ← rd_bytesOf, bytesOf_append]
  unfold rd
  simp only [List.getD_eq_getElem?_getD]
  rw [List.getElem?_append_right (by rw [bytesOf_length]; omega), bytesOf_length]
  have e : j.toNat - s.size = (j - (s.size : Int)).toNat := by omega
  rw [e]
theorem bt_nums (l : List Int) (hl : ∀ x ∈ l, 0 ≤ x ∧ x ≤ 255) (j : Nat) (h : j < l.length) : bt (strOfNums l) (j : Int) = l.getD j 0 := by
  rw [← rd_bytesOf]
  unfold rd bytesOf
  have hd : (strOfNums l).data.toList = l.map fun n => UInt8.ofNat n.toNat := rfl
  rw [hd, List.map_map]
  simp only [List.getD_eq_getElem?_getD, Int.toNat_natCast]
  rw [List.getElem?_map, List.getElem?_eq_getElem h]
  have := hl _ (List.getElem_mem h)
  simp
  omega
theorem cut_all (s : ByteArray) : cut s 0 s.size = bytesOf s := by
  have h := cut_bytes (s := s) (q := 0) (n := s.size) (by omega)
  rw [← h]
  simp
theorem bitN_at (s : ByteArray) (q : Int) (i : Nat) (hi : i < 8) : bitN s (8 * q + i) = bt s q / 2 ^ i % 2 := by
  unfold bitN
  rw [show (8 * q + (i : Int)) / 8 = q by omega, show ((8 * q + (i : Int)) % 8).toNat = i by omega]
theorem Bn_mod (s : ByteArray) (q : Int) : ∀ k : Nat, k ≤ 8 → Bn s (8 * q) k = (((bt s q).toNat % 2 ^ k : Nat) : Int) := by
  intro k
  induction k with
  | zero => intro _; simp [Bn, Nat.mod_one]
  | succ k ih =>
    intro hk
    show Bn s (8 * q) k + 2 ^ k * bitN s (8 * q + k) = _
    rw [ih (by omega), bitN_at s q k (by omega), Nat.mod_pow_succ]
    have hr := bt_range s q
    obtain ⟨b, hb⟩ := Int.eq_ofNat_of_zero_le hr.1
    rw [hb, Int.toNat_natCast]
    push_cast
    rfl
theorem Bn8 (s : ByteArray) (q : Int) : Bn s (8 * q) 8 = bt s q := by
  have hr := bt_range s q
  rw [Bn_mod s q 8 (Nat.le_refl _), show (2 : Nat) ^ 8 = 256 from rfl]
  omega
theorem Bn_add (s : ByteArray) (pos : Int) (a : Nat) : ∀ b : Nat, Bn s pos (a + b) = Bn s pos a + 2 ^ a * Bn s (pos + a) b := by
  intro b
  induction b with
  | zero => simp [Bn]
  | succ b ih =>
    show Bn s pos (a + b) + 2 ^ (a + b) * bitN s (pos + ((a + b : Nat) : Int)) = Bn s pos a + 2 ^ a * (Bn s (pos + a) b + 2 ^ b * bitN s (pos + a + b))
    rw [ih, Int.pow_add, Int.mul_add, show pos + ((a + b : Nat) : Int) = pos + a + b by omega, Int.mul_assoc]
    omega
theorem Bn16 (s : ByteArray) (q : Int) : Bn s (8 * q) 16 = bt s q + 256 * bt s (q + 1) := by
  have h := Bn_add s (8 * q) 8 8
  rw [Bn8, show 8 * q + ((8 : Nat) : Int) = 8 * (q + 1) by omega, Bn8] at h
  exact h
theorem Bn_one (s : ByteArray) (q : Int) : Bn s (8 * q) 1 = bt s q % 2 := by
  have h0 := bitN_at s q 0 (by decide)
  simp only [Bn]
  rw [h0]
  simp only [show (2 : Int) ^ 0 = 1 from rfl]
  omega
theorem Bn_two (s : ByteArray) (q : Int) : Bn s (8 * q + 1) 2 = bt s q / 2 % 4 := by
  have h1 := bitN_at s q 1 (by decide)
  have h2 := bitN_at s q 2 (by decide)
  simp only [Bn]
  rw [show 8 * q + 1 + ((0 : Nat) : Int) = 8 * q + ((1 : Nat) : Int) by omega, h1, show 8 * q + 1 + ((1 : Nat) : Int) = 8 * q + ((2 : Nat) : Int) by omega, h2]
  simp only [show (2 : Int) ^ 0 = 1 from rfl, show (2 : Int) ^ 1 = 2 from rfl, show (2 : Int) ^ 2 = 4 from rfl]
  omega
theorem bits_at (s : ByteArray) (k : Nat) (p : Int) (o : List Int) (h0 : 0 ≤ p) (hk : k ≤ 16) (h : p + k ≤ 8 * s.size) : bits s k ⟨p, o, 0⟩ = (Bn s p k, ⟨p + k, o, 0⟩) := by
  have e : bitsOf s p k = (Bn s p k, p + k, 0) := by
    unfold bitsOf
    rw [if_neg (by omega), if_pos h, Int.toNat_natCast]
  unfold bits tak
  rw [if_pos rfl]
  simp only [e]
  rfl
theorem xor_16 (n : Int) (h0 : 0 ≤ n) (h1 : n ≤ 65535) : Go.bits .xor .i64 n (65535 - n) = 65535 := by
  obtain ⟨a, rfl⟩ := Int.eq_ofNat_of_zero_le h0
  have hb : (65535 - (a : Int)) = ((65535 - a : Nat) : Int) := by omega
  rw [hb]
  have hx : a ^^^ (65535 - a) = 65535 := by
    have e1 : (BitVec.ofNat 16 a).toNat = a := by rw [BitVec.toNat_ofNat]; omega
    have e2 : (~~~ (BitVec.ofNat 16 a)).toNat = 65535 - a := by rw [BitVec.toNat_not, e1]
    have e3 : ((BitVec.ofNat 16 a) ^^^ ~~~ (BitVec.ofNat 16 a)).toNat = 65535 := by
      have : (BitVec.ofNat 16 a) ^^^ ~~~ (BitVec.ofNat 16 a) = BitVec.allOnes 16 := by
        ext i hi
        rw [BitVec.getElem_xor, BitVec.getElem_not, BitVec.getElem_allOnes]
        cases (BitVec.ofNat 16 a)[i] <;> rfl
      rw [this]; rfl
    rw [BitVec.toNat_xor, e1, e2] at e3
    exact e3
  show IntKind.i64.wrap ((BitVec.ofInt 64 (a : Int) ^^^ BitVec.ofInt 64 ((65535 - a : Nat) : Int)).toNat : Int) = _
  rw [BitVec.toNat_xor, ofInt_u64 a (by omega), ofInt_u64 (65535 - a) (by omega), hx, IntKind.wrap_i64]
  rfl
/-- A stored block in its bytes. -/
structure Stb (s : ByteArray) (q : Nat) (f : Int) (n : Nat) : Prop where
  z : q + 5 + n ≤ s.size
  f : bt s (q : Int) = f
  a : bt s ((q : Int) + 1) + 256 * bt s ((q : Int) + 2) = n
  b : bt s ((q : Int) + 3) + 256 * bt s ((q : Int) + 4) = 65535 - n
theorem stored_at {s : ByteArray} {mx : Int} {q n : Nat} {f p : Int} {o : List Int} (h : Stb s q f n) (hn : n ≤ 65535) (hp0 : 8 * q < p) (hp1 : p ≤ 8 * q + 8) (ho : (o.length : Int) + n ≤ mx) : stored s mx ⟨p, o, 0⟩ = ⟨8 * ((q + 5 + n : Nat) : Int), o ++ cut s (q + 5) n, 0⟩ := by
  have hz := h.z
  have e0 : (p + 7) / 8 * 8 = 8 * ((q : Int) + 1) := by omega
  unfold stored
  simp only
  rw [e0, show (16 : Int) = ((16 : Nat) : Int) from rfl, bits_at s 16 _ o (by omega) (by decide) (by omega)]
  simp only
  rw [show 8 * ((q : Int) + 1) + ((16 : Nat) : Int) = 8 * ((q : Int) + 3) by omega, bits_at s 16 _ o (by omega) (by decide) (by omega)]
  simp only
  rw [Bn16, Bn16, show (q : Int) + 1 + 1 = q + 2 by omega, show (q : Int) + 3 + 1 = q + 4 by omega, h.a, h.b, xor_16 _ (by omega) (by omega), if_pos trivial, if_pos rfl, if_pos ho]
  have e1 : (8 * ((q : Int) + 3) + ((16 : Nat) : Int)) / 8 = ((q + 5 : Nat) : Int) := by omega
  rw [e1, if_pos (by omega), Int.toNat_natCast, Int.toNat_natCast]
  congr 1
  omega
theorem block_at {s : ByteArray} {mx : Int} {q n : Nat} {f : Int} {o : List Int} (h : Stb s q f n) (hf : f = 0 ∨ f = 1) (hn : n ≤ 65535) (ho : (o.length : Int) + n ≤ mx) : block s mx ⟨8 * (q : Int), o, 0⟩ = (decide (f = 1), ⟨8 * ((q + 5 + n : Nat) : Int), o ++ cut s (q + 5) n, 0⟩) := by
  have hz := h.z
  unfold block
  simp only
  rw [show (1 : Int) = ((1 : Nat) : Int) from rfl, bits_at s 1 _ o (by omega) (by decide) (by omega)]
  simp only
  rw [show (2 : Int) = ((2 : Nat) : Int) from rfl, bits_at s 2 _ o (by omega) (by decide) (by omega)]
  simp only
  have e2 : Bn s (8 * (q : Int) + ((1 : Nat) : Int)) 2 = 0 := by
    rw [show 8 * (q : Int) + ((1 : Nat) : Int) = 8 * (q : Int) + 1 by omega, Bn_two, h.f]
    rcases hf with rfl | rfl <;> rfl
  have e1 : Bn s (8 * (q : Int)) 1 = f := by
    rw [Bn_one, h.f]
    rcases hf with rfl | rfl <;> rfl
  rw [e1, e2, if_pos rfl, if_pos trivial, stored_at h hn (by omega) (by omega) ho]
/-! ### Raw -/
def run0 (s : ByteArray) (mx : Int) : St := blocks s mx (8 * s.size + 2) ⟨0, [], 0⟩
theorem ok0 (s : ByteArray) : Ok s ⟨0, [], 0⟩ := ⟨Int.le_refl _, by show (0 : Int) ≤ _; omega, .inl rfl⟩
theorem left0 (s : ByteArray) : left s ⟨0, [], 0⟩ ≤ 8 * s.size + 2 := by unfold left; show (8 * (s.size : Int) + 1 - 0).toNat + 1 ≤ _; omega
theorem raw_is (s : ByteArray) (mx : Int) (h : 0 ≤ mx ∧ mx ≤ 262144) : raw s mx = if (run0 s mx).e = 0 then (strOfNums (run0 s mx).o, ((run0 s mx).p + 7) / 8, 0) else (⟨#[]⟩, 0, (run0 s mx).e) := by
  unfold raw; rw [if_neg (by omega)]; rfl
theorem raw_same {s t : ByteArray} {N : Nat} {mx mz : Int} (A : Agr s t N) (hx : 0 ≤ mx ∧ mx ≤ 262144) (hz : 0 ≤ mz ∧ mz ≤ 262144) (he : (run0 s mx).e = 0) (hp : (run0 s mx).p ≤ 8 * N) :
    (((run0 s mx).o.length : Int) ≤ mz → raw t mz = raw s mx) ∧ (mz < ((run0 s mx).o.length : Int) → (raw t mz).2.2 = 7) := by
  have f := blocks_same (mz := mz) A (8 * s.size + 2) ⟨0, [], 0⟩ (ok0 s) rfl (left0 s) he hp hz.1 (8 * t.size + 2) (left0 t)
  refine ⟨fun h => ?_, fun h => ?_⟩
  · rw [raw_is s mx hx, raw_is t mz hz]
    have e : run0 t mz = run0 s mx := f.1 h
    rw [e]
  · have e7 : (run0 t mz).e = 7 := f.2 h
    rw [raw_is t mz hz, if_neg (by rw [e7]; decide)]
    exact e7
theorem run_aft (s : ByteArray) (hs : s.size ≤ 140737488351232) (mx : Int) : Aft s mx ⟨0, [], 0⟩ (run0 s mx) := Aft.blocks hs _ _ (ok0 s)
theorem run_pos (s : ByteArray) (hs : s.size ≤ 140737488351232) (mx : Int) (he : (run0 s mx).e = 0) : 1 ≤ (run0 s mx).p := by
  have a1 := Aft.block (mx := mx) hs (ok0 s)
  have e : run0 s mx = if (block s mx ⟨0, [], 0⟩).1 = true then (block s mx ⟨0, [], 0⟩).2 else if (block s mx ⟨0, [], 0⟩).2.e = 0 then blocks s mx (8 * s.size + 1) (block s mx ⟨0, [], 0⟩).2 else (block s mx ⟨0, [], 0⟩).2 := rfl
  rw [e] at he ⊢
  split at he
  · rename_i c; rw [if_pos c]; exact a1.2 he
  · rename_i c
    rw [if_neg c]
    split at he
    · rename_i c2; rw [if_pos c2]
      exact Int.le_trans (a1.2 c2) (Aft.blocks (mx := mx) hs _ _ a1.1.ok).p
    · rename_i c2; exact absurd he c2
end Go.Proofs.Ytpbhkdamkbopkaa.Inf
/- Raw of stored blocks, one behind the other. -/
namespace Go.Proofs.Ytpbhkdamkbopkaa.Inf
set_option linter.unusedSimpArgs false
set_option linter.unusedVariables false
open Go.RowKit Go.Proofs.Ytpbhkdamkbopkaa.Ext Go.Proofs.Ytpbhkdamkbopkaa.RefP Go.Proofs.YtpbhkdamkbopkaaW.PrintWords Go.Proofs.YtpbhkdamkbopkaaW.PrintLast Go.Proofs.YtpbhkdamkbopkaaW.PrintMore

/-- A stored block's head: is it the last, its length, its length turned. -/
def hdr (f : Int) (n : Nat) : List Int := [f, (n : Int) % 256, (n : Int) / 256 % 256, 255 - (n : Int) % 256, 255 - (n : Int) / 256 % 256]
def sblk (f : Int) (a : ByteArray) : ByteArray := strOfNums (hdr f a.size) ++ a
theorem hdr_size (f : Int) (n : Nat) : (strOfNums (hdr f n)).size = 5 := rfl
theorem sblk_size (f : Int) (a : ByteArray) : (sblk f a).size = 5 + a.size := by unfold sblk; rw [ByteArray.size_append, hdr_size]
theorem hdr_rng (f : Int) (n : Nat) (hf : f = 0 ∨ f = 1) : ∀ x ∈ hdr f n, 0 ≤ x ∧ x ≤ 255 := by
  intro x hx
  unfold hdr at hx
  simp only [List.mem_cons, List.not_mem_nil, or_false] at hx
  rcases hx with rfl | rfl | rfl | rfl | rfl <;> omega
theorem bt_mid (pre m X : ByteArray) (i : Nat) (hi : i < m.size) : bt ((pre ++ m) ++ X) ((pre.size : Int) + i) = bt m i := by
  rw [bt_left _ _ _ (by omega) (by rw [ByteArray.size_append]; omega), bt_right _ _ _ (by omega)]
  congr 1
  omega
theorem sblk_hdr (f : Int) (a : ByteArray) (hf : f = 0 ∨ f = 1) (i : Nat) (hi : i < 5) : bt (sblk f a) (i : Int) = (hdr f a.size).getD i 0 := by
  unfold sblk
  rw [bt_left _ _ _ (by omega) (by rw [hdr_size]; omega)]
  exact bt_nums _ (hdr_rng f a.size hf) i hi
theorem sblk_body (f : Int) (a : ByteArray) (i : Nat) : bt (sblk f a) ((5 + i : Nat) : Int) = bt a i := by
  unfold sblk
  rw [bt_right _ _ _ (by rw [hdr_size]; omega), hdr_size]
  congr 1
  omega
theorem stored_mid (pre a X : ByteArray) (f : Int) (hf : f = 0 ∨ f = 1) (hn : a.size ≤ 65535) :
    Stb ((pre ++ sblk f a) ++ X) pre.size f a.size ∧ cut ((pre ++ sblk f a) ++ X) (pre.size + 5) a.size = bytesOf a := by
  have hz := sblk_size f a
  have hb : ∀ i : Nat, i < 5 → bt ((pre ++ sblk f a) ++ X) ((pre.size : Int) + i) = (hdr f a.size).getD i 0 := fun i hi => by
    rw [bt_mid _ _ _ i (by omega), sblk_hdr f a hf i hi]
  have h0 := hb 0 (by decide)
  have h1 := hb 1 (by decide)
  have h2 := hb 2 (by decide)
  have h3 := hb 3 (by decide)
  have h4 := hb 4 (by decide)
  have g1 : (hdr f a.size).getD 1 0 = (a.size : Int) % 256 := rfl
  have g2 : (hdr f a.size).getD 2 0 = (a.size : Int) / 256 % 256 := rfl
  have g3 : (hdr f a.size).getD 3 0 = 255 - (a.size : Int) % 256 := rfl
  have g4 : (hdr f a.size).getD 4 0 = 255 - (a.size : Int) / 256 % 256 := rfl
  refine ⟨⟨by rw [ByteArray.size_append, ByteArray.size_append, hz]; omega, ?_, ?_, ?_⟩, ?_⟩
  · rw [← Int.add_zero (pre.size : Int)]; exact h0
  · rw [show (pre.size : Int) + 1 = (pre.size : Int) + ((1 : Nat) : Int) from rfl, show (pre.size : Int) + 2 = (pre.size : Int) + ((2 : Nat) : Int) from rfl, h1, h2, g1, g2]; omega
  · rw [show (pre.size : Int) + 3 = (pre.size : Int) + ((3 : Nat) : Int) from rfl, show (pre.size : Int) + 4 = (pre.size : Int) + ((4 : Nat) : Int) from rfl, h3, h4, g3, g4]; omega
  · rw [← cut_all a]
    unfold cut
    refine List.map_congr_left fun i hi => ?_
    rw [List.mem_range] at hi
    have h := bt_mid pre (sblk f a) X (5 + i) (by omega)
    rw [show ((pre.size + 5 + i : Nat) : Int) = (pre.size : Int) + ((5 + i : Nat) : Int) by omega, h, sblk_body, Nat.zero_add]
/-- The bytes of blocks; the last one is told. -/
def chain : List ByteArray → ByteArray
  | [] => ⟨#[]⟩
  | [a] => sblk 1 a
  | a :: b :: l => sblk 0 a ++ chain (b :: l)
def joined : List ByteArray → ByteArray
  | [] => ⟨#[]⟩
  | a :: l => a ++ joined l
theorem blocks_chain (mx : Int) : ∀ (l : List ByteArray) (pre X : ByteArray) (o : List Int) (k : Nat), l ≠ [] → (∀ a ∈ l, a.size ≤ 65535) → (o.length : Int) + (joined l).size ≤ mx → l.length ≤ k →
    blocks ((pre ++ chain l) ++ X) mx k ⟨8 * (pre.size : Int), o, 0⟩ = ⟨8 * ((pre.size + (chain l).size : Nat) : Int), o ++ bytesOf (joined l), 0⟩ := by
  intro l
  induction l with
  | nil => intro _ _ _ _ h; exact absurd rfl h
  | cons a l ih =>
    intro pre X o k _ hl ho hk
    obtain ⟨k1, rfl⟩ : ∃ k1, k = k1 + 1 := ⟨k - 1, by simp only [List.length_cons] at hk; omega⟩
    have ha := hl a (List.mem_cons_self ..)
    cases l with
    | nil =>
      have e1 : joined [a] = a := by show a ++ (⟨#[]⟩ : ByteArray) = a; exact ByteArray.append_empty
      rw [e1] at ho ⊢
      obtain ⟨h1, h2⟩ := stored_mid pre a X 1 (.inr rfl) ha
      have hb := block_at (mx := mx) (o := o) h1 (.inr rfl) ha ho
      rw [h2] at hb
      show blocks ((pre ++ sblk 1 a) ++ X) mx (k1 + 1) _ = ⟨8 * ((pre.size + (sblk 1 a).size : Nat) : Int), _, 0⟩
      unfold blocks
      rw [hb, sblk_size, show pre.size + 5 + a.size = pre.size + (5 + a.size) by omega]
      exact if_pos (decide_eq_true (rfl : (1 : Int) = 1))
    | cons b l =>
      have e1 : joined (a :: b :: l) = a ++ joined (b :: l) := rfl
      have e2 : chain (a :: b :: l) = sblk 0 a ++ chain (b :: l) := rfl
      have e3 : (pre ++ chain (a :: b :: l)) ++ X = (pre ++ sblk 0 a) ++ (chain (b :: l) ++ X) := by rw [e2, ← ByteArray.append_assoc, ByteArray.append_assoc]
      rw [e1, ByteArray.size_append] at ho
      obtain ⟨h1, h2⟩ := stored_mid pre a (chain (b :: l) ++ X) 0 (.inl rfl) ha
      have hb := block_at (mx := mx) (o := o) h1 (.inl rfl) ha (by omega)
      rw [h2] at hb
      unfold blocks
      rw [e3, hb, if_neg (fun h => absurd (of_decide_eq_true h) (by decide)), if_pos rfl]
      simp only
      have h := ih (pre ++ sblk 0 a) X (o ++ bytesOf a) k1 (by simp) (fun c hc => hl c (List.mem_cons_of_mem _ hc)) (by rw [List.length_append, bytesOf_length]; omega) (by simp only [List.length_cons] at hk ⊢; omega)
      rw [ByteArray.append_assoc (a := pre ++ sblk 0 a)] at h
      rw [show ((pre.size + 5 + a.size : Nat) : Int) = ((pre ++ sblk 0 a).size : Int) by rw [ByteArray.size_append, sblk_size]; omega, h, e1, e2, bytesOf_append, List.append_assoc, ByteArray.size_append, ByteArray.size_append]
      congr 2
      omega
theorem raw_chain (l : List ByteArray) (X : ByteArray) (mx : Int) (hl : l ≠ []) (h : ∀ a ∈ l, a.size ≤ 65535) (h0 : ((joined l).size : Int) ≤ mx) (h1 : mx ≤ 262144) (hn : l.length ≤ 8 * (chain l ++ X).size + 2) :
    raw (chain l ++ X) mx = (joined l, ((chain l).size : Int), 0) := by
  have e := blocks_chain mx l ByteArray.empty X [] (8 * (chain l ++ X).size + 2) hl h (by show ((0 : Nat) : Int) + _ ≤ _; omega) hn
  rw [ByteArray.empty_append] at e
  have er : run0 (chain l ++ X) mx = ⟨8 * ((0 + (chain l).size : Nat) : Int), [] ++ bytesOf (joined l), 0⟩ := e
  rw [raw_is _ _ ⟨by omega, h1⟩, er]
  simp only
  rw [if_pos trivial, List.nil_append, strOfNums_bytes]
  congr 2
  omega
end Go.Proofs.Ytpbhkdamkbopkaa.Inf
/- What comes in, opened kind by kind: whatever a type's data are, the value reads as a value of its kind. -/
namespace Go.Proofs.Ytpbhkdamkbopkaa.Opens
open Go.ChangeShapes Go.WideShapes Go.Deep Go.Proofs.YtpbhkdamkbopkaaW.PrintWords

/-- Whatever reads as data of type t reads as a value of kind d that is right. -/
structure Opens {α : Type} (P : Program) (d : Kd α) (t : TypeId) (G : α → Prop) : Prop where
  out : ∀ (H : Type) (enc : TypeId × Value → H) (w : World) (base : Nat) (spare : Nat → Bool) (held : Bool) (fuel : Nat) (cs : List Value) (x : DataW H × List MemPlace),
    DataW.trod enc P w base spare held fuel t cs = some x → ∃ y : α, d.K w y cs ∧ G y
/-- The same of fields, from a place on. -/
structure OpensF {α : Type} (P : Program) (d : Kd α) (fs : List Field) (off : Nat) (G : α → Prop) : Prop where
  out : ∀ (H : Type) (enc : TypeId × Value → H) (w : World) (base : Nat) (spare : Nat → Bool) (held : Bool) (n : Nat) (cs : List Value), cs.length = off + d.sz →
    (∀ f ∈ fs, ∃ x, DataW.trod enc P w base spare held n f.type ((cs.drop f.offset).take (P.cellsOf f.type)) = some x) → ∃ y : α, d.K w y (cs.drop off) ∧ G y

theorem Opens.int {P : Program} {t : TypeId} {k : IntKind} (ht : P.underlying t = some (.int k)) : Opens P (Kd.int k) t (fun n => (Lit.int k n).wf = true) := by
  refine ⟨?_⟩
  intro H enc w base spare held fuel cs x h
  obtain ⟨n, rfl, _, hw⟩ := DataW.trod_int ht h
  exact ⟨n, rfl, hw⟩
theorem Opens.string {P : Program} {t : TypeId} (ht : P.underlying t = some .string) : Opens P Kd.string t (fun s => s.size ≤ maxLen) := by
  refine ⟨?_⟩
  intro H enc w base spare held fuel cs x h
  obtain ⟨s, rfl, _, hw⟩ := DataW.trod_string ht h
  exact ⟨s, rfl, hw⟩
theorem exists_list {α : Type} {Q : Nat → α → Prop} (n : Nat) (h : ∀ i, i < n → ∃ y, Q i y) : ∃ l : List α, l.length = n ∧ ∀ i y, l[i]? = some y → Q i y := by
  induction n with
  | zero => exact ⟨[], rfl, fun i y h => by simp at h⟩
  | succ n ih =>
    obtain ⟨l, hl, hq⟩ := ih (fun i hi => h i (by omega))
    obtain ⟨y, hy⟩ := h n (by omega)
    refine ⟨l ++ [y], by simp [hl], fun i z hz => ?_⟩
    by_cases hi : i < l.length
    · rw [List.getElem?_append_left hi] at hz
      exact hq i z hz
    · rw [List.getElem?_append_right (by omega)] at hz
      have h0 : i - l.length = 0 := by
        have := (List.getElem?_eq_some_iff.1 hz).1
        simp at this
        omega
      rw [h0] at hz
      have e : i = n := by omega
      subst e
      simp at hz
      exact hz ▸ hy
theorem Opens.slice {α : Type} {P : Program} {d : Kd α} {t e : TypeId} {G : α → Prop} (ht : P.underlying t = some (.slice e)) (hC : P.cellsOf e = d.sz) (h : Opens P d e G) :
    Opens P (Kd.slice e d) t (fun l => l.length ≤ maxLen ∧ ∀ x ∈ l, G x) := by
  refine ⟨?_⟩
  intro H enc w base spare held fuel cs x hx
  rcases open_slice ht hx with ⟨rfl, _⟩ | ⟨a, len, cap, m, n, D, Pl, rfl, hb, hl, hm, hmm, _, hi⟩
  · exact ⟨[], ⟨none, 0, rfl, Nat.le_refl _, rfl, Nat.zero_le _, fun h => absurd h (Nat.lt_irrefl 0)⟩, Nat.zero_le _, fun x hx => absurd hx (by simp)⟩
  · have hlm : len ≤ m := by rw [hmm]; split <;> omega
    obtain ⟨l, hlen, hq⟩ := exists_list (Q := fun i (y : α) => ∃ cs', w.cells? base (a.add (i * P.cellsOf e)) (P.cellsOf e) = some cs' ∧ d.K w y cs' ∧ G y) len (fun i hi' => by
      obtain ⟨cs', hc, ht'⟩ := hi i (by omega)
      obtain ⟨y, hk, hg⟩ := h.out H enc w base spare held n cs' _ ht'
      exact ⟨y, cs', hc, hk, hg⟩)
    refine ⟨l, ⟨some a, cap, by rw [hlen], by omega, rfl, ?_, fun _ => ⟨a, rfl, fun j p hj => ?_⟩⟩, by omega, fun y hy => ?_⟩
    · simp only [maxLen] at hm
      omega
    · obtain ⟨cs', hc, hk, _⟩ := hq j p hj
      obtain ⟨_, hcl, hat⟩ := World.cells?_some hc
      refine ⟨cs', by rw [hcl, hC], hk, fun i u hu => ?_⟩
      have hil := (List.getElem?_eq_some_iff.1 hu).1
      have hcell := hat i (by omega)
      rw [← hC, ← Go.Deep.add_add, hcell, hu]
    · obtain ⟨j, hj, rfl⟩ := List.getElem_of_mem hy
      obtain ⟨_, _, _, hg⟩ := hq j _ (List.getElem?_eq_getElem hj)
      exact hg
theorem OpensF.one {α : Type} {P : Program} {d : Kd α} {f : Field} {off : Nat} {G : α → Prop} (hO : f.offset = off) (hC : P.cellsOf f.type = d.sz) (h : Opens P d f.type G) : OpensF P d [f] off G := by
  refine ⟨?_⟩
  intro H enc w base spare held n cs hl hf
  obtain ⟨x, hx⟩ := hf f (by simp)
  rw [hO, hC, List.take_of_length_le (by rw [List.length_drop]; omega)] at hx
  exact h.out H enc w base spare held n _ x hx
theorem OpensF.cons {α β : Type} {P : Program} {d : Kd α} {d' : Kd β} {f : Field} {fs : List Field} {off : Nat} {G : α → Prop} {G' : β → Prop} (hO : f.offset = off) (hC : P.cellsOf f.type = d.sz) (h : Opens P d f.type G)
    (h' : OpensF P d' fs (off + d.sz) G') : OpensF P (Kd.pair d d') (f :: fs) off (fun p => G p.1 ∧ G' p.2) := by
  refine ⟨?_⟩
  intro H enc w base spare held n cs hl hf
  have hl' : cs.length = off + (d.sz + d'.sz) := hl
  obtain ⟨x, hx⟩ := hf f (by simp)
  rw [hO, hC] at hx
  obtain ⟨y, hy, hg⟩ := h.out H enc w base spare held n _ x hx
  obtain ⟨y', hy', hg'⟩ := h'.out H enc w base spare held n cs (by omega) (fun g hg => hf g (by simp [hg]))
  refine ⟨(y, y'), ⟨(cs.drop off).take d.sz, cs.drop (off + d.sz), ?_, hy, hy'⟩, hg, hg'⟩
  rw [← List.drop_drop, List.take_append_drop]
theorem Opens.fields {α : Type} {P : Program} {d : Kd α} {t : TypeId} {fs : Array Field} {G : α → Prop} (ht : P.underlying t = some (.struct fs)) (hC : P.cellsOf t = d.sz) (h : OpensF P d fs.toList 0 G) : Opens P d t G := by
  refine ⟨?_⟩
  intro H enc w base spare held fuel cs x hx
  obtain ⟨xs, n, _, _, hl, hlen, hf⟩ := DataW.trod_struct ht hx
  have := h.out H enc w base spare held n cs (by omega) (fun f hm => by
    obtain ⟨i, hi, rfl⟩ := List.getElem_of_mem hm
    have hi' : i < fs.size := by simpa using hi
    have e := hf i (fs[i]'hi') (Array.getElem?_eq_getElem hi')
    rw [List.getElem?_eq_getElem (by omega)] at e
    exact ⟨_, by simpa using e⟩)
  simpa using this
theorem Opens.iso {α β : Type} {P : Program} {d : Kd α} {t : TypeId} {G : α → Prop} (h : Opens P d t G) (f : β → α) (g : α → β) (hg : ∀ p, f (g p) = p) : Opens P (Kd.iso d f) t (fun y => G (f y)) := by
  refine ⟨?_⟩
  intro H enc w base spare held fuel cs x hx
  obtain ⟨y, hy, hG⟩ := h.out H enc w base spare held fuel cs x hx
  refine ⟨g y, ?_, ?_⟩
  · show d.K w (f (g y)) cs
    rw [hg]; exact hy
  · show G (f (g y))
    rw [hg]; exact hG
theorem Opens.good {α : Type} {P : Program} {d : Kd α} {t : TypeId} {G G' : α → Prop} (h : Opens P d t G) (hg : ∀ y, G y → G' y) : Opens P d t G' := ⟨fun H enc w base spare held fuel cs x hx => by
  obtain ⟨y, hy, hG⟩ := h.out H enc w base spare held fuel cs x hx
  exact ⟨y, hy, hg y hG⟩⟩
theorem Opens.arg {α : Type} {H : Type} {enc : TypeId × Value → H} {P : Program} {w : World} {base : Nat} {spare : Nat → Bool} {held : Bool} {d : Kd α} {t : TypeId} {G : α → Prop} {v : Value} {D : DataW H} {p : List MemPlace} (h : Opens P d t G) (hd : DataW.Trod enc P w base spare held t v D p) :
    ∃ y : α, d.K w y v.cells.toList ∧ G y := by
  obtain ⟨fuel, hf⟩ := hd
  exact h.out H enc w base spare held fuel _ _ hf
end Go.Proofs.Ytpbhkdamkbopkaa.Opens
/- A row of strings, opened. -/
namespace Go.Proofs.Ytpbhkdamkbopkaa.Opens
open Go.RowKit Go.Proofs.YtpbhkdamkbopkaaW.PrintWords
def GStr (s : ByteArray) : Prop := s.size ≤ maxLen
theorem opens69 : Opens Try.prog (Kd.slice 9 Kd.string) 69 (fun l => l.length ≤ maxLen ∧ ∀ x ∈ l, GStr x) := Opens.slice Try.underlying69 (by kernel_rfl) (Opens.string Try.underlying9)
end Go.Proofs.Ytpbhkdamkbopkaa.Opens
/- Stored blocks, one behind the other, are their bytes, one behind the other. -/
namespace Go.Proofs.Ytpbhkdamkbopkaa.Pure
set_option linter.unusedSimpArgs false
set_option linter.unusedVariables false
open Go.RowKit Go.Proofs.Ytpbhkdamkbopkaa.Ext Go.Proofs.Ytpbhkdamkbopkaa.Opens Go.Proofs.Ytpbhkdamkbopkaa.GBlks Go.Proofs.Ytpbhkdamkbopkaa.Wr2 Go.Proofs.Ytpbhkdamkbopkaa.Inf Go.Proofs.YtpbhkdamkbopkaaW.PrintWords Go.Proofs.YtpbhkdamkbopkaaW.PrintLast Go.Proofs.YtpbhkdamkbopkaaW.PrintMore
open Go.Proofs.Ytpbhkdamkbopkaa.GEnds (celluloidlaw05_awake.f celluloidlaw05_awake.mono)

theorem blk_awake20 : celluloidlaw05_awake.f 20 = some true := by kernel_rfl
theorem blk_awake (k : Nat) : celluloidlaw05_awake.f (20 + k) = some true := by
  induction k with
  | zero => exact blk_awake20
  | succ k ih => exact celluloidlaw05_awake.mono _ _ ih
/-- Blocks none of which is the last. -/
def zeros : List ByteArray → ByteArray
  | [] => ⟨#[]⟩
  | a :: l => sblk 0 a ++ zeros l
theorem nil_app (a : ByteArray) : (⟨#[]⟩ : ByteArray) ++ a = a := ByteArray.empty_append
theorem app_nil (a : ByteArray) : a ++ (⟨#[]⟩ : ByteArray) = a := ByteArray.append_empty
theorem zeros_snoc (l : List ByteArray) (a : ByteArray) : zeros (l ++ [a]) = zeros l ++ sblk 0 a := by
  induction l with
  | nil => show sblk 0 a ++ (⟨#[]⟩ : ByteArray) = (⟨#[]⟩ : ByteArray) ++ sblk 0 a; rw [nil_app, app_nil]
  | cons b l ih => show sblk 0 b ++ zeros (l ++ [a]) = (sblk 0 b ++ zeros l) ++ sblk 0 a; rw [ih, ByteArray.append_assoc]
theorem chain_snoc (l : List ByteArray) (a : ByteArray) : chain (l ++ [a]) = zeros l ++ sblk 1 a := by
  induction l with
  | nil => show sblk 1 a = (⟨#[]⟩ : ByteArray) ++ sblk 1 a; rw [nil_app]
  | cons b l ih =>
    have e : chain (b :: l ++ [a]) = sblk 0 b ++ chain (l ++ [a]) := by
      cases l with
      | nil => rfl
      | cons c l => rfl
    rw [e, ih, ← ByteArray.append_assoc]; rfl
theorem joined_snoc (l : List ByteArray) (a : ByteArray) : joined (l ++ [a]) = joined l ++ a := by
  induction l with
  | nil => show a ++ (⟨#[]⟩ : ByteArray) = (⟨#[]⟩ : ByteArray) ++ a; rw [nil_app, app_nil]
  | cons b l ih => show b ++ joined (l ++ [a]) = (b ++ joined l) ++ a; rw [ih, ByteArray.append_assoc]
theorem zeros_size (l : List ByteArray) (h : ∀ a ∈ l, a.size ≤ 1024) : (zeros l).size ≤ 1029 * l.length ∧ (joined l).size ≤ 1024 * l.length ∧ 5 * l.length ≤ (zeros l).size := by
  induction l with
  | nil => exact ⟨Nat.le_refl _, Nat.le_refl _, Nat.le_refl _⟩
  | cons b l ih =>
    have hb := h b (List.mem_cons_self ..)
    obtain ⟨i0, i1, i2⟩ := ih (fun a ha => h a (List.mem_cons_of_mem _ ha))
    show (sblk 0 b ++ zeros l).size ≤ _ ∧ (b ++ joined l).size ≤ _ ∧ _ ≤ (sblk 0 b ++ zeros l).size
    rw [ByteArray.size_append, ByteArray.size_append, sblk_size, List.length_cons]
    omega
theorem hdr_is (f : Int) (a : ByteArray) (h : a.size ≤ 1024) : strOfNums [f, (a.size : Int) % 256, (a.size : Int) / 256 % 256, (Go.bits .xor .i64 (-1) (a.size : Int)) % 256, ((Go.bits .xor .i64 (-1) (a.size : Int)) / 256) % 256] ++ a = sblk f a := by
  have en := Go.i64_not a.size (by omega)
  rw [en, show (-1 - (a.size : Int)) % 256 = 255 - (a.size : Int) % 256 by omega, show (-1 - (a.size : Int)) / 256 % 256 = 255 - (a.size : Int) / 256 % 256 by omega]
  rfl
theorem rd_mid (P Q : List ByteArray) (a : ByteArray) : rdOf ByteArray.empty (P ++ a :: Q) (P.length : Int) = a := by
  unfold rdOf
  rw [Int.toNat_natCast, List.getD_eq_getElem?_getD, List.getElem?_append_right (Nat.le_refl _), Nat.sub_self]
  rfl
theorem blocks_loop (l : List ByteArray) (hl : l.length ≤ 20) (h0 : l ≠ []) (Q : List ByteArray) : ∀ (P : List ByteArray) (k : Nat), l = P ++ Q → (∀ a ∈ P, a.size ≤ 1024) →
    celluloidlaw05_InflateBlocks.l0 (20 + k + Q.length + 1) l (if Q = [] then chain l else zeros P) (joined P) l (l.length : Int) (P.length : Int) = some true := by
  induction Q with
  | nil =>
    intro P k hP hs
    rw [List.append_nil] at hP
    subst hP
    have hz := zeros_size l hs
    have hc : (chain l).size ≤ 40000 ∧ 5 * l.length ≤ (chain l).size := by
      obtain ⟨m, a, rfl⟩ : ∃ m a, l = m ++ [a] := ⟨l.dropLast, l.getLast h0, (List.dropLast_concat_getLast h0).symm⟩
      rw [chain_snoc, ByteArray.size_append, sblk_size]
      have h1 := zeros_size m (fun b hb => hs b (by simp [hb]))
      have h2 := hs a (by simp)
      rw [List.length_append, List.length_singleton] at hl ⊢
      omega
    have hr := raw_chain l ByteArray.empty 32768 h0 (fun a ha => Nat.le_trans (hs a ha) (by decide)) (by omega) (by decide) (by rw [ByteArray.append_empty]; omega)
    rw [ByteArray.append_empty] at hr
    have hrf : inflate_Raw.f (chain l) 32768 = some (joined l, ((chain l).size : Int), 0) := by
      unfold inflate_Raw.f
      rw [if_pos (by omega), hr]
    rw [celluloidlaw05_InflateBlocks.l0, if_neg (by omega), if_pos rfl, hrf, Option.bind_some]
    simp only
    rw [if_pos trivial, if_pos trivial, if_pos trivial, List.length_nil, Nat.add_zero, blk_awake]
    rfl
  | cons a Q ih =>
    intro P k hP hs
    have hlen : l.length = P.length + (Q.length + 1) := by rw [hP, List.length_append, List.length_cons]
    have hz := zeros_size P hs
    have hrd : rdOf ByteArray.empty l (P.length : Int) = a := by rw [hP]; exact rd_mid P Q a
    have hw1 : wrap64 ((l.length : Int) - 1) = (l.length : Int) - 1 := wrap_in (by omega) (by omega)
    have hw2 : wrap64 ((P.length : Int) + 1) = ((P ++ [a]).length : Int) := by rw [wrap_in (by omega) (by omega), List.length_append, List.length_singleton]; omega
    rw [celluloidlaw05_InflateBlocks.l0, if_pos (by omega), if_pos (by omega), if_pos (by omega), hrd]
    by_cases c : (a.size : Int) > 1024
    · rw [if_pos c, show 20 + k + (a :: Q).length = 20 + (k + (a :: Q).length) by omega, blk_awake]; rfl
    · have hs2 : ∀ b ∈ P ++ [a], b.size ≤ 1024 := by
        intro b hb
        rcases List.mem_append.1 hb with hb | hb
        · exact hs b hb
        · rw [List.mem_singleton.1 hb]; omega
      have hi := ih (P ++ [a]) k (by rw [hP, List.append_assoc]; rfl) hs2
      have z5 : ∀ a b c d e : Int, (strOfNums [a, b, c, d, e]).size = 5 := fun _ _ _ _ _ => rfl
      rw [if_neg c, if_neg (show ¬ (a :: Q) = [] by simp), show 20 + k + (a :: Q).length = 20 + k + Q.length + 1 by rw [List.length_cons]; omega]
      by_cases cq : Q = []
      · subst cq
        rw [if_pos rfl, hP, chain_snoc, joined_snoc] at hi
        rw [List.length_nil] at hlen hi ⊢
        rw [hw1, if_pos (by omega), Option.bind_some, hdr_is 1 a (by omega), z5, if_pos (by omega), sblk_size, if_pos (by omega), if_pos (by omega), hw2, hP]
        exact hi
      · rw [if_neg cq, zeros_snoc, joined_snoc] at hi
        have hq : 0 < Q.length := List.length_pos_iff.2 cq
        rw [hw1, if_neg (by omega), Option.bind_some, hdr_is 0 a (by omega), z5, if_pos (by omega), sblk_size, if_pos (by omega), if_pos (by omega), hw2]
        exact hi
def SaidInflateBlocks : Prop := ∀ (l0 : List ByteArray), l0.length ≤ maxLen ∧ (∀ x ∈ l0, GStr x) → ∃ k, celluloidlaw05_InflateBlocks.f k l0 = some true
theorem InflateBlocks : SaidInflateBlocks := by
  intro l _
  refine ⟨20 + 0 + l.length + 1 + 1, ?_⟩
  unfold celluloidlaw05_InflateBlocks.f
  by_cases c0 : (l.length : Int) > 20
  · rw [if_pos c0, celluloidlaw05_InflateBlocks.j0, if_pos rfl, show 20 + 0 + l.length + 1 = 20 + (l.length + 1) by omega, blk_awake]; rfl
  rw [if_neg c0]
  by_cases c1 : l = []
  · subst c1
    rw [celluloidlaw05_InflateBlocks.j0, if_pos (by rfl), show 20 + 0 + ([] : List ByteArray).length + 1 = 20 + 1 from rfl, blk_awake]; rfl
  · have hp := List.length_pos_iff.2 c1
    have h := blocks_loop l (by omega) c1 l [] 0 rfl (fun a ha => absurd ha (by simp))
    rw [if_neg c1] at h
    have e : ((l.length : Int) == 0) = false := beq_eq_false_iff_ne.2 (by omega)
    rw [e, celluloidlaw05_InflateBlocks.j0, if_neg (by decide)]
    exact h
end Go.Proofs.Ytpbhkdamkbopkaa.Pure
