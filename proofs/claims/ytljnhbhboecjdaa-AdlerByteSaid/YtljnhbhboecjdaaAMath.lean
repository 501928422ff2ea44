/- The plain arithmetic of the checksum: a fold over bytes, and what it gives over appended lists. -/
import Derived.Test.YtljnhbhboecjdaaWWords
import Derived.Test.YtljnhbhboecjdaaWMore
namespace Go.Proofs.Ytljnhbhboecjdaa.AMath
open Go.RowKit Go.Proofs.YtljnhbhboecjdaaW.PrintWords Go.Proofs.YtljnhbhboecjdaaW.PrintMore

/-- A byte more. -/
def stp (p : Int × Int) (c : Int) : Int × Int := ((p.1 + c) % 65521, (p.2 + (p.1 + c) % 65521) % 65521)
def run (p : Int × Int) (l : List Int) : Int × Int := l.foldl stp p
def bts (s : ByteArray) : List Int := s.data.toList.map fun c => (c.toNat : Int)
def fin (p : Int × Int) : Int := p.2 * 65536 + p.1
def Rng (p : Int × Int) : Prop := 0 ≤ p.1 ∧ p.1 < 65521 ∧ 0 ≤ p.2 ∧ p.2 < 65521

theorem bts_length (s : ByteArray) : (bts s).length = s.size := by unfold bts; rw [List.length_map, Array.length_toList]; rfl
theorem bts_append (s t : ByteArray) : bts (s ++ t) = bts s ++ bts t := by simp [bts]
theorem bts_get (s : ByteArray) (i : Nat) (h : i < s.size) : (bts s)[i]'(by rw [bts_length]; exact h) = bt s i := by
  have h2 : (Int.toNat (i : Int)) < s.size := by simpa using h
  unfold bt
  rw [dif_pos h2]
  simp [bts]
  rfl
theorem bts_drop (s : ByteArray) (i : Nat) (h : i < s.size) : (bts s).drop i = bt s i :: (bts s).drop (i + 1) := by
  rw [List.drop_eq_getElem_cons (by rw [bts_length]; exact h), bts_get s i h]
theorem bts_nil : bts ⟨#[]⟩ = [] := rfl
theorem stp_rng (p : Int × Int) (c : Int) : Rng (stp p c) := by unfold stp Rng; refine ⟨?_, ?_, ?_, ?_⟩ <;> simp only <;> omega
theorem run_nil (p : Int × Int) : run p [] = p := rfl
theorem run_cons (p : Int × Int) (c : Int) (l : List Int) : run p (c :: l) = run (stp p c) l := rfl
theorem run_append (p : Int × Int) (l m : List Int) : run p (l ++ m) = run (run p l) m := by unfold run; rw [List.foldl_append]
theorem run_rng (l : List Int) : ∀ p, Rng p → Rng (run p l) := by
  induction l with
  | nil => intro p h; exact h
  | cons c l ih => intro p _; rw [run_cons]; exact ih _ (stp_rng p c)
theorem rng_one : Rng (1, 0) := by unfold Rng; simp

theorem wrap_in {n : Int} (h0 : -9223372036854775808 ≤ n) (h1 : n ≤ 9223372036854775807) : wrap64 n = n := by unfold wrap64; omega

theorem wraps_i64 (j : Nat) (hj : j ≤ 62) (n : Int) (h₀ : 0 ≤ n) (h₁ : n < 2 ^ j) : IntKind.i64.wrap n = n := by
  have : (2 : Int) ^ j ≤ 2 ^ 62 := by
    have := Nat.pow_le_pow_right (n := 2) (by decide) hj
    exact_mod_cast this
  have h2 : (2 : Int) ^ 62 = 4611686018427387904 := by decide
  rw [IntKind.wrap_i64]; omega
theorem wraps_u32 (n : Int) (h₀ : 0 ≤ n) (h₁ : n < 2 ^ 32) : IntKind.u32.wrap n = n := by rw [IntKind.wrap_u32]; omega
theorem or_16 {x y : Int} (hx₀ : 0 ≤ x) (hx₁ : x < 65536) (h₀ : 0 ≤ y) (h₁ : y < 65536) : Go.bits .or .i64 (x * 65536) y = x * 65536 + y :=
  Go.bits_join .i64 40 (by decide) (wraps_i64 40 (by decide)) 16 _ _ (by omega) (by omega) (by omega) h₀ (by omega) (by omega)
theorem and_16 {x : Int} (hx₀ : 0 ≤ x) (hx₁ : x < 4294967296) : Go.bits .and .i64 x 65535 = x % 65536 :=
  Go.bits_mask .i64 40 (by decide) (wraps_i64 40 (by decide)) 16 (by decide) x hx₀ (by omega)
theorem and_16u {x : Int} (hx₀ : 0 ≤ x) (hx₁ : x < 4294967296) : Go.bits .and .u32 x 65535 = x % 65536 :=
  Go.bits_mask .u32 32 (by decide) wraps_u32 16 (by decide) x hx₀ (by omega)

/-- What the sum's parts are. -/
def prt (n : Int) : Int × Int := (n % 4294967296 % 65536 % 65521, n % 4294967296 / 65536 % 65521)
theorem prt_rng (n : Int) : Rng (prt n) := by unfold prt Rng; refine ⟨?_, ?_, ?_, ?_⟩ <;> simp only <;> omega
theorem prt_fin (p : Int × Int) (h : Rng p) : prt (fin p) = p := by
  obtain ⟨a, b⟩ := p
  unfold Rng at h; unfold prt fin
  simp only at h ⊢
  rw [Prod.mk.injEq]; constructor <;> omega
theorem prt_one : prt 1 = (1, 0) := by decide

/-- From another beginning: what is ahead is added once to A, and as often to B as there are bytes. -/
theorem run_from (l : List Int) : ∀ (a b x y : Int), 0 ≤ a → a < 65521 → 0 ≤ b → b < 65521 →
    (run (a, b) l).1 = ((run (x, y) l).1 + (a - x)) % 65521 ∨ l = [] := by
  induction l with
  | nil => intro a b x y _ _ _ _; exact .inr rfl
  | cons c l ih =>
    intro a b x y h0 h1 h2 h3
    refine .inl ?_
    rw [run_cons, run_cons]
    have e := stp_rng (a, b) c
    unfold Rng at e
    rcases ih (stp (a, b) c).1 (stp (a, b) c).2 (stp (x, y) c).1 (stp (x, y) c).2 e.1 e.2.1 e.2.2.1 e.2.2.2 with e1 | rfl
    · rw [show stp (a, b) c = ((stp (a, b) c).1, (stp (a, b) c).2) from rfl, show stp (x, y) c = ((stp (x, y) c).1, (stp (x, y) c).2) from rfl, e1]
      simp only [stp]
      omega
    · simp only [run_nil, stp]
      omega

/-- Congruent modulo 65521, by the quotient. -/
def Cg (a b : Int) : Prop := ∃ t : Int, a = b + 65521 * t
theorem Cg.eq_mod {a b : Int} (h : Cg a b) : a % 65521 = b % 65521 := by obtain ⟨t, rfl⟩ := h; omega
theorem Cg.rfl' (a : Int) : Cg a a := ⟨0, by omega⟩

/-- The second sum over n bytes from (a, b) against that from (x, y). -/
theorem run_cg (l : List Int) : ∀ (a b x y : Int),
    Cg ((run (a, b) l).1 - (run (x, y) l).1) (a - x) ∧ Cg ((run (a, b) l).2 - (run (x, y) l).2) (b - y + l.length * (a - x)) := by
  induction l with
  | nil => intro a b x y; simp only [run_nil]; exact ⟨Cg.rfl' _, ⟨0, by simp⟩⟩
  | cons c l ih =>
    intro a b x y
    obtain ⟨⟨t, e1⟩, ⟨u, e2⟩⟩ := ih (stp (a, b) c).1 (stp (a, b) c).2 (stp (x, y) c).1 (stp (x, y) c).2
    rw [run_cons, run_cons]
    have e3 : run (stp (a, b) c) l = run ((stp (a, b) c).1, (stp (a, b) c).2) l := rfl
    have e4 : run (stp (x, y) c) l = run ((stp (x, y) c).1, (stp (x, y) c).2) l := rfl
    rw [e3, e4, e1, e2]
    obtain ⟨v, hv⟩ : ∃ v : Int, (stp (a, b) c).1 = a + c - 65521 * v := ⟨(a + c) / 65521, by simp only [stp]; omega⟩
    obtain ⟨v', hv'⟩ : ∃ v : Int, (stp (x, y) c).1 = x + c - 65521 * v := ⟨(x + c) / 65521, by simp only [stp]; omega⟩
    obtain ⟨z, hz⟩ : ∃ z : Int, (stp (a, b) c).2 = b + (stp (a, b) c).1 - 65521 * z := ⟨(b + (stp (a, b) c).1) / 65521, by simp only [stp]; omega⟩
    obtain ⟨z', hz'⟩ : ∃ z : Int, (stp (x, y) c).2 = y + (stp (x, y) c).1 - 65521 * z := ⟨(y + (stp (x, y) c).1) / 65521, by simp only [stp]; omega⟩
    refine ⟨⟨t - v + v', by rw [hv, hv']; omega⟩, ⟨u - z + z' - v + v' + l.length * (v' - v), ?_⟩⟩
    rw [hz, hz', hv, hv', List.length_cons]
    push_cast
    grind

theorem join_math (p l m : Int × Int) (n : Int) (h1 : Cg (l.1 - m.1) (p.1 - 1)) (h2 : Cg (l.2 - m.2) (p.2 - 0 + n * (p.1 - 1))) (hl : Rng l) :
    (p.2 + m.2 + n % 65521 * (p.1 + 65521 - 1)) % 65521 = l.2 ∧ (p.1 + m.1 + 65521 - 1) % 65521 = l.1 := by
  obtain ⟨t, e1⟩ := h1
  obtain ⟨u, e2⟩ := h2
  obtain ⟨l0, l1, l2, l3⟩ := hl
  refine ⟨?_, by omega⟩
  obtain ⟨q, hq⟩ : ∃ q : Int, n % 65521 = n - 65521 * q := ⟨n / 65521, by omega⟩
  have : p.2 + m.2 + n % 65521 * (p.1 + 65521 - 1) = l.2 + 65521 * (n - 65521 * q - q * (p.1 - 1) - u) := by
    rw [hq]
    grind
  rw [this]
  omega

/-- The document's way, by places. -/
theorem ref_stp (a b p q c m : Int) (ha : Cg a p) (hb : Cg b (q + (m + 1) * p)) :
    Cg (a + c) (stp (p, q) c).1 ∧ Cg ((b + c * (m + 1)) % 65521) ((stp (p, q) c).2 + m * (stp (p, q) c).1) := by
  obtain ⟨t, rfl⟩ := ha
  obtain ⟨u, rfl⟩ := hb
  obtain ⟨v, hv⟩ : ∃ v : Int, (stp (p, q) c).1 = p + c - 65521 * v := ⟨(p + c) / 65521, by simp only [stp]; omega⟩
  obtain ⟨z, hz⟩ : ∃ z : Int, (stp (p, q) c).2 = q + (stp (p, q) c).1 - 65521 * z := ⟨(q + (stp (p, q) c).1) / 65521, by simp only [stp]; omega⟩
  generalize hx : (q + (m + 1) * p + 65521 * u + c * (m + 1)) / 65521 = x
  have hm : (q + (m + 1) * p + 65521 * u + c * (m + 1)) % 65521 = q + (m + 1) * p + 65521 * u + c * (m + 1) - 65521 * x := by omega
  refine ⟨⟨t + v, by rw [hv]; omega⟩, ⟨u - x + z + v * (m + 1), ?_⟩⟩
  rw [hm, hz, hv]
  grind

end Go.Proofs.Ytljnhbhboecjdaa.AMath
