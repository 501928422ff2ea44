/- append of a string's bytes to a row of bytes, and where the row then lies. -/
import Derived.Test.YtpbhkdamkbopkaaExtI2
import Derived.Lib.AppendStr
namespace Go.Proofs.Ytpbhkdamkbopkaa.Inf
set_option linter.unusedSimpArgs false
set_option linter.unusedVariables false
open Go.RowKit Go.Proofs.Ytpbhkdamkbopkaa.Ext Go.Proofs.Ytpbhkdamkbopkaa.RefP Go.Proofs.YtpbhkdamkbopkaaW.PrintWords Go.Proofs.YtpbhkdamkbopkaaW.PrintLast Go.Proofs.YtpbhkdamkbopkaaW.PrintMore

/-- A row of whole numbers, by its cells. -/
theorem R_nums {k : IntKind} {e : Nat} {w : World} {base : Nat} {ok : Nat → Prop} {v : Value} {xs : List Int} (h : Kd.R (Kd.int k) e w base ok v xs) : w.ownsRow base e 1 v xs.length (nums k xs) := by
  obtain ⟨_, inner, ho, hl, hr⟩ := h
  have e1 : inner = nums k xs := by
    refine List.ext_getElem? fun j => ?_
    have hl2 : inner.length = xs.length := by have h := hl; rw [show (Kd.int k).sz = 1 from rfl, Nat.mul_one] at h; exact h
    by_cases hj : j < xs.length
    · have h1 := hr j _ (List.getElem?_eq_getElem hj)
      have h2 : (inner.drop (j * 1)).take 1 = [.int k xs[j]] := h1
      have h3 : ((inner.drop (j * 1)).take 1)[0]? = some (.int k xs[j]) := by rw [h2]; rfl
      rw [List.getElem?_take, if_pos (by decide), List.getElem?_drop, Nat.mul_one, Nat.add_zero] at h3
      rw [h3]
      simp [nums, hj]
    · rw [List.getElem?_eq_none (by omega), List.getElem?_eq_none (by rw [nums_length]; omega)]
  rw [← e1]
  exact ho
theorem nums_R {k : IntKind} {e : Nat} {w : World} {base : Nat} {ok : Nat → Prop} {v : Value} {xs : List Int} (h : w.ownsRow base e 1 v xs.length (nums k xs)) (hok : ∀ q, v.ownBlock = some q → ok q) : Kd.R (Kd.int k) e w base ok v xs := by
  refine ⟨hok, nums k xs, h, by rw [nums_length]; exact (Nat.mul_one _).symm, fun j p hp => ?_⟩
  obtain ⟨hj, rfl⟩ := List.getElem?_eq_some_iff.1 hp
  have e1 : ((nums k xs).drop (j * 1)).take 1 = [.int k xs[j]] := by
    refine List.ext_getElem? fun i => ?_
    rw [List.getElem?_take, List.getElem?_drop, Nat.mul_one]
    by_cases hi : i < 1
    · obtain rfl : i = 0 := by omega
      rw [if_pos hi]
      simp [nums, hj]
    · rw [if_neg hi, List.getElem?_eq_none (by show 1 ≤ i; omega)]
  rw [show (Kd.int k).sz = 1 from rfl, e1]
  rfl
section
variable {P : Program} {w : World}
/-- Where a row lies behind an append: where it lay, or in a new block. -/
theorem append_str_at (t u ty e : TypeId) (i : TypeInfo) (ht : P.underlying t = some (.slice e)) (hu : P.underlying u = some .string) (hi : P.info? e = some i) (hz : i.zero = some (.int .u8 0)) (hsize : i.size = 1) (hby : i.bytes = 1)
    (base : Nat) (v : Value) (n : Nat) (xs : List Value) (hown : w.ownsRow base e 1 v n xs) (s : ByteArray) (hbytes : n + s.size ≤ 140737488355328) (v' : Value) (w' : World) (hr : (Builtin.append_ #[t, u] ty #[v, .string s]).run P w = .ok v' w') :
    v'.ownBlock = v.ownBlock ∨ ∃ b, v'.ownBlock = some b ∧ w.heap.size ≤ b := by
  have hxl : xs.length = n := by simpa using hown.1
  rcases hown.2 with ⟨rfl, rfl⟩ | ⟨g, cap, cur, rfl, hbg, hg, hnc, hcm, hcs, htake⟩
  · by_cases hm : s.size = 0
    · have hf := Lib.run_firstCells_string (P := P) w 1 s
      rw [hm] at hf
      have hr2 : (Builtin.append_ #[t, u] ty #[.slice none 0 0, .string s]).run P w = .ok (.slice none 0 0) w := by
        simp [Builtin.append_, run_underlying ht, run_underlying hu, sizeOf, typeInfo, hi, hsize, Builtin.lenOf, hm, hf]
      rw [hr2] at hr
      injection hr with h1 h2
      subst h1
      exact .inl rfl
    · rw [run_append_nil_string (P := P) w t u ty e i (.int .u8 0) ht hu hi hz s (by omega) (by omega) (by rw [hby]; omega)] at hr
      injection hr with h1 h2
      subst h1
      exact .inr ⟨_, rfl, Nat.le_refl _⟩
  · by_cases hroom : n + s.size ≤ cap
    · have hcs' : cur.size = cap := by simpa using hcs
      rw [Lib.run_append_room_string (P := P) w t u ty e i ht hu hi hsize g n cap cur hg s hroom (by omega)] at hr
      injection hr with h1 h2
      subst h1
      exact .inl rfl
    · have holds : ∀ j u, xs[j]? = some u → w.cell? ((⟨g, 0, none⟩ : Addr).add j) = some u := hown.cells (g := g) rfl
      rw [Lib.run_append_grow_string (P := P) w t u ty e i (.int .u8 0) ht hu hi hz ⟨g, 0, none⟩ n cap xs (by rw [hsize]; simpa using hxl) holds s (by omega) (by omega) (by rw [hby]; exact growslice_fits (by omega) (by omega))] at hr
      injection hr with h1 h2
      subst h1
      exact .inr ⟨_, rfl, Nat.le_refl _⟩
variable {ops : Array Oper} {o : Oper} {a : Act} {Q : Exit → Act → World → Prop} {K : Act → World → Prop} {E : Prop}
/-- append(v, s...) as one step of a region that draws its order. -/
theorem step_append_str {w0 : World} (base : Nat) (hw : Region.wanted o (yielded ops a.tmps) = true) (x y : Operand) (t u e : TypeId) (ho : o.op = .call { callee := .builtin .append, args := #[x, y], argTypes := #[t, u] })
    (ht : P.underlying t = some (.slice e)) (hu : P.underlying u = some .string) (hinfo : (P.info? e).map (fun i => (i.zero, i.size, i.bytes)) = some (some (.int .u8 0), 1, 1))
    (v : Value) (xs : List Int) (s : ByteArray) (ok : Nat → Prop) (hx : a.eval x = v) (hy : a.eval y = .string s) (HO : Kd.R (Kd.int .u8) e w base ok v xs) (hfresh : ∀ k, w.heap.size ≤ k → ok k)
    (HB : Below base w0 w) (hbase : base ≤ w.heap.size) (hl : xs.length + s.size ≤ 140737488355328)
    (h : ∀ v1 w1, Kd.R (Kd.int .u8) e w1 base ok v1 (xs ++ bytesOf s) → Below base w0 w1 → w.grownBy w1 v.ownBlock → (v1.ownBlock = v.ownBlock ∨ ∃ b, v1.ownBlock = some b ∧ w.heap.size ≤ b) → K (a.put o.dst v1) w1) :
    if Region.wanted o (yielded ops a.tmps) = true then Oper.wp P o a w K Q else E := by
  rw [if_pos hw]
  obtain ⟨i0, hi, hzz⟩ := Option.map_eq_some_iff.1 hinfo
  simp only [Prod.mk.injEq] at hzz
  obtain ⟨hz0, hz1, hz2⟩ := hzz
  have hown := R_nums HO
  obtain ⟨v', w', hr, h2, h3, h4⟩ := Lib.run_append_own_string (P := P) w base t u o.type e i0 ht hu hi hz0 hz1 hz2 v xs.length (nums .u8 xs) hown s (by simp only [maxLen]; omega) hl hbase
  have hat := append_str_at (P := P) (w := w) t u o.type e i0 ht hu hi hz0 hz1 hz2 base v xs.length (nums .u8 xs) hown s hl v' w' hr
  have hl2 : (xs ++ bytesOf s).length = xs.length + s.size := by rw [List.length_append, bytesOf_length]
  have hc : nums .u8 (xs ++ bytesOf s) = nums .u8 xs ++ Lib.strCells s := by
    rw [nums_append]
    congr 1
    simp [nums, bytesOf, Lib.strCells]
  unfold Oper.wp execOp
  simp only [ho, resolve, invoke, builtin, Sem.run_bind, Sem.run_pure, Result.andThen_ok, List.map_toArray, List.map_cons, List.map_nil, hx, hy, hr]
  refine h v' w' (nums_R (by rw [hl2, hc]; exact h2) (fun q hq => ?_)) (HB.grown h3 hbase (own_base hown)) h3 hat
  rcases hat with e1 | ⟨b, e1, hb⟩
  · exact HO.1 q (by rw [← e1]; exact hq)
  · rw [e1] at hq
    cases hq
    exact hfresh _ hb
end
/-- A number that is taken. -/
theorem bits_get {s : ByteArray} {x y : St} {n : Nat} {k m : Int} (hk : k = (n : Int)) (hx : Ok s x) (hn : n ≤ 16) (h : bits s k x = (m, y)) : Ok s y ∧ 0 ≤ m ∧ m < 2 ^ n ∧ y.o = x.o ∧ (y.e = 0 → x.e = 0 ∧ x.p + n ≤ y.p ∧ y.p ≤ x.p + 16) ∧ (x.e ≠ 0 → y = x) := by
  subst hk
  have g := bits_some s x.p n hx.p0 hn
  have e : tak x (bitsOf s x.p (n : Int)) = (m, y) := h
  have h1 := tak_ok (Int.natCast_nonneg n) hx g
  have h2 := tak_get (x := x) (by have := (pow_16 n hn).1; omega) g
  rw [e] at h1 h2
  exact ⟨h1, h2.1, h2.2.1, h2.2.2.1, h2.2.2.2.1, h2.2.2.2.2⟩
/-- A symbol that is taken. -/
theorem next_get {s : ByteArray} {x y : St} {l : List Int} {m : Int} (hs : s.size ≤ 140737488351232) (hx : Ok s x) (he : x.e = 0 → errOf l = 0) (h : next l s x = (m, y)) : Ok s y ∧ 0 ≤ m ∧ (m < l.length ∨ m = 0) ∧ y.o = x.o ∧ (y.e = 0 → x.e = 0 ∧ x.p + 1 ≤ y.p ∧ y.p ≤ x.p + 16) ∧ (x.e ≠ 0 → y = x) := by
  have e : tak x (nextL l s x.p) = (m, y) := h
  by_cases c : x.e = 0
  · obtain ⟨_, g⟩ := next_some l (he c) s hs x.p hx.p0 (by have := hx.p1; omega)
    have h1 := tak_ok (by decide) hx g
    by_cases hl : 0 < (l.length : Int)
    · have h2 := tak_get (x := x) hl g
      rw [e] at h1 h2
      exact ⟨h1, h2.1, .inl h2.2.1, h2.2.2.1, h2.2.2.2.1, h2.2.2.2.2⟩
    · have g2 : Good s x.p 1 1 (nextL l s x.p) := by
        rcases g with g | g | g
        · have := g.2.1; have := g.2.2.1; omega
        · exact .inr (.inl g)
        · exact .inr (.inr g)
      have h2 := tak_get (x := x) (by decide) g2
      rw [e] at h1 h2
      exact ⟨h1, h2.1, .inr (by have := h2.1; have := h2.2.1; omega), h2.2.2.1, h2.2.2.2.1, h2.2.2.2.2⟩
  · have e2 : tak x (nextL l s x.p) = (0, x) := by unfold tak; rw [if_neg c]
    rw [e2] at e
    injection e with e3 e4
    subst e3
    subst e4
    exact ⟨hx, Int.le_refl _, .inr rfl, rfl, fun h => absurd h c, fun _ => rfl⟩
end Go.Proofs.Ytpbhkdamkbopkaa.Inf
