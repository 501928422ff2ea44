/- The walk of slices.Repeat of one whole number, and of inflate's plain. -/
import Derived.Test.YtpbhkdamkbopkaaExtI2
import Derived.Laws.CopyRow
import Derived.Laws.CopyOwn
import Derived.Deep.RegionLaw
namespace Go.Proofs.Ytpbhkdamkbopkaa.Inf
set_option linter.unusedSimpArgs false
set_option linter.unusedVariables false
open Go.RowKit Go.Proofs.Ytpbhkdamkbopkaa.Ext Go.Proofs.Ytpbhkdamkbopkaa.RefP Go.Proofs.YtpbhkdamkbopkaaW.PrintWords Go.Proofs.YtpbhkdamkbopkaaW.PrintLast Go.Proofs.YtpbhkdamkbopkaaW.PrintMore

/-! ### bits_Mul64: function 119 -/
def bits_Mul64.f (a0 : Int) (a1 : Int) : Option (Int × Int) := some (IntKind.u64.wrap ((IntKind.u64.wrap ((IntKind.u64.wrap ((a0 / 4294967296) * (a1 / 4294967296))) + ((IntKind.u64.wrap ((IntKind.u64.wrap ((a0 / 4294967296) * (Go.bits .and .u64 a1 4294967295))) + ((IntKind.u64.wrap ((Go.bits .and .u64 a0 4294967295) * (Go.bits .and .u64 a1 4294967295))) / 4294967296))) / 4294967296))) + ((IntKind.u64.wrap ((Go.bits .and .u64 (IntKind.u64.wrap ((IntKind.u64.wrap ((a0 / 4294967296) * (Go.bits .and .u64 a1 4294967295))) + ((IntKind.u64.wrap ((Go.bits .and .u64 a0 4294967295) * (Go.bits .and .u64 a1 4294967295))) / 4294967296))) 4294967295) + (IntKind.u64.wrap ((Go.bits .and .u64 a0 4294967295) * (a1 / 4294967296))))) / 4294967296)), IntKind.u64.wrap (a0 * a1))
set_option maxHeartbeats 8000000 in
set_option maxRecDepth 100000 in
theorem bits_Mul64.calls (a0 : Int) (a1 : Int) (r1 : Int) (r2 : Int) (w : World) (h : bits_Mul64.f a0 a1 = some (r1, r2)) :
    Calls Try.prog 119 #[.int .u64 a0, .int .u64 a1] w fun e w' => e = .returned (.tuple #[.int .u64 r1, .int .u64 r2]) ∧ Drawn0 w w' := by
  have H : (some (IntKind.u64.wrap ((IntKind.u64.wrap ((IntKind.u64.wrap ((a0 / 4294967296) * (a1 / 4294967296))) + ((IntKind.u64.wrap ((IntKind.u64.wrap ((a0 / 4294967296) * (Go.bits .and .u64 a1 4294967295))) + ((IntKind.u64.wrap ((Go.bits .and .u64 a0 4294967295) * (Go.bits .and .u64 a1 4294967295))) / 4294967296))) / 4294967296))) + ((IntKind.u64.wrap ((Go.bits .and .u64 (IntKind.u64.wrap ((IntKind.u64.wrap ((a0 / 4294967296) * (Go.bits .and .u64 a1 4294967295))) + ((IntKind.u64.wrap ((Go.bits .and .u64 a0 4294967295) * (Go.bits .and .u64 a1 4294967295))) / 4294967296))) 4294967295) + (IntKind.u64.wrap ((Go.bits .and .u64 a0 4294967295) * (a1 / 4294967296))))) / 4294967296)), IntKind.u64.wrap (a0 * a1))) = some (r1, r2) := h
  clear h
  simp only [Option.some.injEq, Prod.mk.injEq] at H
  obtain ⟨rfl, rfl⟩ := H
  go_enter Try.func119, Try.ntmps119
  go_wp2
  go_ret2
  exact ⟨by first | rfl | (simp; done) | (simp [*]; done), by repeat (first | exact Drawn0.refl _ | apply Drawn0.step)⟩

/-! ### bits_Mul: function 115 -/
def bits_Mul.f (a0 : Int) (a1 : Int) : Option (Int × Int) := (bits_Mul64.f a0 a1).bind fun bt128 => (some (bt128.1, bt128.2))
set_option maxHeartbeats 8000000 in
set_option maxRecDepth 100000 in
theorem bits_Mul.calls (a0 : Int) (a1 : Int) (r1 : Int) (r2 : Int) (w : World) (h : bits_Mul.f a0 a1 = some (r1, r2)) :
    Calls Try.prog 115 #[.int .u64 a0, .int .u64 a1] w fun e w' => e = .returned (.tuple #[.int .u64 r1, .int .u64 r2]) ∧ Drawn0 w w' := by
  have H : ((bits_Mul64.f a0 a1).bind fun bt128 => (some (bt128.1, bt128.2))) = some (r1, r2) := h
  clear h
  replace H := Option.bind_eq_some_iff.mp H
  obtain ⟨⟨t128, t129⟩, A30, H⟩ := H
  replace H : (some (t128, t129)) = some (r1, r2) := H
  have A3 := Aside0.mk A30
  clear A30
  simp only [Option.some.injEq, Prod.mk.injEq] at H
  obtain ⟨rfl, rfl⟩ := H
  go_enter Try.func115, Try.ntmps115
  go_wp2_with (first | ((with_reducible refine gate_callee (f := 119) rfl ?_); refine goesL_ (some 25) rfl rfl Try.func119 (by kernel_rfl) rfl #[.int .u64 a0, .int .u64 a1] rfl (by (try simp only [List.map_toArray, List.map_cons, List.map_nil]); first | done | rfl | (simp only [List.length_drop, List.length_take]; rfl)) ?_; (with_reducible refine (bits_Mul64.calls a0 a1 t128 t129 _ A3.out).mono ?_); rintro e w' ⟨rfl, ⟨nd, rfl⟩⟩; refine ⟨_, rfl, ?_⟩))
  go_ret2
  exact ⟨by first | rfl | (simp; done) | (simp [*]; done), by repeat (first | exact Drawn0.refl _ | apply Drawn0.step)⟩

section
variable {P : Program}
/-- copy of elements of one cell into a row. -/
theorem run_copy_one (w : World) (dT sT ty elem : TypeId) (g o dLen dCap : Nat) (a : Addr) (sLen sCap : Nat) (cur : Array Value) (t : TypeId) (cs : List Value)
    (hu : P.underlying dT = some (.slice elem)) (hs : (P.info? elem).map (·.size) = some 1)
    (hg : w.heap[g]? = some (.cells cur t (0, 0))) (hn : cs.length = Nat.min sLen dLen)
    (hsrc : ∀ j v, cs[j]? = some v → w.cell? (a.add j) = some v) (hfit : o + cs.length ≤ cur.size) (h1 : ∀ v ∈ cs, v.oneCell' = true) :
    (Builtin.copy_ #[dT, sT] ty #[.slice (some ⟨g, o, none⟩) dLen dCap, .slice (some a) sLen sCap]).run P w =
      .ok (goInt (Nat.min sLen dLen)) (w.setRow g (cur.toList.take o ++ cs ++ cur.toList.drop (o + cs.length)).toArray) := by
  have hl := run_loadCells_list (P := P) w a cs hsrc
  have hst := run_storeCells_at P g o t cs 0 cur w hg (by simpa using hfit) h1
  cases hq : P.info? elem with
  | none => simp [hq] at hs
  | some i =>
    have hi : i.size = 1 := by simpa [hq] using hs
    simp [Builtin.copy_, run_underlying hu, Builtin.lenOf, Builtin.firstCells, sizeOf, typeInfo, hq, hi, ← hn, hl, hst]
theorem wpList_copy_one {w : World} {ops : Array Oper} {rest : List Oper} {o : Oper} {a : Act} {Q : Exit → Act → World → Prop} (hgd : o.guard = none) (d s : Operand) (dT sT : TypeId)
    (ho : o.op = .call { callee := .builtin .copy, args := #[d, s], argTypes := #[dT, sT] }) (elem : TypeId) (hu : P.underlying dT = some (.slice elem)) (hsz : (P.info? elem).map (·.size) = some 1)
    (g off dLen dCap : Nat) (ad : Addr) (sLen sCap : Nat) (hd : a.eval d = .slice (some ⟨g, off, none⟩) dLen dCap) (hs : a.eval s = .slice (some ad) sLen sCap)
    (cur : Array Value) (t : TypeId) (hg : w.heap[g]? = some (.cells cur t (0, 0))) (cs : List Value) (hn : cs.length = Nat.min sLen dLen)
    (hsrc : ∀ j v, cs[j]? = some v → w.cell? (ad.add j) = some v) (hfit : off + cs.length ≤ cur.size) (h1 : ∀ v ∈ cs, v.oneCell' = true)
    (h : wpList P ops Q rest (a.put o.dst (goInt (Nat.min sLen dLen))) (w.setRow g (cur.toList.take off ++ (cs ++ cur.toList.drop (off + cs.length))).toArray)) : wpList P ops Q (o :: rest) a w := by
  refine wpList_plain hgd fun K hK => ?_
  have hrun := run_copy_one (P := P) w dT sT o.type elem g off dLen dCap ad sLen sCap cur t cs hu hsz hg hn hsrc hfit h1
  unfold Oper.wp
  simp [execOp, ho, resolve, invoke, builtin, hd, hs, hrun, Result.andThen]
  exact hK _ _ h
theorem step_copy_one (m : Nat) {ops : Array Oper} {o : Oper} {a : Act} {w : World} {K : Act → World → Prop} {Q : Exit → Act → World → Prop} {E : Prop} (hgd : o.guard = none) (d s : Operand) (dT sT : TypeId)
    (ho : o.op = .call { callee := .builtin .copy, args := #[d, s], argTypes := #[dT, sT] }) (elem : TypeId) (hu : P.underlying dT = some (.slice elem)) (hsz : (P.info? elem).map (·.size) = some 1)
    (g off dLen dCap : Nat) (ad : Addr) (sLen sCap : Nat) (hm : Nat.min sLen dLen = m) (hd : a.eval d = .slice (some ⟨g, off, none⟩) dLen dCap) (hs : a.eval s = .slice (some ad) sLen sCap)
    (cur : Array Value) (t : TypeId) (hg : w.heap[g]? = some (.cells cur t (0, 0))) (cs : List Value) (hn : cs.length = m)
    (hsrc : ∀ j v, cs[j]? = some v → w.cell? (ad.add j) = some v) (hfit : off + cs.length ≤ cur.size) (h1 : ∀ v ∈ cs, v.oneCell' = true)
    (h : K (a.put o.dst (goInt m)) (w.setRow g (cur.toList.take off ++ (cs ++ cur.toList.drop (off + cs.length))).toArray)) :
    if Region.wanted o (yielded ops a.tmps) = true then Oper.wp P o a w K Q else E := by
  subst hm
  have hw : Region.wanted o (yielded ops a.tmps) = true := by simp [Region.wanted, hgd]
  rw [if_pos hw]
  have hrun := run_copy_one (P := P) w dT sT o.type elem g off dLen dCap ad sLen sCap cur t cs hu hsz hg hn hsrc hfit h1
  unfold Oper.wp
  simp [execOp, ho, resolve, invoke, builtin, hd, hs, hrun, Result.andThen]
  exact h
end

theorem mask32 (n : Nat) (h : n < 4294967296) : Go.bits .and .u64 (n : Int) 4294967295 = n := by
  have e := u64_and_nat n 4294967295 (by omega) (by decide)
  have e2 : n &&& 4294967295 = n % 2 ^ 32 := Nat.and_two_pow_sub_one_eq_mod n 32
  rw [e2, Nat.mod_eq_of_lt (by omega)] at e
  exact e
theorem u64_in (n : Int) (h0 : 0 ≤ n) (h1 : n < 18446744073709551616) : IntKind.u64.wrap n = n := by
  simp only [IntKind.wrap, IntKind.signed, IntKind.bits]
  simp
  omega
theorem mul_is (n : Nat) (h : n ≤ 65536) : bits_Mul.f 1 (n : Int) = some (0, (n : Int)) := by
  have e1 : Go.bits .and .u64 1 4294967295 = 1 := mask32 1 (by decide)
  have e0 : Go.bits .and .u64 0 4294967295 = 0 := mask32 0 (by decide)
  have e2 := mask32 n (by omega)
  have d1 : (1 : Int) / 4294967296 = 0 := by decide
  have d2 : (n : Int) / 4294967296 = 0 := by omega
  have w0 : IntKind.u64.wrap 0 = 0 := u64_in 0 (by decide) (by decide)
  have w1 : IntKind.u64.wrap (n : Int) = n := u64_in n (by omega) (by omega)
  have z : (0 : Int) / 4294967296 = 0 := by decide
  unfold bits_Mul.f bits_Mul64.f
  simp only [Option.bind_some, d1, d2, e1, e2, Int.zero_mul, Int.mul_zero, Int.one_mul, Int.zero_add, Int.add_zero, w0, w1, z, e0]

/-- The first k cells of a row that is being filled are x. -/
structure RI (w0 : World) (g cap : Nat) (x : Int) (k : Nat) (w' : World) : Prop where
  c : ∃ cur : List Value, w'.heap[g]? = some (.cells cur.toArray 3 (0, 0)) ∧ cur.length = cap ∧ ∀ j, j < k → cur[j]? = some (.int .i64 x)
  hg : w0.heap.size ≤ g
  b : Below w0.heap.size w0 w'
/-- So many more. -/
theorem fill_more {x : Int} {cur cs : List Value} {cap k m : Nat} (hl : cur.length = cap) (hc : ∀ j, j < k → cur[j]? = some (.int .i64 x)) (hm : cs.length = m) (hs : ∀ j, j < m → cs[j]? = some (.int .i64 x)) (hk : k + m ≤ cap) :
    (cur.take k ++ (cs ++ cur.drop (k + cs.length))).length = cap ∧ ∀ j, j < k + m → (cur.take k ++ (cs ++ cur.drop (k + cs.length)))[j]? = some (.int .i64 x) := by
  refine ⟨by simp only [List.length_append, List.length_take, List.length_drop]; omega, fun j hj => ?_⟩
  by_cases h1 : j < k
  · rw [List.getElem?_append_left (by rw [List.length_take]; omega), List.getElem?_take, if_pos h1]
    exact hc j h1
  · rw [List.getElem?_append_right (by rw [List.length_take]; omega), List.length_take, List.getElem?_append_left (by omega), show j - min k cur.length = j - k by omega, hs _ (by omega)]
theorem RI.copy {w0 w1 : World} {g cap k m : Nat} {x : Int} {cur : List Value} (hc : w1.heap[g]? = some (.cells cur.toArray 3 (0, 0))) (hl : cur.length = cap) (hk : ∀ j, j < k → cur[j]? = some (.int .i64 x)) (hg : w0.heap.size ≤ g) (hb : Below w0.heap.size w0 w1)
    {cs : List Value} (hm : cs.length = m) (hs : ∀ j, j < m → cs[j]? = some (.int .i64 x)) (hkm : k + m ≤ cap) : RI w0 g cap x (k + m) (w1.setRow g (cur.take k ++ (cs ++ cur.drop (k + cs.length))).toArray) :=
  ⟨⟨_, setRow_heap w1 g cur.toArray _ 3 (0, 0) hc, (fill_more hl hk hm hs hkm).1, (fill_more hl hk hm hs hkm).2⟩, hg, below_setRow hb hg _⟩
theorem RI.row {w0 w' : World} {g cap k : Nat} {x : Int} (h : RI w0 g cap x k w') (hk : k ≤ cap) (hm : cap ≤ maxLen) : Kd.R (Kd.int .i64) 3 w' w0.heap.size (fun _ => True) (.slice (some ⟨g, 0, none⟩) k cap) (List.replicate k x) := by
  obtain ⟨cur, hc, hl, hx⟩ := h.c
  refine ⟨fun _ _ => trivial, cur.take k, ?_, ?_, ?_⟩
  · rw [List.length_replicate]
    refine ⟨by rw [List.length_take, hl]; show min k cap = k * 1; omega, .inr ⟨g, cap, cur.toArray, rfl, h.hg, hc, hk, hm, by rw [List.size_toArray, hl]; show cap = cap * 1; omega, by show cur.take (k * 1) = _; rw [Nat.mul_one]⟩⟩
  · rw [List.length_take, List.length_replicate, hl]
    show min k cap = k * 1
    omega
  · intro j p hp
    obtain ⟨hj, rfl⟩ := List.getElem?_eq_some_iff.1 hp
    rw [List.length_replicate] at hj
    rw [List.getElem_replicate]
    have e : ((cur.take k).drop (j * 1)).take 1 = [.int .i64 x] := by
      refine List.ext_getElem? fun i => ?_
      rw [List.getElem?_take, List.getElem?_drop, List.getElem?_take]
      by_cases hi : i < 1
      · rw [if_pos hi, if_pos (by omega), hx _ (by omega)]
        obtain rfl : i = 0 := by omega
        rfl
      · rw [if_neg hi]
        rw [List.getElem?_eq_none (by show 1 ≤ i; omega)]
    show (Kd.int .i64).M w' w0.heap.size _ x (((cur.take k).drop (j * 1)).take 1)
    rw [e]
    rfl
theorem add_at (g j : Nat) : (⟨g, 0, none⟩ : Addr).add j = ⟨g, j, none⟩ := by unfold Addr.add; split <;> simp_all
theorem info3n : (Try.prog.info? 3).map (fun i => (i.zero, i.size, i.bytes)) = some (some (.int .i64 0), 1, 8) := by kernel_rfl

set_option maxRecDepth 100000 in
set_option maxHeartbeats 1000000 in
theorem repeat_calls (ad : Addr) (c : Nat) (x : Int) (n : Nat) (w : World) (h1 : 1 ≤ n) (h2 : n ≤ 65536) (hx : w.cell? (ad.add 0) = some (.int .i64 x)) :
    Calls Try.prog 109 #[.slice (some ad) 1 c, .int .i64 n] w fun e w' => ∃ v0_ : Value, e = .returned v0_ ∧ Kd.R (Kd.int .i64) 3 w' w.heap.size (fun _ => True) v0_ (List.replicate n x) ∧ Below w.heap.size w w' := by
  have HX := Aside0.mk hx
  clear hx
  have d0 : decide ((n : Int) < 0) = false := decide_eq_false (by omega)
  have d1 : decide ((9223372036854775807 : Int) < n) = false := decide_eq_false (by omega)
  have u1 : IntKind.u64.wrap (n : Int) = n := u64_in n (by omega) (by omega)
  have u2 : IntKind.u64.wrap 1 = 1 := u64_in 1 (by decide) (by decide)
  go_enter Try.func109, Try.ntmps109
  go_upto_region 6 with (first | (go_at_call 115; refine (bits_Mul.calls 1 n 0 n _ (mul_is n h2)).mono ?_; rintro e w' ⟨rfl, ⟨nd, rfl⟩⟩))
  have u3 : IntKind.i64.wrap (n : Int) = n := by rw [i64_w]; unfold wrap64; omega
  go_upto_region 7 with ((with_reducible refine gate_dst (N := 30) rfl ?_); refine Kd.R_make (Kd.int .i64) (w0 := w) w.heap.size 3 rfl (N := 30) rfl 22 _ _ rfl (n : Int) rfl rfl Try.underlying22 (.int .i64 0) 8 info3n rfl (by decide) (by decide) 0 (ok := fun _ => True) (okp := fun _ => True) (rfl) (fun _ hk => hk) trivial (Int.natCast_nonneg _) (by rw [Int.toNat_natCast]; omega) (pw_below_drewN (Below.refl _ _) _) (Nat.le_refl _) ?_; intro v1 w1 hr1 hb1 hg1 hn1; have HR1 := Aside0.mk hr1; have HB1 := Aside0.mk hb1; clear hr1 hb1 hg1 hn1)
  obtain ⟨inner, ho⟩ := Kd.R_own HR1.out
  rw [List.length_replicate, Int.toNat_natCast] at ho
  rcases ho.2 with ⟨_, h0⟩ | ⟨g, cap, cur, rfl, hbg, hgc, hnc, hcm, hcs, htk⟩
  · omega
  have HG := Aside0.mk hgc
  have HX1 : Aside0 (∀ j v, [Value.int .i64 x][j]? = some v → w1.cell? (ad.add j) = some v) := ⟨fun j v hv => by
    have hj : j < 1 := (List.getElem?_eq_some_iff.1 hv).1
    obtain rfl : j = 0 := by omega
    rw [(HB1.out.cell (World.block_lt_of_cell? w _ HX.out)), HX.out]
    exact hv⟩
  clear ho HR1 hgc htk
  obtain ⟨curl, ecur⟩ : ∃ curl : List Value, cur = curl.toArray := ⟨cur.toList, by simp⟩
  subst ecur
  have hcl : curl.length = cap := by (have h := hcs; rw [List.size_toArray] at h; rw [h]; exact Nat.mul_one _)
  have hmin : Nat.min 1 n = 1 := by show min 1 n = 1; omega
  have F1 : (Try.prog.info? 3).map (·.size) = some 1 := by kernel_rfl
  have F2 : [Value.int IntKind.i64 x].length = Nat.min 1 n := by rw [hmin]; rfl
  have F3 : 0 + [Value.int IntKind.i64 x].length ≤ curl.toArray.size := by show 0 + 1 ≤ curl.length; rw [hcl]; omega
  have F4 : ∀ v ∈ [Value.int IntKind.i64 x], v.oneCell' = true := by intro v hv; simp at hv; rw [hv]; rfl
  have F5 : Aside0 (∀ w', w' = w1.setRow g (curl.take 0 ++ ([Value.int IntKind.i64 x] ++ curl.drop (0 + [Value.int IntKind.i64 x].length))).toArray → RI w g cap x 1 w') := ⟨fun w' hw' => by rw [hw']; exact RI.copy (k := 0) (m := 1) HG.out hcl (fun j hj => absurd hj (by omega)) hbg HB1.out rfl (fun j hj => by rw [show j = 0 by omega]; rfl) (by omega)⟩
  go_wp2_with ((with_reducible refine gate_dst (N := 33) rfl ?_); refine wpList_copy_one rfl (.tmp 31) (.tmp 32) 22 22 rfl 3 Try.underlying22 F1 g 0 n cap ad 1 c rfl rfl curl.toArray 3 HG.out [.int .i64 x] F2 HX1.out F3 F4 ?_; rw [hmin]; have HRI := Aside0.mk (F5.out _ rfl); generalize w1.setRow g _ = w2 at HRI ⊢)
  go_loopw [8] (fun v8 w' => ∃ k : Nat, 1 ≤ k ∧ k ≤ n ∧ v8 = .int .i64 k ∧ Aside0 (RI w g cap x k w')) (fun v8 _ => n - (intOf v8).toNat)
  case atStart => exact ⟨1, Nat.le_refl _, h1, rfl, HRI⟩
  case round =>
    clear HRI
    obtain ⟨k, hk1, hk2, rfl, HQ⟩ := hrel
    by_cases hlt : k < n
    · have hdec : decide ((k : Int) < n) = true := decide_eq_true (by omega)
      go_upto_region 9 with (fail)
      obtain ⟨curk, hck, hlk, hkk⟩ := HQ.out.c
      have hkc : k ≤ cap := by omega
      have hne : ¬ cap = k := by omega
      obtain ⟨m, hm⟩ : ∃ m, m = Nat.min k (n - k) := ⟨_, rfl⟩
      have hm1 : m ≤ k ∧ m ≤ n - k ∧ 1 ≤ m := by
        have e : m = min k (n - k) := hm
        omega
      have HCK := Aside0.mk hck
      have hcut : ∀ j, j < m → (curk.take m)[j]? = some (.int .i64 x) := fun j hj => by
        rw [List.getElem?_take, if_pos hj]
        exact hkk j (by omega)
      have hclen : (curk.take m).length = m := by rw [List.length_take]; omega
      have HSRC : Aside0 (∀ j v, (curk.take m)[j]? = some v → wr.drew.cell? ((⟨g, 0, none⟩ : Addr).add j) = some v) := ⟨fun j v hv => by
        have hj : j < m := by have := (List.getElem?_eq_some_iff.1 hv).1; omega
        rw [List.getElem?_take, if_pos hj] at hv
        rw [add_at g j, blk_cell (blk_drew HCK.out) j]
        simpa using hv⟩
      have HONE : Aside0 (∀ v ∈ curk.take m, v.oneCell' = true) := ⟨fun v hv => by
        obtain ⟨j, hj, rfl⟩ := List.getElem_of_mem hv
        have := hcut j (by omega)
        rw [List.getElem?_eq_getElem hj] at this
        injection this with this
        rw [this]
        rfl⟩
      have HRI2 : Aside0 (RI w g cap x (k + m) (wr.drew.setRow g (curk.take k ++ (curk.take m ++ curk.drop (k + (curk.take m).length))).toArray)) :=
        ⟨RI.copy (blk_drew hck) hlk hkk HQ.out.hg (below_drew1 HQ.out.b) hclen hcut (by omega)⟩
      have HFIT : Aside0 (k + (curk.take m).length ≤ curk.toArray.size) := ⟨by rw [hclen, List.size_toArray]; omega⟩
      have HLEN := Aside0.mk hclen
      have HMIN := Aside0.mk hm.symm
      have hw1 : IntKind.i64.wrap ((k : Int) + (m : Int)) = (k : Int) + (m : Int) := by rw [i64_w]; unfold wrap64; omega
      clear hck hkk hcut hclen HQ hm
      go_region_law (refine step_copy_one m (by rfl) (.tmp 41) (.tmp 44) 22 22 (by rfl) 3 Try.underlying22 (by kernel_rfl) g k (n - k) (cap - k) ⟨g, 0, none⟩ k cap HMIN.out ?hd ?hs curk.toArray 3 (by exact blk_drew HCK.out) (curk.take m) (by exact HLEN.out) (by exact HSRC.out) (by exact HFIT.out) (by exact HONE.out) ?_; (case hd => first | (go_simp; done) | (simp [Act.eval, hne]; done)); (case hs => first | (go_simp; done) | rfl))
      go_wp2_with fail
      refine ⟨⟨.int .i64 ((k : Int) + m), _, _, _, _, _, _, _, _, _, _, _, _, _, ⟨k + m, by omega, by omega, by simp, ⟨by have h := HRI2.out; rw [List.length_take, hlk] at h; exact h⟩⟩, rfl⟩, ?_⟩
      show n - (intOf (.int .i64 ((k : Int) + m))).toNat < n - (intOf (.int .i64 (k : Int))).toNat
      simp [intOf]
      omega
    · have hdec : decide ((k : Int) < n) = false := decide_eq_false (by omega)
      obtain rfl : k = n := by omega
      go_wp2
      go_ret
      exact ⟨_, rfl, HQ.out.row hnc hcm, HQ.out.b⟩
end Go.Proofs.Ytpbhkdamkbopkaa.Inf
