/- The walk of slices.Repeat of one colour. -/
import Derived.Test.YtdkiglaidbahmaaExtClone
import Derived.Laws.CopyRow
import Derived.Laws.CopyOwn
import Derived.Deep.RegionLaw
namespace Go
/-- copy of elements of so many cells into a row. -/
theorem run_copy_sz {P : Program} (w : World) (dT sT ty elem : TypeId) (size g o dLen dCap : Nat) (a : Addr) (sLen sCap : Nat) (cur : Array Value) (t : TypeId) (cs : List Value)
    (hu : P.underlying dT = some (.slice elem)) (hs : (P.info? elem).map (·.size) = some size)
    (hg : w.heap[g]? = some (.cells cur t (0, 0))) (hn : cs.length = Nat.min sLen dLen * size)
    (hsrc : ∀ j v, cs[j]? = some v → w.cell? (a.add j) = some v) (hfit : o + cs.length ≤ cur.size) (h1 : ∀ v ∈ cs, v.oneCell' = true) :
    (Builtin.copy_ #[dT, sT] ty #[.slice (some ⟨g, o, none⟩) dLen dCap, .slice (some a) sLen sCap]).run P w =
      .ok (goInt (Nat.min sLen dLen)) (w.setRow g (cur.toList.take o ++ cs ++ cur.toList.drop (o + cs.length)).toArray) := by
  have hl := run_loadCells_list (P := P) w a cs hsrc
  have hst := run_storeCells_at P g o t cs 0 cur w hg (by simpa using hfit) h1
  cases hq : P.info? elem with
  | none => simp [hq] at hs
  | some i =>
    have hi : i.size = size := by simpa [hq] using hs
    simp [Builtin.copy_, run_underlying hu, Builtin.lenOf, Builtin.firstCells, sizeOf, typeInfo, hq, hi, ← hn, hl, hst]
theorem wpList_copy_sz {P : Program} {w : World} {ops : Array Oper} {rest : List Oper} {o : Oper} {a : Act} {Q : Exit → Act → World → Prop} (hgd : o.guard = none) (d s : Operand) (dT sT : TypeId)
    (ho : o.op = .call { callee := .builtin .copy, args := #[d, s], argTypes := #[dT, sT] }) (elem : TypeId) (size : Nat) (hu : P.underlying dT = some (.slice elem)) (hsz : (P.info? elem).map (·.size) = some size)
    (g off dLen dCap : Nat) (ad : Addr) (sLen sCap : Nat) (hd : a.eval d = .slice (some ⟨g, off, none⟩) dLen dCap) (hs : a.eval s = .slice (some ad) sLen sCap)
    (cur : Array Value) (t : TypeId) (hg : w.heap[g]? = some (.cells cur t (0, 0))) (cs : List Value) (hn : cs.length = Nat.min sLen dLen * size)
    (hsrc : ∀ j v, cs[j]? = some v → w.cell? (ad.add j) = some v) (hfit : off + cs.length ≤ cur.size) (h1 : ∀ v ∈ cs, v.oneCell' = true)
    (h : wpList P ops Q rest (a.put o.dst (goInt (Nat.min sLen dLen))) (w.setRow g (cur.toList.take off ++ (cs ++ cur.toList.drop (off + cs.length))).toArray)) : wpList P ops Q (o :: rest) a w := by
  refine wpList_plain hgd fun K hK => ?_
  have hrun := run_copy_sz (P := P) w dT sT o.type elem size g off dLen dCap ad sLen sCap cur t cs hu hsz hg hn hsrc hfit h1
  unfold Oper.wp
  simp [execOp, ho, resolve, invoke, builtin, hd, hs, hrun, Result.andThen]
  exact hK _ _ h
theorem step_copy_sz {P : Program} (m : Nat) {ops : Array Oper} {o : Oper} {a : Act} {w : World} {K : Act → World → Prop} {Q : Exit → Act → World → Prop} {E : Prop} (hgd : o.guard = none) (d s : Operand) (dT sT : TypeId)
    (ho : o.op = .call { callee := .builtin .copy, args := #[d, s], argTypes := #[dT, sT] }) (elem : TypeId) (size : Nat) (hu : P.underlying dT = some (.slice elem)) (hsz : (P.info? elem).map (·.size) = some size)
    (g off dLen dCap : Nat) (ad : Addr) (sLen sCap : Nat) (hm : Nat.min sLen dLen = m) (hd : a.eval d = .slice (some ⟨g, off, none⟩) dLen dCap) (hs : a.eval s = .slice (some ad) sLen sCap)
    (cur : Array Value) (t : TypeId) (hg : w.heap[g]? = some (.cells cur t (0, 0))) (cs : List Value) (hn : cs.length = m * size)
    (hsrc : ∀ j v, cs[j]? = some v → w.cell? (ad.add j) = some v) (hfit : off + cs.length ≤ cur.size) (h1 : ∀ v ∈ cs, v.oneCell' = true)
    (h : K (a.put o.dst (goInt m)) (w.setRow g (cur.toList.take off ++ (cs ++ cur.toList.drop (off + cs.length))).toArray)) :
    if Region.wanted o (yielded ops a.tmps) = true then Oper.wp P o a w K Q else E := by
  subst hm
  have hw : Region.wanted o (yielded ops a.tmps) = true := by simp [Region.wanted, hgd]
  rw [if_pos hw]
  have hrun := run_copy_sz (P := P) w dT sT o.type elem size g off dLen dCap ad sLen sCap cur t cs hu hsz hg hn hsrc hfit h1
  unfold Oper.wp
  simp [execOp, ho, resolve, invoke, builtin, hd, hs, hrun, Result.andThen]
  exact h
end Go
namespace Go.Proofs.Ytdkiglaidbahmaa.Ext
set_option linter.unusedSimpArgs false
set_option linter.unusedVariables false
open Go.RowKit Go.Proofs.Ytdkiglaidbahmaa.PCanvasLays Go.Proofs.YtdkiglaidbahmaaW.PrintWords Go.Proofs.YtdkiglaidbahmaaW.PrintLast Go.Proofs.YtdkiglaidbahmaaW.PrintMore

theorem mask32 (n : Nat) (h : n < 4294967296) : Go.bits .and .u64 (n : Int) 4294967295 = n := by
  have e := u64_and_nat n 4294967295 (by omega) (by decide)
  have e2 : n &&& 4294967295 = n % 2 ^ 32 := Nat.and_two_pow_sub_one_eq_mod n 32
  rw [e2, Nat.mod_eq_of_lt (by omega)] at e
  exact e
theorem u64_in (n : Int) (h0 : 0 ≤ n) (h1 : n < 18446744073709551616) : IntKind.u64.wrap n = n := by
  simp only [IntKind.wrap, IntKind.signed, IntKind.bits]
  simp
  omega
theorem mul_is (n : Nat) (h : n ≤ 65536) : bits_Mul.f 1 (n : Int) = some (0, (n : Int)) := by
  have e1 : Go.bits .and .u64 1 4294967295 = 1 := mask32 1 (by decide)
  have e0 : Go.bits .and .u64 0 4294967295 = 0 := mask32 0 (by decide)
  have e2 := mask32 n (by omega)
  have d1 : (1 : Int) / 4294967296 = 0 := by decide
  have d2 : (n : Int) / 4294967296 = 0 := by omega
  have w0 : IntKind.u64.wrap 0 = 0 := u64_in 0 (by decide) (by decide)
  have w1 : IntKind.u64.wrap (n : Int) = n := u64_in n (by omega) (by omega)
  have z : (0 : Int) / 4294967296 = 0 := by decide
  unfold bits_Mul.f bits_Mul64.f
  simp only [Option.bind_some, d1, d2, e1, e2, Int.zero_mul, Int.mul_zero, Int.one_mul, Int.zero_add, Int.add_zero, w0, w1, z, e0]

/-- A cell of a colour. -/
def cell4 (x : S23) (r : Nat) : Value := .int .i64 (match r with | 0 => x.f0 | 1 => x.f1 | 2 => x.f2 | _ => x.f3)
/-- The first k elements of a row that is being filled are x. -/
structure RI (w0 : World) (g cap : Nat) (x : S23) (k : Nat) (w' : World) : Prop where
  c : ∃ cur : List Value, w'.heap[g]? = some (.cells cur.toArray 23 (0, 0)) ∧ cur.length = cap * 4 ∧ ∀ j, j < 4 * k → cur[j]? = some (cell4 x (j % 4))
  hg : w0.heap.size ≤ g
  b : Below w0.heap.size w0 w'
/-- So many more. -/
theorem fill_more {x : S23} {cur cs : List Value} {cap k m : Nat} (hl : cur.length = cap * 4) (hc : ∀ j, j < 4 * k → cur[j]? = some (cell4 x (j % 4))) (hm : cs.length = 4 * m) (hs : ∀ j, j < 4 * m → cs[j]? = some (cell4 x (j % 4))) (hk : k + m ≤ cap) :
    (cur.take (4 * k) ++ (cs ++ cur.drop (4 * k + cs.length))).length = cap * 4 ∧ ∀ j, j < 4 * (k + m) → (cur.take (4 * k) ++ (cs ++ cur.drop (4 * k + cs.length)))[j]? = some (cell4 x (j % 4)) := by
  refine ⟨by simp only [List.length_append, List.length_take, List.length_drop]; omega, fun j hj => ?_⟩
  by_cases h1 : j < 4 * k
  · rw [List.getElem?_append_left (by rw [List.length_take]; omega), List.getElem?_take, if_pos h1]
    exact hc j h1
  · rw [List.getElem?_append_right (by rw [List.length_take]; omega), List.length_take, List.getElem?_append_left (by omega), show j - min (4 * k) cur.length = j - 4 * k by omega, hs _ (by omega)]
    congr 2
    omega

theorem RI.copy {w0 w1 : World} {g cap k m : Nat} {x : S23} {cur : List Value} (hc : w1.heap[g]? = some (.cells cur.toArray 23 (0, 0))) (hl : cur.length = cap * 4) (hk : ∀ j, j < 4 * k → cur[j]? = some (cell4 x (j % 4))) (hg : w0.heap.size ≤ g) (hb : Below w0.heap.size w0 w1)
    {cs : List Value} (hm : cs.length = 4 * m) (hs : ∀ j, j < 4 * m → cs[j]? = some (cell4 x (j % 4))) (hkm : k + m ≤ cap) : RI w0 g cap x (k + m) (w1.setRow g (cur.take (4 * k) ++ (cs ++ cur.drop (4 * k + cs.length))).toArray) :=
  ⟨⟨_, setRow_heap w1 g cur.toArray _ 23 (0, 0) hc, (fill_more hl hk hm hs hkm).1, (fill_more hl hk hm hs hkm).2⟩, hg, below_setRow hb hg _⟩
theorem four_get (x : S23) (j : Nat) (h : j < 4) : [cell4 x 0, cell4 x 1, cell4 x 2, cell4 x 3][j]? = some (cell4 x (j % 4)) := by
  match j, h with
  | 0, _ => rfl
  | 1, _ => rfl
  | 2, _ => rfl
  | 3, _ => rfl

theorem RI.row {w0 w' : World} {g cap k : Nat} {x : S23} (h : RI w0 g cap x k w') (hk : k ≤ cap) (hm : cap ≤ maxLen) : Kd.R k23 23 w' w0.heap.size (fun _ => True) (.slice (some ⟨g, 0, none⟩) k cap) (List.replicate k x) := by
  obtain ⟨cur, hc, hl, hx⟩ := h.c
  refine ⟨fun _ _ => trivial, cur.take (k * 4), ?_, ?_, ?_⟩
  · rw [List.length_replicate]
    refine ⟨by rw [List.length_take, hl]; show min (k * 4) (cap * 4) = k * 4; omega, .inr ⟨g, cap, cur.toArray, rfl, h.hg, hc, hk, hm, by rw [List.size_toArray]; exact hl, rfl⟩⟩
  · rw [List.length_take, List.length_replicate, hl]
    show min (k * 4) (cap * 4) = k * 4
    omega
  · intro j p hp
    obtain ⟨hj, rfl⟩ := List.getElem?_eq_some_iff.1 hp
    rw [List.length_replicate] at hj
    rw [List.getElem_replicate]
    have e : ((cur.take (k * 4)).drop (j * 4)).take 4 = [cell4 x 0, cell4 x 1, cell4 x 2, cell4 x 3] := by
      refine List.ext_getElem? fun i => ?_
      rw [List.getElem?_take, List.getElem?_drop, List.getElem?_take]
      by_cases hi : i < 4
      · rw [if_pos hi, if_pos (by omega), hx _ (by omega), four_get x i hi]
        congr 2
        omega
      · rw [if_neg hi]
        rw [List.getElem?_eq_none (by show 4 ≤ i; omega)]
    show k23.M w' w0.heap.size _ x (((cur.take (k * 4)).drop (j * 4)).take 4)
    rw [e]
    exact k23_mkM _ _ _ x

set_option maxRecDepth 100000 in
set_option maxHeartbeats 1000000 in
theorem repeat_calls (ad : Addr) (c : Nat) (x : S23) (n : Nat) (w : World) (h1 : 1 ≤ n) (h2 : n ≤ 65536) (hx : ∀ j, j < 4 → w.cell? (ad.add j) = some (cell4 x j)) :
    Calls Try.prog 23 #[.slice (some ad) 1 c, .int .i64 n] w fun e w' => ∃ v0_ : Value, e = .returned v0_ ∧ Kd.R k23 23 w' w.heap.size (fun _ => True) v0_ (List.replicate n x) ∧ Below w.heap.size w w' := by
  have HX := Aside0.mk hx
  clear hx
  have d0 : decide ((n : Int) < 0) = false := decide_eq_false (by omega)
  have d1 : decide ((9223372036854775807 : Int) < n) = false := decide_eq_false (by omega)
  have u1 : IntKind.u64.wrap (n : Int) = n := u64_in n (by omega) (by omega)
  have u2 : IntKind.u64.wrap 1 = 1 := u64_in 1 (by decide) (by decide)
  go_enter Try.func23, Try.ntmps23
  go_upto_region 6 with (first | (go_at_call 32; refine (bits_Mul.calls 1 n 0 n _ (mul_is n h2)).mono ?_; rintro e w' ⟨rfl, ⟨nd, rfl⟩⟩))
  have u3 : IntKind.i64.wrap (n : Int) = n := by rw [i64_w]; unfold wrap64; omega
  go_upto_region 7 with ((with_reducible refine gate_dst (N := 30) rfl ?_); refine Kd.R_make k23 (w0 := w) w.heap.size 23 rfl (N := 30) rfl 24 _ _ rfl (n : Int) rfl rfl Try.underlying24 (.agg #[.int .i64 0, .int .i64 0, .int .i64 0, .int .i64 0]) 32 info23b rfl (by decide) (by decide) z23 (ok := fun _ => True) (okp := fun _ => True) (k23_mkM _ _ _ z23) (fun _ hk => hk) trivial (Int.natCast_nonneg _) (by rw [Int.toNat_natCast]; omega) (pw_below_drewN (Below.refl _ _) _) (Nat.le_refl _) ?_; intro v1 w1 hr1 hb1 hg1 hn1; have HR1 := Aside0.mk hr1; have HB1 := Aside0.mk hb1; clear hr1 hb1 hg1 hn1)
  obtain ⟨inner, ho⟩ := Kd.R_own HR1.out
  rw [List.length_replicate, Int.toNat_natCast] at ho
  rcases ho.2 with ⟨_, h0⟩ | ⟨g, cap, cur, rfl, hbg, hgc, hnc, hcm, hcs, htk⟩
  · omega
  have HG := Aside0.mk hgc
  have HX1 : Aside0 (∀ j v, [cell4 x 0, cell4 x 1, cell4 x 2, cell4 x 3][j]? = some v → w1.cell? (ad.add j) = some v) := ⟨fun j v hv => by
    have hj : j < 4 := (List.getElem?_eq_some_iff.1 hv).1
    have hc := HX.out j hj
    rw [(HB1.out.cell (World.block_lt_of_cell? w _ hc)), hc]
    match j, hj with
    | 0, _ => exact hv
    | 1, _ => exact hv
    | 2, _ => exact hv
    | 3, _ => exact hv⟩
  clear ho HR1 hgc htk
  obtain ⟨curl, ecur⟩ : ∃ curl : List Value, cur = curl.toArray := ⟨cur.toList, by simp⟩
  subst ecur
  have hcl : curl.length = cap * 4 := by (have h := hcs; rw [List.size_toArray] at h; exact h)
  have hmin : Nat.min 1 n = 1 := by show min 1 n = 1; omega
  go_wp2_with ((with_reducible refine gate_dst (N := 33) rfl ?_); refine wpList_copy_sz rfl (.tmp 31) (.tmp 32) 24 24 rfl 23 4 Try.underlying24 (by kernel_rfl) g 0 n cap ad 1 c rfl rfl curl.toArray 23 HG.out [cell4 x 0, cell4 x 1, cell4 x 2, cell4 x 3] (by rw [hmin]; rfl) HX1.out (by show 0 + 4 ≤ curl.length; rw [hcl]; omega) (by intro v hv; simp at hv; rcases hv with rfl | rfl | rfl | rfl <;> rfl) ?_; rw [hmin]; have HRI : Aside0 (RI w g cap x 1 _) := ⟨RI.copy (k := 0) (m := 1) HG.out hcl (fun j hj => absurd hj (by omega)) hbg HB1.out rfl (fun j hj => four_get x j hj) (by omega)⟩; generalize w1.setRow g _ = w2 at HRI ⊢)
  go_loopw [8] (fun v8 w' => ∃ k : Nat, 1 ≤ k ∧ k ≤ n ∧ v8 = .int .i64 k ∧ Aside0 (RI w g cap x k w')) (fun v8 _ => n - (intOf v8).toNat)
  case atStart => exact ⟨1, Nat.le_refl _, h1, rfl, HRI⟩
  case round =>
    clear HRI
    obtain ⟨k, hk1, hk2, rfl, HQ⟩ := hrel
    by_cases hlt : k < n
    · have hdec : decide ((k : Int) < n) = true := decide_eq_true (by omega)
      go_upto_region 9 with (fail)
      obtain ⟨curk, hck, hlk, hkk⟩ := HQ.out.c
      have hkc : k ≤ cap := by omega
      have hne : ¬ cap = k := by omega
      obtain ⟨m, hm⟩ : ∃ m, m = Nat.min k (n - k) := ⟨_, rfl⟩
      have hm1 : m ≤ k ∧ m ≤ n - k ∧ 1 ≤ m := by
        have e : m = min k (n - k) := hm
        omega
      have HCK := Aside0.mk hck
      have hcut : ∀ j, j < 4 * m → (curk.take (4 * m))[j]? = some (cell4 x (j % 4)) := fun j hj => by
        rw [List.getElem?_take, if_pos hj]
        exact hkk j (by omega)
      have hclen : (curk.take (4 * m)).length = 4 * m := by rw [List.length_take]; omega
      have HSRC : Aside0 (∀ j v, (curk.take (4 * m))[j]? = some v → wr.drew.cell? ((⟨g, 0, none⟩ : Addr).add j) = some v) := ⟨fun j v hv => by
        have hj : j < 4 * m := by have := (List.getElem?_eq_some_iff.1 hv).1; omega
        rw [List.getElem?_take, if_pos hj] at hv
        have e : (⟨g, 0, none⟩ : Addr).add j = ⟨g, j, none⟩ := by unfold Addr.add; split <;> simp_all
        rw [e, blk_cell (blk_drew HCK.out) j]
        simpa using hv⟩
      have HONE : Aside0 (∀ v ∈ curk.take (4 * m), v.oneCell' = true) := ⟨fun v hv => by
        obtain ⟨j, hj, rfl⟩ := List.getElem_of_mem hv
        have := hcut j (by omega)
        rw [List.getElem?_eq_getElem hj] at this
        injection this with this
        rw [this]
        rfl⟩
      have HRI2 : Aside0 (RI w g cap x (k + m) (wr.drew.setRow g (curk.take (k * 4) ++ (curk.take (4 * m) ++ curk.drop (k * 4 + (curk.take (4 * m)).length))).toArray)) :=
        ⟨by rw [Nat.mul_comm k 4]; exact RI.copy (blk_drew hck) hlk hkk HQ.out.hg (below_drew1 HQ.out.b) hclen hcut (by omega)⟩
      have HFIT : Aside0 (k * 4 + (curk.take (4 * m)).length ≤ curk.toArray.size) := ⟨by rw [hclen, List.size_toArray]; omega⟩
      have HLEN : Aside0 ((curk.take (4 * m)).length = m * 4) := ⟨by rw [hclen]; omega⟩
      have HMIN := Aside0.mk hm.symm
      have hw1 : IntKind.i64.wrap ((k : Int) + (m : Int)) = (k : Int) + (m : Int) := by rw [i64_w]; unfold wrap64; omega
      clear hck hkk hcut hclen HQ hm
      go_region_law (refine step_copy_sz m (by rfl) (.tmp 41) (.tmp 44) 24 24 (by rfl) 23 4 Try.underlying24 (by kernel_rfl) g (k * 4) (n - k) (cap - k) ⟨g, 0, none⟩ k cap HMIN.out ?hd ?hs curk.toArray 23 (by exact blk_drew HCK.out) (curk.take (4 * m)) (by exact HLEN.out) (by exact HSRC.out) (by exact HFIT.out) (by exact HONE.out) ?_; (case hd => first | (go_simp; done) | (simp [Act.eval, hne]; done)); (case hs => first | (go_simp; done) | rfl))
      go_wp2_with fail
      refine ⟨⟨.int .i64 ((k : Int) + m), _, _, _, _, _, _, _, _, _, _, _, _, _, ⟨k + m, by omega, by omega, by simp, ⟨by have h := HRI2.out; rw [List.length_take, hlk] at h; exact h⟩⟩, rfl⟩, ?_⟩
      show n - (intOf (.int .i64 ((k : Int) + m))).toNat < n - (intOf (.int .i64 (k : Int))).toNat
      simp [intOf]
      omega
    · have hdec : decide ((k : Int) < n) = false := decide_eq_false (by omega)
      obtain rfl : k = n := by omega
      go_wp2
      go_ret
      exact ⟨_, rfl, HQ.out.row hnc hcm, HQ.out.b⟩
/-- Repeat of one colour, as the print would tell it. -/
def api_RGBA_23.f (l0 : List S23) (a1 : Int) : Option (List S23) := if l0.length = 1 ∧ 1 ≤ a1 ∧ a1 ≤ 65536 then some (List.replicate a1.toNat (rd_T23 l0 0)) else none
theorem api_RGBA_23.calls (A0 : Option Addr) (c0 : Nat) (l0 : List S23) (a1 : Int) (r : List S23) (w : World) (hr0 : Kd.C k23 w A0 l0.length l0) (hc0 : l0.length ≤ c0) (h : api_RGBA_23.f l0 a1 = some r) :
    Calls Try.prog 23 #[.slice A0 l0.length c0, .int .i64 a1] w fun e w' => ∃ v0_ : Value, e = .returned v0_ ∧ Kd.R k23 23 w' w.heap.size (fun _ => True) v0_ r ∧ Below w.heap.size w w' := by
  unfold api_RGBA_23.f at h
  by_cases hc : l0.length = 1 ∧ 1 ≤ a1 ∧ a1 ≤ 65536
  · rw [if_pos hc] at h
    obtain rfl := Option.some.inj h
    obtain ⟨h0, h1, h2⟩ := hc
    obtain ⟨ad, rfl, hx0, hx1, hx2, hx3⟩ := at_T23 hr0 0 (by omega) (by omega)
    obtain ⟨n, rfl⟩ := Int.eq_ofNat_of_zero_le (show 0 ≤ a1 by omega)
    rw [h0, Int.toNat_natCast]
    refine repeat_calls ad c0 (rd_T23 l0 0) n w (by omega) (by omega) (fun j hj => ?_)
    have e0 : ad.add (Int.toNat 0 * 4) = ad.add 0 := rfl
    rw [e0] at hx0 hx1 hx2 hx3
    match j, hj with
    | 0, _ => exact hx0
    | 1, _ => rw [show (1 : Nat) = 0 + 1 from rfl, add_field ad 0 1 (by omega)]; exact hx1
    | 2, _ => rw [show (2 : Nat) = 0 + 2 from rfl, add_field ad 0 2 (by omega)]; exact hx2
    | 3, _ => rw [show (3 : Nat) = 0 + 3 from rfl, add_field ad 0 3 (by omega)]; exact hx3
  · rw [if_neg hc] at h; cases h
end Go.Proofs.Ytdkiglaidbahmaa.Ext
