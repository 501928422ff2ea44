/- Places by three bytes: the map of deflate.Raw at its operations (an entry that is appended to), beside other work. -/
import Derived.Test.YtpbhkdamkbopkaaExtU
import Derived.DeepKeys4
import Derived.Maps.GroupsBeside
import Derived.WideKeyEntry
namespace Go.Proofs.Ytpbhkdamkbopkaa.Wr
set_option linter.unusedSimpArgs false
set_option linter.unusedVariables false
open Go.RowKit Go.Maps Go.WideElems Go.MapKept
open Go.ChangeMaps (setBlock heap_setBlock_same heap_setBlock_other putKey)

theorem laidOut97 : laidOutB Try.prog = true := by kernel_rfl
theorem key97 : Try.prog.keyTypeAt 2 97 = true := by kernel_rfl
theorem law97 : Go.WideMaps.KeyLaw Try.prog 97 := deep_law_laid laidOut97 (m := 2) (by omega) (by decide +kernel) key97 (by kernel_rfl)
theorem keyed97 : Keyed Try.prog 97 := Keyed.of_law law97
theorem zero22 (w : World) : (zeroValue 22).run Try.prog w = .ok (.slice none 0 0) w := by kernel_rfl
/-- Three bytes as a key. -/
def tk (a b c : Int) : Value := .agg #[.int .u8 a, .int .u8 b, .int .u8 c]
theorem keytype97 : Try.prog.keyType 97 = true := by kernel_rfl
theorem types_pos : ∃ n, Try.prog.types.size + 1 = n + 2 := ⟨Try.prog.types.size - 1, by have : 1 ≤ Try.prog.types.size := of_decide_eq_true (by kernel_rfl); omega⟩
theorem cells5 : Try.prog.cellsOf 5 = 1 := by kernel_rfl
theorem cells97 : Try.prog.cellsOf 97 = 3 := by kernel_rfl
theorem key_some {a b c : Int} (ha : 0 ≤ a ∧ a ≤ 255) (hb : 0 ≤ b ∧ b ≤ 255) (hc : 0 ≤ c ∧ c ≤ 255) : ∃ kl, keyOf Try.prog 97 (tk a b c) = some kl := by
  have hf : Value.formed Try.prog 97 (tk a b c) = true := by
    unfold tk
    simp [Value.formed, Try.underlying97, cells5, cells97]
  have wa : (Lit.int .u8 a).wf = true := by show (decide _ && decide _) = true; simp [IntKind.min, IntKind.max, IntKind.signed, IntKind.bits]; omega
  have wb : (Lit.int .u8 b).wf = true := by show (decide _ && decide _) = true; simp [IntKind.min, IntKind.max, IntKind.signed, IntKind.bits]; omega
  have wc : (Lit.int .u8 c).wf = true := by show (decide _ && decide _) = true; simp [IntKind.min, IntKind.max, IntKind.signed, IntKind.bits]; omega
  obtain ⟨n, hn⟩ := types_pos
  unfold keyOf
  rw [Try.underlying97, hn]
  simp only [keytype97, hf, Bool.and_self, if_true]
  have e : Try.prog.keyLits (n + 2) 97 (tk a b c).cells.toList = some [.int .u8 a, .int .u8 b, .int .u8 c] := by
    have k5 : ∀ x, (Lit.int .u8 x).wf = true → Try.prog.keyLits (n + 1) 5 [Value.int .u8 x] = some [.int .u8 x] := fun x hx => by
      unfold Program.keyLits
      rw [Try.underlying5]
      simp [hx]
    unfold Program.keyLits
    rw [Try.underlying97]
    simp [tk, Value.cells, cells97, cells5, show List.range 3 = [0, 1, 2] from rfl, k5 a wa, k5 b wb, k5 c wc]
  rw [e]
  exact ⟨_, rfl⟩
/-- The key's reading. -/
noncomputable def tl (a b c : Int) : Lit := (keyOf Try.prog 97 (tk a b c)).getD (.bool false)
theorem tl_key {a b c : Int} (ha : 0 ≤ a ∧ a ≤ 255) (hb : 0 ≤ b ∧ b ≤ 255) (hc : 0 ≤ c ∧ c ≤ 255) : keyOf Try.prog 97 (tk a b c) = some (tl a b c) := by
  obtain ⟨kl, h⟩ := key_some ha hb hc
  unfold tl
  rw [h]
  rfl
attribute [irreducible] tl
theorem tl_inj {a b c a' b' c' : Int} (ha : 0 ≤ a ∧ a ≤ 255) (hb : 0 ≤ b ∧ b ≤ 255) (hc : 0 ≤ c ∧ c ≤ 255) (ha' : 0 ≤ a' ∧ a' ≤ 255) (hb' : 0 ≤ b' ∧ b' ≤ 255) (hc' : 0 ≤ c' ∧ c' ≤ 255) (h : tl a b c = tl a' b' c') : a = a' ∧ b = b' ∧ c = c' := by
  have h1 := tl_key ha hb hc
  have h2 := tl_key ha' hb' hc'
  rw [← h] at h2
  have := law97.inj h1 h2
  simp [tk] at this
  exact this
theorem tl_lit {a b c : Int} (ha : 0 ≤ a ∧ a ≤ 255) (hb : 0 ≤ b ∧ b ≤ 255) (hc : 0 ≤ c ∧ c ≤ 255) : WideAt.IsKeyLit (tl a b c) := by
  obtain ⟨l, hl⟩ : ∃ l, l = tl a b c := ⟨_, rfl⟩
  have h : keyOf Try.prog 97 (tk a b c) = some l := by rw [hl]; exact tl_key ha hb hc
  rw [← hl]
  exact keyed97.key h
theorem put_here {D : DataW Unit} (hD : Maps.IsMap D) {a b c : Int} (ha : 0 ≤ a ∧ a ≤ 255) (hb : 0 ≤ b ∧ b ≤ 255) (hc : 0 ≤ c ∧ c ≤ 255) (d : DataW Unit) : (D.put (tl a b c) d).atKey (tl a b c) .nil = d := by
  obtain ⟨l, hl⟩ : ∃ l, l = tl a b c := ⟨_, rfl⟩
  have h : WideAt.IsKeyLit l := by rw [hl]; exact tl_lit ha hb hc
  rw [← hl]
  exact atKey_put_same hD h d .nil
theorem put_there {D : DataW Unit} {a b c a' b' c' : Int} (ha : 0 ≤ a ∧ a ≤ 255) (hb : 0 ≤ b ∧ b ≤ 255) (hc : 0 ≤ c ∧ c ≤ 255) (ha' : 0 ≤ a' ∧ a' ≤ 255) (hb' : 0 ≤ b' ∧ b' ≤ 255) (hc' : 0 ≤ c' ∧ c' ≤ 255) (d : DataW Unit) (hne : ¬ (a = a' ∧ b = b' ∧ c = c')) : (D.put (tl a' b' c') d).atKey (tl a b c) .nil = D.atKey (tl a b c) .nil := by
  have h : tl a b c ≠ tl a' b' c' := fun e => hne (tl_inj ha hb hc ha' hb' hc' e)
  generalize tl a b c = l at *
  generalize tl a' b' c' = l' at *
  exact atKey_put_other h d .nil
theorem one_key : ∀ {l : List MapEntry}, (l.map (·.key)).Nodup → ∀ {x y : MapEntry}, x ∈ l → y ∈ l → x.key = y.key → x = y
  | [], _, _, _, hx, _, _ => by cases hx
  | z :: l, hn, x, y, hx, hy, h => by
    rw [List.map_cons, List.nodup_cons] at hn
    rcases List.mem_cons.1 hx with hx1 | hx1
    · rcases List.mem_cons.1 hy with hy1 | hy1
      · rw [hx1, hy1]
      · exact absurd (List.mem_map.2 ⟨y, hy1, by rw [← h, hx1]⟩) hn.1
    · rcases List.mem_cons.1 hy with hy1 | hy1
      · exact absurd (List.mem_map.2 ⟨x, hx1, by rw [h, hy1]⟩) hn.1
      · exact one_key hn.2 hx1 hy1 h
section
variable {H : Type} {P : Program} {k : TypeId} {w w' : World} {base : Nat} {e : TypeId} {q : IntKind} {b n : Nat} {D : DataW H} {v : Value} {zs : List Int}
/-- What is owned hangs on its own block alone. -/
theorem own_same (h : w.ownsInts base e q v zs) (hs : ∀ g, v.ownBlock = some g → w'.heap[g]? = w.heap[g]?) : w'.ownsInts base e q v zs := by
  obtain ⟨⟨h1, h2⟩, h3⟩ := h
  refine ⟨⟨h1, ?_⟩, h3⟩
  rcases h2 with h2 | ⟨g, cap, cur, rfl, hb, hh, h4⟩
  · exact .inl h2
  · exact .inr ⟨g, cap, cur, rfl, hb, (hs g rfl).trans hh, h4⟩
theorem owns_same (h : w.ownsGroups P k base e q b n D) (hb : w'.heap[b]? = w.heap[b]?) (hs : ∀ es clock, w.heap[b]? = some (.map es clock) → ∀ x ∈ es.toList, ∀ g, x.val.ownBlock = some g → w'.heap[g]? = w.heap[g]?) : w'.ownsGroups P k base e q b n D := by
  obtain ⟨es, clock, hh, F, hn, rfl, hbb, hlen, hap⟩ := h
  have hst : ∀ x ∈ es.toList, ∀ z, rowElem (H := H) w base e q x.val = some z → rowElem w' base e q x.val = some z := fun x hx z hz => by
    obtain ⟨zs, ho, rfl⟩ := rowElem_inv hz
    exact rowElem_mk (own_same ho (hs es clock hh x hx))
  obtain ⟨F1, hmap, _⟩ := F.stay hst
  refine ⟨es, clock, hb.trans hh, F1, hn, by rw [hmap], hbb, fun x hx zs ho => ?_, hap⟩
  obtain ⟨y, hy⟩ := F.reads x hx
  obtain ⟨z, hz, _⟩ := rd_val hy
  obtain ⟨zs0, ho0, _⟩ := rowElem_inv hz
  rw [ho.unique (own_same ho0 (hs es clock hh x hx))]
  exact hlen x hx zs0 ho0
theorem shuns_same {No : Nat → Prop} (h : w.Shuns b No) (hb : w'.heap[b]? = w.heap[b]?) : w'.Shuns b No := fun es clock hh => h es clock (hb.symm.trans hh)
/-- An entry for a key, and the store of what it is to hold. -/
theorem groups_entry {t E : TypeId} {key : Value} {kl : Lit} (K : Go.WideMaps.KeyLaw P k) (ht : P.underlying t = some (.map k E)) (hz : ∀ u : World, (zeroValue E).run P u = .ok (.slice none 0 0) u) (h : w.ownsGroups P k base e q b n D) (hn : n < maxLen) (hkey : keyOf P k key = some kl) :
    ∃ v st zs w1, (Instr.mapEntry t (.map (some b)) key).run P w = .ok (.tuple #[v, goInt st]) w1 ∧ w.grownBy w1 (some b) ∧ D.atKey kl .nil = rowDatum q v zs ∧ w1.ownsInts base e q v zs ∧ zs.length ≤ n ∧ (∀ No : Nat → Prop, w.Shuns b No → ∀ g, v.ownBlock = some g → ¬ No g) ∧
      ∀ (w2 : World) (v' : Value) (zs' : List Int), w1.grownBy w2 v.ownBlock → w2.ownsInts base e q v' zs' → zs'.length ≤ n + 1 → (v'.ownBlock = v.ownBlock ∨ ∃ g, v'.ownBlock = some g ∧ w.heap.size ≤ g) →
        ∃ w3, (Instr.entryStore t (.map (some b)) (goInt st) v').run P w2 = .ok () w3 ∧ w3.ownsGroups P k base e q b (n + 1) (D.put kl (rowDatum q v' zs')) ∧ w2.grownBy w3 (some b) ∧ ∀ No : Nat → Prop, w.Shuns b No → (∀ g, v'.ownBlock = some g → ¬ No g) → w3.Shuns b No := by
  obtain ⟨es, clock, hb, F, hs, rfl, hbb, hlen, hap⟩ := h
  have KK := Keyed.of_law K
  have hblt : b < w.heap.size := (Array.getElem?_eq_some_iff.1 hb).1
  obtain ⟨v, st, es1, clock1, hrun, hv, hback⟩ := entry_then_store K ht hz hb F hkey
  have hg1 : w.grownBy (setBlock w b (.map es1 clock1)) (some b) := ⟨rfl, rfl, rfl, by simp [setBlock], fun i _ hi => heap_setBlock_other hb _ (fun e1 => hi (by rw [e1]))⟩
  have owned : ∀ x ∈ es.toList, ∃ zs, w.ownsInts base e q x.val zs := fun x hx => by
    obtain ⟨y, hy⟩ := F.reads x hx
    obtain ⟨z, hz, _⟩ := rd_val hy
    obtain ⟨zs, ho, _⟩ := rowElem_inv hz
    exact ⟨zs, ho⟩
  have own_ne : ∀ {W : World} {u : Value} {ys : List Int}, W.ownsInts base e q u ys → ∀ g, u.ownBlock = some g → g ≠ b := fun ho g hg e1 => by
    have := (ho.1.lt g hg).1
    omega
  -- what the entry holds
  have hat : ∃ zs, (DataW.map ((es.toList.map (rg P k (rowElem (H := H) w base e q))).foldr DataW.insert [])).atKey kl .nil = rowDatum q v zs ∧ w.ownsInts base e q v zs ∧ zs.length ≤ n ∧ (v = .slice none 0 0 ∧ (∀ x ∈ es.toList, x.key ≠ key) ∨ ∃ e0 ∈ es.toList, e0.key = key ∧ v = e0.val) := by
    rcases Maps.fit_look false KK ht (hz w) hb F hkey with ⟨_, hno, hat⟩ | ⟨e0, y, hm0, h3, _, hR, hat, _⟩
    · rcases hv with ⟨e0, hm0, h3, _⟩ | ⟨_, rfl⟩
      · exact absurd h3 (hno e0 hm0)
      · exact ⟨[], hat _, World.ownsInts_nil _ _ _ _, Nat.zero_le _, .inl ⟨rfl, hno⟩⟩
    · rcases hv with ⟨e1, hm1, h4, rfl⟩ | ⟨hno, _⟩
      · obtain ⟨zs, ho, rfl⟩ := rowElem_inv hR
        have he : e1.val = e0.val := by rw [one_key F.stamped.2.2 hm1 hm0 (h4.trans h3.symm)]
        rw [he]
        exact ⟨zs, hat _, ho, hlen e0 hm0 zs ho, .inr ⟨e0, hm0, h3, rfl⟩⟩
      · exact absurd h3 (hno e0 hm0)
  obtain ⟨zs, hat, hov, hzl, hvv⟩ := hat
  refine ⟨v, st, zs, _, hrun, hg1, hat, own_same hov (fun g hg => heap_setBlock_other hb _ (own_ne hov g hg)), hzl, fun No hsh g hg => ?_, ?_⟩
  · rcases hvv with ⟨rfl, _⟩ | ⟨e0, hm0, _, rfl⟩
    · cases hg
    · exact hsh es clock hb e0 hm0 g hg
  · intro w2 v' zs' hg hown' hl' hloc
    have hvb : some b ≠ v.ownBlock := fun e1 => own_ne hov b e1.symm rfl
    have hb2 : w2.heap[b]? = some (.map es1 clock1) := (hg.block b (by simpa [setBlock] using hblt) hvb).trans (heap_setBlock_same hb _)
    have sep : ∀ x ∈ es.toList, x.key ≠ key → ∀ g, x.val.ownBlock = some g → v.ownBlock ≠ some g := by
      intro x hx hne g hgx e1
      rcases hvv with ⟨rfl, _⟩ | ⟨e0, hm0, h3, rfl⟩
      · cases e1
      · rcases hap x hx e0 hm0 (by rw [h3]; exact hne) with h | h
        · rw [h] at hgx; cases hgx
        · exact h (hgx.trans e1.symm)
    have far : ∀ x ∈ es.toList, x.key ≠ key → ∀ g, x.val.ownBlock = some g → w2.heap[g]? = w.heap[g]? := by
      intro x hx hne g hgx
      obtain ⟨ys, ho⟩ := owned x hx
      have h1 := (ho.1.lt g hgx).2
      exact (hg.block g (by simpa [setBlock] using h1) (fun e1 => sep x hx hne g hgx e1.symm)).trans (heap_setBlock_other hb _ (own_ne ho g hgx))
    obtain ⟨es', clock', hstore, hmu⟩ := hback w2 v' hb2
    have hs1 : ∀ x ∈ es.toList, x.key ≠ key → ∀ z, rowElem (H := H) w base e q x.val = some z → rowElem w2 base e q x.val = some z := by
      intro x hx hne z hz
      obtain ⟨zs0, ho, rfl⟩ := rowElem_inv hz
      exact rowElem_mk (own_same ho (far x hx hne))
    obtain ⟨es2, clock2, hmu2, F', hput, _, _, hwho⟩ := Maps.fit_store (R' := rowElem (H := H) w2 base e q) KK ht hb F (Nat.lt_of_le_of_lt hs hn) hs1 hkey (rowElem_mk hown')
    obtain ⟨rfl, rfl⟩ : es' = es2 ∧ clock' = clock2 := by
      rw [hmu] at hmu2
      have e1 : setBlock w b (.map es' clock') = setBlock w b (.map es2 clock2) := by simpa using hmu2
      have e2 := heap_setBlock_same hb (.map es' clock')
      rw [e1, heap_setBlock_same hb (.map es2 clock2)] at e2
      simp at e2
      exact ⟨e2.1.symm, e2.2.symm⟩
    have hg2 : w2.grownBy (setBlock w2 b (.map es' clock')) (some b) := ⟨rfl, rfl, rfl, by simp [setBlock], fun i _ hi => heap_setBlock_other hb2 _ (fun e1 => hi (by rw [e1]))⟩
    have up : ∀ {u : Value} {ys : List Int}, w2.ownsInts base e q u ys → (setBlock w2 b (.map es' clock')).ownsInts base e q u ys := fun ho => own_same ho (fun g hgu => heap_setBlock_other hb2 _ (own_ne ho g hgu))
    have hs2 : ∀ x ∈ es'.toList, ∀ z, rowElem (H := H) w2 base e q x.val = some z → rowElem (setBlock w2 b (.map es' clock')) base e q x.val = some z := by
      intro x _ z hz
      obtain ⟨ys, ho, rfl⟩ := rowElem_inv hz
      exact rowElem_mk (up ho)
    obtain ⟨F2, hmap2, _⟩ := F'.stay hs2
    have old_new : ∀ x ∈ es.toList, x.key ≠ key → x.val.ownBlock = none ∨ x.val.ownBlock ≠ v'.ownBlock := by
      intro x hx hne
      cases hx' : x.val.ownBlock with
      | none => exact .inl rfl
      | some gx =>
        obtain ⟨ys, ho⟩ := owned x hx
        have h1 := (ho.1.lt gx hx').2
        refine .inr (fun e1 => ?_)
        rcases hloc with h | ⟨g, h, h2⟩
        · rw [h] at e1
          exact sep x hx hne gx hx' e1.symm
        · rw [h] at e1
          cases e1
          omega
    refine ⟨_, hstore, ⟨es', clock', heap_setBlock_same hb2 _, F2, ?_, ?_, hbb, ?_, ?_⟩, hg2, ?_⟩
    · have e1 : es'.size = ((es'.toList.map (rg P k (rowElem (H := H) w2 base e q))).foldr DataW.insert []).length := by rw [DataW.length_sorted]; simp
      rw [e1, hput]
      unfold putKey
      rw [DataW.length_insert]
      have e2 := List.length_filter_le (ChangeMaps.notKey kl) ((es.toList.map (rg P k (rowElem (H := H) w base e q))).foldr DataW.insert [])
      rw [DataW.length_sorted] at e2
      simp at e2
      omega
    · rw [hmap2, DataW.put_eq, hput]
    · intro x hx ys ho
      have back : w2.ownsInts base e q x.val ys := by
        obtain ⟨y, hy⟩ := F'.reads x hx
        obtain ⟨z, hz, _⟩ := rd_val hy
        obtain ⟨ys', ho', _⟩ := rowElem_inv hz
        rw [ho.unique (up ho')]
        exact ho'
      rcases hwho x hx with ⟨hx0, hne⟩ | ⟨_, hval⟩
      · obtain ⟨ys0, ho0⟩ := owned x hx0
        have := hlen x hx0 ys0 ho0
        rw [back.unique (own_same ho0 (far x hx0 hne))]
        omega
      · rw [hval] at back
        rw [back.unique hown']
        exact hl'
    · intro x hx y hy hne
      rcases hwho x hx with ⟨hx0, hxk⟩ | ⟨hxk, hxv⟩ <;> rcases hwho y hy with ⟨hy0, hyk⟩ | ⟨hyk, hyv⟩
      · exact hap x hx0 y hy0 hne
      · rw [hyv]
        exact old_new x hx0 hxk
      · rw [hxv]
        cases hv' : v'.ownBlock with
        | none => exact Or.inl rfl
        | some g =>
          refine Or.inr (fun e1 => ?_)
          rcases old_new y hy0 hyk with h | h
          · rw [h] at e1
            cases e1
          · exact h (by rw [hv', e1])
      · exact absurd (hxk.trans hyk.symm) hne
    · intro No hsh hno es3 clock3 hb3 x hx g hgx
      rw [heap_setBlock_same hb2] at hb3
      simp at hb3
      obtain ⟨rfl, rfl⟩ := hb3
      rcases hwho x hx with ⟨hx0, _⟩ | ⟨_, hval⟩
      · exact hsh es clock hb x hx0 g hgx
      · exact hno g (hval ▸ hgx)
end
end Go.Proofs.Ytpbhkdamkbopkaa.Wr
