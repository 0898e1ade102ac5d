/-
  The laws MatBack, MatGroups, MatPicks, MatOrder, MatTwice.
-/
import Derived.Test.YtgcfmodgabeocaaDoorD04
namespace Go.Proofs.YtgcfmodgabeocaaDoor.X
open Go.RowKit F
set_option maxRecDepth 100000
set_option linter.unusedSimpArgs false
set_option linter.unusedVariables false

/-! Plain laws of tables. -/
theorem sqP_n {a : Tab} (h : SqP a) : 1 ≤ a.length ∧ a.length ≤ 255 := ⟨h.1.1, h.1.2.1⟩
theorem invR_cases (a : Tab) : (invR a = ([], 1) ∧ ¬ SqP a) ∨ (invR a = ([], 2) ∧ SqP a ∧ gj a.length a a.length = none) ∨ ∃ s, SqP a ∧ invR a = (s.2, 0) ∧ gj a.length a a.length = some s := by
  by_cases hS : SqP a
  · right
    cases hg : gj a.length a a.length with
    | none => left; exact ⟨by rw [invR, if_pos hS, hg], hS, rfl⟩
    | some s => right; exact ⟨s, hS, by rw [invR, if_pos hS, hg], rfl⟩
  · left; exact ⟨by rw [invR, if_neg hS], hS⟩
theorem invR_back {a : Tab} {s : Tab × Tab} (hS : SqP a) (hs : gj a.length a a.length = some s) : mulR a s.2 = (identL a.length, 0) ∧ mulR s.2 a = (identL a.length, 0) ∧ invR s.2 = (a, 0) := by
  have hq := sq_of hS
  have hr := gj_sq hq hs
  obtain ⟨n1, n2⟩ := sqP_n hS
  refine ⟨mulR_one hq hr n1 n2 (gj_right hq hs), mulR_one hr hq n1 n2 (gj_left hq hs), ?_⟩
  obtain ⟨t, ht, he⟩ := gj_of_left hr (X := ent a) (gj_right hq hs)
  rw [invR_some hr n1 n2 ht, tab_ext (gj_sq hr ht) hq he]
theorem rowMul_get {c : List UInt8} {l : Tab} {j : Nat} (hj : j < (row0 l).length) : (rowMul c l)[j]?.getD 0 = sm l.length fun k => gm (c[k]?.getD 0) (ent l k j) := by
  rw [rowMul, List.getElem?_map, List.getElem?_range hj]
  rfl
theorem row0_map {b : Tab} (hb : 0 < b.length) (f : List UInt8 → List UInt8) : row0 (b.map f) = f (row0 b) := by
  simp [row0, List.getElem?_eq_getElem hb]
theorem rowMul_assoc {r : List UInt8} {b c : Tab} (hb : 0 < b.length) (hc : (row0 b).length = c.length) : rowMul (rowMul r b) c = rowMul r (b.map fun row => rowMul row c) := by
  apply List.ext_getElem?
  intro j
  have h0 : (row0 (b.map fun row => rowMul row c)).length = (row0 c).length := by rw [row0_map hb, row_len]
  by_cases hj : j < (row0 c).length
  · have h1 : (rowMul (rowMul r b) c)[j]? = some ((rowMul (rowMul r b) c)[j]?.getD 0) := by
      rw [List.getElem?_eq_getElem (by rw [row_len]; exact hj)]; rfl
    have h2 : (rowMul r (b.map fun row => rowMul row c))[j]? = some ((rowMul r (b.map fun row => rowMul row c))[j]?.getD 0) := by
      rw [List.getElem?_eq_getElem (by rw [row_len, h0]; exact hj)]; rfl
    rw [h1, h2, rowMul_get hj, rowMul_get (by rw [h0]; exact hj), List.length_map]
    congr 1
    have e1 : ∀ l, l < c.length → gm ((rowMul r b)[l]?.getD 0) (ent c l j) = sm b.length fun k => gm (gm (r[k]?.getD 0) (ent b k l)) (ent c l j) := by
      intro l hl
      rw [rowMul_get (by rw [hc]; exact hl), sm_right]
    have e2 : ∀ k, k < b.length → gm (r[k]?.getD 0) (ent (b.map fun row => rowMul row c) k j) = sm c.length fun l => gm (r[k]?.getD 0) (gm (ent b k l) (ent c l j)) := by
      intro k hk
      rw [sm_left]
      congr 1
      have : ent (b.map fun row => rowMul row c) k j = (rowMul (rowN b k) c)[j]?.getD 0 := by
        simp [ent, rowN, List.getElem?_eq_getElem hk]
      rw [this, rowMul_get hj]
      rfl
    rw [sm_congr e1, sm_congr e2, sm_swap]
    exact sm_congr fun k _ => sm_congr fun l _ => gm_assoc _ _ _
  · rw [List.getElem?_eq_none (by rw [row_len]; omega), List.getElem?_eq_none (by rw [row_len, h0]; omega)]
theorem mapMul_may {a b : Tab} (ha : MayP a) (hb : MayP b) : MayP (a.map fun row => rowMul row b) ∧ (row0 (a.map fun row => rowMul row b)).length = (row0 b).length := by
  have h0 : (row0 (a.map fun row => rowMul row b)).length = (row0 b).length := by rw [row0_map ha.1, row_len]
  refine ⟨⟨by simpa using ha.1, by simpa using ha.2.1, by rw [h0]; exact hb.2.2.1, by rw [h0]; exact hb.2.2.2.1, fun x hx => ?_⟩, h0⟩
  obtain ⟨y, _, rfl⟩ := List.mem_map.1 hx
  rw [h0, row_len]
theorem mulR_assoc {a b c : Tab} (h1 : MulP a b) (h2 : MulP b c) : mulR (mulR a b).1 c = mulR a (mulR b c).1 ∧ (mulR a (mulR b c).1).2 = 0 := by
  obtain ⟨m1, e1⟩ := mapMul_may h1.1 h2.1
  obtain ⟨m2, e2⟩ := mapMul_may h2.1 h2.2.1
  have p1 : MulP (a.map fun row => rowMul row b) c := ⟨m1, h2.2.1, by rw [e1]; exact h2.2.2⟩
  have p2 : MulP a (b.map fun row => rowMul row c) := ⟨h1.1, m2, by rw [List.length_map]; exact h1.2.2⟩
  rw [mulR_rows h1, mulR_rows h2, mulR_rows p1, mulR_rows p2]
  refine ⟨?_, rfl⟩
  rw [List.map_map]
  congr 1
  apply List.map_congr_left
  intro r _
  exact rowMul_assoc h2.1.1 h2.2.2
theorem rowMul_unit {a : Tab} (ha : MayP a) {i : Nat} (hi : i < a.length) : rowMul (unitRow a.length i) a = a[i] := by
  have hl : a[i].length = (row0 a).length := ha.2.2.2.2 _ (List.getElem_mem hi)
  apply List.ext_getElem?
  intro j
  by_cases hj : j < (row0 a).length
  · have h1 : (rowMul (unitRow a.length i) a)[j]? = some ((rowMul (unitRow a.length i) a)[j]?.getD 0) := by
      rw [List.getElem?_eq_getElem (by rw [row_len]; exact hj)]; rfl
    rw [h1, rowMul_get hj, List.getElem?_eq_getElem (by rw [hl]; exact hj)]
    congr 1
    have e : ∀ k, k < a.length → gm ((unitRow a.length i)[k]?.getD 0) (ent a k j) = gm (i1 i k) (ent a k j) := by
      intro k hk
      have := ent_identL (n := a.length) hi hk
      rw [ent, rowN, identL, List.getElem?_map, List.getElem?_range hi] at this
      rw [← this]
      rfl
    rw [sm_congr e, sm_i1 hi, ent, rowN, List.getElem?_eq_getElem hi]
    simp [List.getElem?_eq_getElem (show j < a[i].length by omega)]
  · rw [List.getElem?_eq_none (by rw [row_len]; omega), List.getElem?_eq_none (by omega)]
theorem identL_may {n : Nat} (h1 : 1 ≤ n) (h2 : n ≤ 255) : MayP (identL n) ∧ (row0 (identL n)).length = n := by
  have hs := sqP_of (identL_sq n) h1 h2
  exact ⟨hs.1, by rw [← hs.2]; simp [identL]⟩
theorem mulR_ident {a : Tab} (ha : MayP a) : mulR (identL a.length) a = (a, 0) := by
  obtain ⟨m1, e1⟩ := identL_may ha.1 ha.2.1
  rw [mulR_rows ⟨m1, ha, e1⟩]
  congr 1
  apply List.ext_getElem (by simp [identL])
  intro i hi hi'
  simp only [List.getElem_map, identL, List.getElem_range]
  exact rowMul_unit ha hi'
theorem mulR_pick {a : Tab} {rows : List Int} (h : PickP a rows) : pickR (identL a.length) rows = (rows.map (atR (identL a.length)), 0) ∧ mulR (rows.map (atR (identL a.length))) a = (rows.map (atR a), 0) := by
  obtain ⟨ha, r1, r2, r3⟩ := h
  obtain ⟨m1, e1⟩ := identL_may ha.1 ha.2.1
  have hl : (identL a.length).length = a.length := by simp [identL]
  refine ⟨by rw [pickR, if_pos ⟨m1, r1, r2, fun r hr => by rw [hl]; exact r3 r hr⟩], ?_⟩
  have at_ : ∀ r ∈ rows, atR (identL a.length) r = unitRow a.length r.toNat := by
    intro r hr
    have := r3 r hr
    simp [atR, identL, List.getElem?_range (show r.toNat < a.length by omega)]
  have hrl : ∀ r ∈ rows, (atR (identL a.length) r).length = a.length := fun r hr => by rw [at_ r hr]; simp [unitRow]
  have hr0 : (row0 (rows.map (atR (identL a.length)))).length = a.length := by
    simp only [row0, List.getElem?_map, List.getElem?_eq_getElem (show 0 < rows.length by omega), Option.map_some, Option.getD_some]
    exact hrl _ (List.getElem_mem _)
  rw [mulR_rows ⟨⟨by simpa using r1, by simpa using r2, by rw [hr0]; exact ha.1, by rw [hr0]; exact ha.2.1, fun x hx => ?_⟩, ha, hr0⟩]
  · rw [List.map_map]
    congr 1
    apply List.map_congr_left
    intro r hr
    have := r3 r hr
    simp only [Function.comp_apply]
    rw [at_ r hr, rowMul_unit ha (by omega : r.toNat < a.length), atR, List.getElem?_eq_getElem (by omega)]
    rfl
  · obtain ⟨r, hr, rfl⟩ := List.mem_map.1 hx
    rw [hr0, hrl r hr]
theorem invR_order {a b : Tab} {s t : Tab × Tab} (hA : SqP a) (hB : SqP b) (hl : a.length = b.length) (hs : gj a.length a a.length = some s) (ht : gj b.length b b.length = some t) :
    (mulR a b).2 = 0 ∧ (mulR t.2 s.2).2 = 0 ∧ invR (mulR a b).1 = ((mulR t.2 s.2).1, 0) := by
  have qa := sq_of hA
  have qb := sq_of hB
  rw [← hl] at qb ht
  have qs := gj_sq qa hs
  have qt := gj_sq qb ht
  obtain ⟨n1, n2⟩ := sqP_n hA
  obtain ⟨e1, e2, e3⟩ := mulR_sq qa qb n1 n2
  obtain ⟨f1, f2, f3⟩ := mulR_sq qt qs n1 n2
  refine ⟨e1, f1, ?_⟩
  obtain ⟨u, hu, he⟩ := gj_of_left e2 (X := ent (mulR t.2 s.2).1) (fun i j hi hj => by
    have a1 : mm a.length (ent (mulR t.2 s.2).1) (ent (mulR a b).1) i j = mm a.length (mm a.length (ent t.2) (ent s.2)) (mm a.length (ent a) (ent b)) i j :=
      mm_congr (fun k hk => f3 i k hi hk) (fun k hk => e3 k j hk hj)
    have a2 : ∀ k, k < a.length → mm a.length (ent s.2) (mm a.length (ent a) (ent b)) k j = ent b k j := fun k hk => by
      rw [← mm_assoc, mm_congr (A' := i1) (B' := ent b) (fun l hl => gj_left qa hs k l hk hl) (fun _ _ => rfl)]
      exact sm_i1 hk
    rw [a1, mm_assoc, mm_congr (A' := ent t.2) (B' := ent b) (fun _ _ => rfl) a2]
    exact gj_left qb ht i j hi hj)
  rw [invR_some e2 n1 n2 hu, tab_ext (gj_sq e2 hu) f2 he]
theorem invR_twice {a : Tab} (hS : SqP a) {i k : Nat} (hi : i < a.length) (hk : k < a.length) (hik : i ≠ k) : invR (a.set i (rowN a k)) = ([], 2) := by
  have qa := sq_of hS
  have qb := qa.set hi (qa.row k hk)
  obtain ⟨n1, n2⟩ := sqP_n hS
  have hS' := sqP_of qb n1 n2
  rw [invR, if_pos hS', qb.len]
  cases hg : gj a.length (a.set i (rowN a k)) a.length with
  | none => rfl
  | some s =>
    have h1 := gj_right qb hg i i hi hi
    have h2 := gj_right qb hg k i hk hi
    have e : mm a.length (ent (a.set i (rowN a k))) (ent s.2) i i = mm a.length (ent (a.set i (rowN a k))) (ent s.2) k i := sm_congr fun j hj => by
      have e1 : ent (a.set i (rowN a k)) i j = ent a k j := by rw [ent_set qa hi, if_pos rfl]; rfl
      have e2 : ent (a.set i (rowN a k)) k j = ent a k j := by rw [ent_set qa hi, if_neg (Ne.symm hik)]
      rw [e1, e2]
    rw [h1, h2] at e
    simp [i1, Ne.symm hik] at e

/-! The walks. -/
theorem mulR_ok {a b : Tab} (h : (mulR a b).2 = 0) : MulP a b := by
  unfold mulR at h
  split at h
  · assumption
  · cases h
theorem pickR_cases (a : Tab) (l : List Int) : (PickP a l ∧ pickR a l = (l.map (atR a), 0)) ∨ pickR a l = ([], 1) := by
  by_cases h : PickP a l
  · left; exact ⟨h, by rw [pickR, if_pos h]⟩
  · right; rw [pickR, if_neg h]
theorem append_all {P : Program} {h : Heap} {t xt : TypeId} (ha : apT P t xt = true) {α : Type} {f : α → AV} (hf : ∀ x, (f x).atom = true) {l : List α} (hl : l ≠ []) (hn : l.length < 2 ^ 40) :
    appendX P h t xt .nilSl (TL f l) = some (.sl h.next 0 l.length l.length 1, h.alloc (l.map f)) := by
  obtain ⟨e, bytes, z, he, hz, hap, hb, hb2, hza, hat⟩ := apT_ok ha
  have hf1 : firstX h 1 l.length (TL f l) = some (l.map f) := by
    simp only [firstX, TL, Nat.mul_one]
    exact takeN_all (by simp)
  have h64 : l.length * bytes ≤ 2 ^ 47 := by
    have : l.length * bytes ≤ (2 ^ 40) * 64 := Nat.mul_le_mul (by omega) hb2
    omega
  have hlen : (TL f l).len? = some l.length := rfl
  have h0 : l.length ≠ 0 := by simpa using hl
  simp [appendX, elT_und he, hz, hb, hap, hlen, hf1, hl, h64, hf]
  omega
end Go.Proofs.YtgcfmodgabeocaaDoor.X
