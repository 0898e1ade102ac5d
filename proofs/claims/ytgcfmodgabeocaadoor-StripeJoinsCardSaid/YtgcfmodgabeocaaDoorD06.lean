/-
  Codewords: plain laws.
-/
import Derived.Test.YtgcfmodgabeocaaDoorC27
namespace Go.Proofs.YtgcfmodgabeocaaDoor.X
open Go.RowKit F
set_option linter.unusedSimpArgs false
set_option linter.unusedVariables false

theorem even_row0 {l : Tab} (h : EvenP l) : ∀ x ∈ l, x.length = (row0 l).length := h
theorem rowMul_unit' {a : Tab} (ha : EvenP a) {i : Nat} (hi : i < a.length) : rowMul (unitRow a.length i) a = a[i] := by
  have hl : a[i].length = (row0 a).length := ha _ (List.getElem_mem hi)
  apply List.ext_getElem?
  intro j
  by_cases hj : j < (row0 a).length
  · have h1 : (rowMul (unitRow a.length i) a)[j]? = some ((rowMul (unitRow a.length i) a)[j]?.getD 0) := by
      rw [List.getElem?_eq_getElem (by rw [row_len]; exact hj)]; rfl
    rw [h1, rowMul_get hj, List.getElem?_eq_getElem (by rw [hl]; exact hj)]
    congr 1
    have e : ∀ k, k < a.length → gm ((unitRow a.length i)[k]?.getD 0) (ent a k j) = gm (i1 i k) (ent a k j) := by
      intro k hk
      have := ent_identL (n := a.length) hi hk
      rw [ent, rowN, identL, List.getElem?_map, List.getElem?_range hi] at this
      rw [← this]
      rfl
    rw [sm_congr e, sm_i1 hi, ent, rowN, List.getElem?_eq_getElem hi]
    simp [List.getElem?_eq_getElem (show j < a[i].length by omega)]
  · rw [List.getElem?_eq_none (by rw [row_len]; omega), List.getElem?_eq_none (by omega)]
theorem spread_rows {rows data : Tab} (hr : ∀ x ∈ rows, x.length = data.length) (hd : data ≠ []) (he : EvenP data) : spreadL rows data = rows.map fun r => rowMul r data := by
  apply List.map_congr_left
  intro r hm
  rw [gather_rowMul (hr r hm) hd he]
  rfl
theorem genL_rows {k m : Nat} {data : Tab} (hk : data.length = k) : ∀ x ∈ genL k m, x.length = data.length := fun x hx => by rw [genL_mem hx, hk]
/-- The rows of a codeword. -/
theorem encL_get {data : Tab} {m i : Nat} (hd : data ≠ []) (he : EvenP data) (hi : i < data.length + m) : (encL data m)[i]? = some (rowMul (rowN (genL data.length m) i) data) := by
  rw [encL, spread_rows (genL_rows rfl) hd he, List.getElem?_map, rowN, List.getElem?_eq_getElem (by rw [genL_len]; exact hi)]
  rfl
theorem genL_unit {k m i : Nat} (hi : i < k) : rowN (genL k m) i = unitRow k i := by rw [rowN, genL_get (by omega), if_pos hi]; rfl
theorem encL_data {data : Tab} {m : Nat} (hd : data ≠ []) (he : EvenP data) : (encL data m).take data.length = data := by
  apply List.ext_getElem?
  intro i
  rw [List.getElem?_take]
  by_cases hi : i < data.length
  · rw [if_pos hi, encL_get hd he (by omega), genL_unit hi, rowMul_unit' he hi, List.getElem?_eq_getElem hi]
  · rw [if_neg hi, List.getElem?_eq_none (by omega)]
theorem encL_row {data : Tab} {m : Nat} (hd : data ≠ []) (he : EvenP data) : ∀ x ∈ encL data m, x.length = (row0 data).length := by
  intro x hx
  rw [encL, spread_rows (genL_rows rfl) hd he] at hx
  obtain ⟨r, _, rfl⟩ := List.mem_map.1 hx
  exact row_len
theorem even_of {l : Tab} {w : Nat} (h : ∀ x ∈ l, x.length = w) : EvenP l := by
  intro x hx
  cases l with
  | nil => cases hx
  | cons y l => simp; rw [h x hx, h y (by simp)]
theorem GMay.ne {data : Tab} {m : Int} (h : GMay data.length m) : data ≠ [] := by
  intro e
  have := h.1
  rw [e] at this
  simp at this

/-! The numbers of those that there are. -/
theorem numsF_mem : ∀ {l : List Bool} {i : Nat} {x : Int}, x ∈ numsF i l → ∃ j : Nat, x = ((i + j : Nat) : Int) ∧ l[j]? = some true
  | b :: l, i, x, h => by
    unfold numsF at h
    split at h
    · rename_i hb
      rcases List.mem_cons.1 h with rfl | h
      · exact ⟨0, by simp, by simp [hb]⟩
      · obtain ⟨j, h1, h2⟩ := numsF_mem h
        exact ⟨j + 1, by rw [h1]; congr 1; omega, by simpa using h2⟩
    · obtain ⟨j, h1, h2⟩ := numsF_mem h
      exact ⟨j + 1, by rw [h1]; congr 1; omega, by simpa using h2⟩
theorem numsF_sorted : ∀ (l : List Bool) (i : Nat), (numsF i l).Pairwise (· < ·)
  | [], i => .nil
  | b :: l, i => by
    unfold numsF
    split
    · refine .cons (fun x hx => ?_) (numsF_sorted l (i + 1))
      obtain ⟨j, h1, _⟩ := numsF_mem hx
      omega
    · exact numsF_sorted l (i + 1)
theorem nums_ok {have_ : List Bool} {n : Int} (hn : (have_.length : Int) ≤ n) : okH n (-1) (nums have_) = true := by
  refine okH_of (fun x hx => ?_) (numsF_sorted _ _)
  obtain ⟨j, h1, h2⟩ := numsF_mem hx
  have := (List.getElem?_eq_some_iff.1 h2).1
  omega
/-- The j-th of those that there are. -/
theorem left_get : ∀ {l : Tab} {have_ : List Bool} {i j : Nat}, have_.length = l.length → (numsF i have_)[j]? ≠ none → ∃ q, (numsF i have_)[j]? = some ((i + q : Nat) : Int) ∧ q < l.length ∧ have_[q]? = some true ∧ (left l have_)[j]? = l[q]? ∧ cnt (have_.take q) = j
  | l, [], i, j, he, h => by simp [numsF] at h
  | [], b :: have_, i, j, he, h => by simp at he
  | x :: l, b :: have_, i, j, he, h => by
    have he' : have_.length = l.length := by simpa using he
    have hcons : left (x :: l) (b :: have_) = (if b = true then [x] else []) ++ left l have_ := by cases b <;> simp [left]
    cases b with
    | false =>
      simp only [numsF] at h ⊢
      obtain ⟨q, h1, h2, h3, h4, h5⟩ := left_get he' h
      refine ⟨q + 1, by rw [if_neg (by simp), h1]; congr 2; omega, by simp; omega, by simpa using h3, ?_, by simp [cnt] at h5 ⊢; exact h5⟩
      rw [hcons]; simpa using h4
    | true =>
      simp only [numsF, if_true] at h ⊢
      cases j with
      | zero => exact ⟨0, by simp, by simp, by simp, by rw [hcons]; simp, by simp [cnt]⟩
      | succ j =>
        obtain ⟨q, h1, h2, h3, h4, h5⟩ := left_get (i := i + 1) he' (by simpa using h)
        refine ⟨q + 1, by simp only [List.getElem?_cons_succ]; rw [h1]; congr 2; omega, by simp; omega, by simpa using h3, ?_, by simp [cnt] at h5 ⊢; exact h5⟩
        rw [hcons]; simpa using h4
theorem cnt_nums : ∀ (l : List Bool) (i : Nat), (numsF i l).length = cnt l
  | [], i => rfl
  | b :: l, i => by
    have := cnt_nums l (i + 1)
    cases b <;> simp [numsF, cnt] at this ⊢ <;> exact this
theorem cnt_take_lt {have_ : List Bool} {i : Nat} (h : have_[i]? = some true) : cnt (have_.take i) < cnt have_ := by
  obtain ⟨hi, hb⟩ := List.getElem?_eq_some_iff.1 h
  have h1 : cnt (have_.take (i + 1)) = cnt (have_.take i) + 1 := by rw [List.take_succ_eq_append_getElem hi, cnt_snoc, hb, if_pos rfl]
  have h2 := cnt_mono (l := have_) (i := i + 1) (j := have_.length) (by omega)
  rw [List.take_length] at h2
  omega
/-- A shard that there is stands behind as many as there are ahead of it. -/
theorem nums_at {have_ : List Bool} {i : Nat} (h : have_[i]? = some true) : (nums have_)[cnt (have_.take i)]? = some (i : Int) := by
  have hlt := cnt_take_lt h
  obtain ⟨q, h1, h2, h3, h4, h5⟩ := left_get (l := have_.map fun _ => []) (have_ := have_) (i := 0) (j := cnt (have_.take i)) (by simp) (by
    rw [List.getElem?_eq_getElem (by rw [cnt_nums]; exact hlt)]; simp)
  have hq : q = i := by
    rcases Nat.lt_trichotomy q i with hlt' | rfl | hlt'
    · exfalso
      have a1 := cnt_mono (l := have_) (i := q + 1) (j := i) (by omega)
      obtain ⟨hq', hb⟩ := List.getElem?_eq_some_iff.1 h3
      rw [List.take_succ_eq_append_getElem hq', cnt_snoc, hb, if_pos rfl] at a1
      omega
    · rfl
    · exfalso
      have a1 := cnt_mono (l := have_) (i := i + 1) (j := q) (by omega)
      obtain ⟨hq', hb⟩ := List.getElem?_eq_some_iff.1 h
      rw [List.take_succ_eq_append_getElem hq', cnt_snoc, hb, if_pos rfl] at a1
      omega
  subst hq
  rw [nums, h1]
  simp
/-- What Decode tells, where it tells data. -/
structure Dec (k : Int) (l : Tab) (have_ : List Bool) (d : Tab) : Prop where
  ok : decD k l have_ = (d, 0)
  may : GMay k (l.length - k)
  len : d.length = k.toNat
  few : k ≤ ((left l have_).length : Int)
  row : ∀ x ∈ d, x.length = (row0 ((left l have_).take k.toNat)).length
  /-- A row that was picked, times data, is the shard that there is. -/
  back : ∀ j, j < k.toNat → ∃ q : Nat, (nums have_)[j]? = some (q : Int) ∧ q < l.length ∧ have_[q]? = some true ∧ cnt (have_.take q) = j ∧ (left l have_)[j]? = l[q]? ∧ some (rowMul (rowN (genL k.toNat (l.length - k).toNat) q) d) = l[q]?
  turn : ∃ R : Tab, d = R.map (fun r => rowMul r ((left l have_).take k.toNat)) ∧ Sq k.toNat R ∧ ∀ i, i < k.toNat → rowMul (rowN R i) (picked k.toNat (l.length - k).toNat (nums have_)) = unitRow k.toNat i
theorem mul_unit {n : Nat} {a b : Tab} (ha : Sq n a) (hb : Sq n b) (h1 : 1 ≤ n) (hm : ∀ i j, i < n → j < n → mm n (ent a) (ent b) i j = i1 i j) {i : Nat} (hi : i < n) : rowMul (rowN a i) b = unitRow n i := by
  have hb0 : (row0 b).length = n := hb.row 0 h1
  apply List.ext_getElem?
  intro j
  by_cases hj : j < n
  · have e1 : (rowMul (rowN a i) b)[j]? = some ((rowMul (rowN a i) b)[j]?.getD 0) := by
      rw [List.getElem?_eq_getElem (by rw [row_len, hb0]; exact hj)]; rfl
    have e2 : (unitRow n i)[j]? = some (i1 i j) := by
      have := ent_identL (n := n) hi hj
      rw [ent, rowN, identL, List.getElem?_map, List.getElem?_range hi] at this
      simp only [Option.map_some, Option.getD_some] at this
      rw [← this, List.getElem?_eq_getElem (by simp [unitRow]; exact hj)]
      rfl
    rw [e1, e2, rowMul_get (by rw [hb0]; exact hj), hb.len]
    congr 1
    exact hm i j hi hj
  · rw [List.getElem?_eq_none (by rw [row_len, hb0]; omega), List.getElem?_eq_none (by simp [unitRow]; omega)]
theorem decD_ok {k : Int} {l : Tab} {have_ : List Bool} (hz : decE k l have_ = 0) : ∃ d, Dec k l have_ d := by
  have hD : DkP k l have_ := by
    by_cases hD : DkP k l have_
    · exact hD
    · rw [decE, if_pos hD] at hz; cases hz
  have hE : EvenP (left l have_) := by
    by_cases hE : EvenP (left l have_)
    · exact hE
    · rw [decE, if_neg (fun h => h hD), if_pos hE] at hz; cases hz
  have hf : ¬ ((left l have_).length : Int) < k := by
    intro hf
    rw [decE, if_neg (fun h => h hD), if_neg (fun h => h hE), if_pos hf] at hz; cases hz
  have hM := hD.2.2
  have hnl := nums_len hD.1
  have hc : checkR k (l.length - k) (nums have_) = 0 := by
    rw [checkR, if_neg (fun h => h hM), if_neg (by rw [nums_ok (by rw [hD.1]; omega)]; simp), if_neg (by rw [← hnl]; exact hf)]
  obtain ⟨s, _, ho, hkl, hs, hsq, hsr, hdec⟩ := decR_ok hc
  have n1 : 1 ≤ k.toNat := by have := hM.1; omega
  have hLl : ((left l have_).take k.toNat).length = k.toNat := by simp; omega
  have hLe : EvenP ((left l have_).take k.toNat) := even_of (w := (row0 (left l have_)).length) fun x hx => hE x (List.mem_of_mem_take hx)
  have hLn : (left l have_).take k.toNat ≠ [] := by intro e; rw [e] at hLl; simp at hLl; omega
  have hRr : ∀ x ∈ s.2, x.length = ((left l have_).take k.toNat).length := fun x hx => by
    obtain ⟨j, hj, rfl⟩ := List.getElem_of_mem hx
    have := hsr.row j (by rw [← hsr.len]; exact hj)
    rw [rowN, List.getElem?_eq_getElem hj] at this
    rw [hLl]; exact this
  have hsp := spread_rows hRr hLn hLe
  refine ⟨s.2.map (fun r => rowMul r ((left l have_).take k.toNat)), ?_, hM, by simp [hsr.len], by omega, ?_, ?_, s.2, rfl, hsr, fun i hi => mul_unit hsr hsq n1 (gj_left hsq hs) hi⟩
  · rw [decD, if_pos hz, hdec]
    simp [hsp]
  · intro x hx
    obtain ⟨r, _, rfl⟩ := List.mem_map.1 hx
    exact row_len
  · intro j hj
    have hjn : (nums have_)[j]? ≠ none := by
      have : j < (nums have_).length := by rw [← hnl]; omega
      rw [List.getElem?_eq_getElem this]; simp
    obtain ⟨q, q1, q2, q3, q4, q5⟩ := left_get (i := 0) hD.1 hjn
    rw [Nat.zero_add] at q1
    refine ⟨q, q1, q2, q3, q5, q4, ?_⟩
    rw [← rowMul_assoc (by rw [hsr.len]; exact n1) (by rw [show (row0 s.2).length = k.toNat from hsr.row 0 n1, hLl])]
    have hp : rowN (genL k.toNat (l.length - k).toNat) q = rowN (picked k.toNat (l.length - k).toNat (nums have_)) j := by
      have hjt : ((nums have_).take k.toNat)[j]? = some (q : Int) := by rw [List.getElem?_take, if_pos hj]; exact q1
      rw [picked, rowN, rowN, List.getElem?_map, hjt]
      rfl
    rw [hp, mul_unit hsq hsr n1 (gj_right hsq hs) hj]
    have hjl : j < ((left l have_).take k.toNat).length := by omega
    have hu := rowMul_unit' hLe hjl
    rw [hLl] at hu
    rw [hu, ← q4]
    have : ((left l have_).take k.toNat)[j]? = (left l have_)[j]? := by rw [List.getElem?_take, if_pos hj]
    rw [← this, List.getElem?_eq_getElem hjl]
theorem decD_err {k : Int} {l : Tab} {have_ : List Bool} : (decD k l have_).2 = decE k l have_ ∧ (decE k l have_ ≠ 0 → (decD k l have_).1 = []) := by
  by_cases hz : decE k l have_ = 0
  · obtain ⟨d, hd⟩ := decD_ok hz
    exact ⟨by rw [hd.ok, hz], fun h => (h hz).elim⟩
  · rw [decD, if_neg hz]
    exact ⟨rfl, fun _ => rfl⟩
theorem Dec.agrees {k : Int} {l : Tab} {have_ : List Bool} {d : Tab} (h : Dec k l have_ d) (hh : have_.length = l.length) : AgrP d l have_ := by
  have hM := h.may
  have hk : (d.length : Int) = k := by rw [h.len]; have := hM.1; omega
  have he : EvenP d := even_of h.row
  have hdn : d ≠ [] := by intro e; rw [e] at hk; simp at hk; have := hM.1; omega
  refine ⟨⟨by rw [hk]; exact hM, he⟩, fun i hi hc hb => ?_⟩
  obtain ⟨q, q1, q2, q3, q4, q5, q6⟩ := h.back (cnt (have_.take i)) (by rw [← h.len]; exact hc)
  rw [nums_at hb] at q1
  have : i = q := by have := Option.some.inj q1; omega
  subst this
  have hm := hM.2.2.2
  rw [encL_get hdn he (by omega), ← q6, h.len, show (l.length - k).toNat = l.length - k.toNat by omega]
/-- Of a codeword, data come back. -/
theorem Dec.codeword {data : Tab} {m : Nat} {l : Tab} {have_ : List Bool} {d : Tab} (h : Dec data.length l have_ d) (hP : EncP data m) (hl : l.length = data.length + m) (hh : have_.length = l.length) (he : ∀ i : Nat, have_[i]? = some true → l[i]? = (encL data m)[i]?) : d = data := by
  obtain ⟨R, hd, hR, hu⟩ := h.turn
  have hE := hP.2
  have hdn := hP.1.ne
  have hk : ((data.length : Int)).toNat = data.length := by simp
  have hm : ((l.length : Int) - data.length).toNat = m := by omega
  rw [hk, hm] at hu
  rw [hk] at hd hR
  have n1 : 1 ≤ data.length := List.length_pos_iff.2 hdn
  have hfew := h.few
  -- what there is, is the picked rows times the data
  have hL : (left l have_).take data.length = (picked data.length m (nums have_)).map fun r => rowMul r data := by
    apply List.ext_getElem?
    intro j
    by_cases hj : j < data.length
    · obtain ⟨q, q1, q2, q3, q4, q5, q6⟩ := h.back j (by rw [hk]; exact hj)
      rw [List.getElem?_take, if_pos hj, q5, he q q3, encL_get hdn hE (by omega), List.getElem?_map, picked, List.getElem?_map]
      have hjt : ((nums have_).take data.length)[j]? = some (q : Int) := by rw [List.getElem?_take, if_pos hj]; exact q1
      rw [hjt]
      rfl
    · rw [List.getElem?_eq_none (by simp; omega), List.getElem?_eq_none (by simp [picked]; omega)]
  have hnl := nums_len hh
  have hpl : (picked data.length m (nums have_)).length = data.length := by simp [picked]; omega
  rw [hd]
  apply List.ext_getElem?
  intro i
  rw [List.getElem?_map]
  by_cases hi : i < data.length
  · have hiR : i < R.length := by rw [hR.len]; exact hi
    rw [List.getElem?_eq_getElem hiR, Option.map_some, hL]
    have hRi : R[i] = rowN R i := by rw [rowN, List.getElem?_eq_getElem hiR]; rfl
    have hp0 : (row0 (picked data.length m (nums have_))).length = data.length := by
      obtain ⟨q, q1, q2, q3, q4, q5, q6⟩ := h.back 0 (by rw [hk]; exact n1)
      have hjt : ((nums have_).take data.length)[0]? = some (q : Int) := by rw [List.getElem?_take, if_pos (show 0 < data.length from n1)]; exact q1
      rw [row0, picked, List.getElem?_map, hjt]
      exact genL_row (by omega)
    rw [← rowMul_assoc (by rw [hpl]; exact n1) hp0, hRi, hu i hi, rowMul_unit' hE hi, List.getElem?_eq_getElem hi]
  · rw [List.getElem?_eq_none (by rw [hR.len]; omega), List.getElem?_eq_none (by omega)]
    rfl
/-! Sums. -/
theorem ent_add {a b : Tab} {k j : Nat} (hl : a.length = b.length) (hk : k < a.length) (hr : (rowN a k).length = (rowN b k).length) : ent (List.zipWith xorL a b) k j = ent a k j ^^^ ent b k j := by
  have h1 : rowN (List.zipWith xorL a b) k = xorL (rowN a k) (rowN b k) := by
    simp [rowN, List.getElem?_zipWith, List.getElem?_eq_getElem hk, List.getElem?_eq_getElem (show k < b.length by omega)]
  unfold ent
  rw [h1]
  by_cases hj : j < (rowN a k).length
  · simp [xorL, List.getElem?_zipWith, List.getElem?_eq_getElem hj, List.getElem?_eq_getElem (show j < (rowN b k).length by omega)]
  · rw [List.getElem?_eq_none (by simp [xorL]; omega), List.getElem?_eq_none (by omega), List.getElem?_eq_none (by omega)]
    rfl
theorem rowMul_add {r : List UInt8} {a b : Tab} (hl : a.length = b.length) (hp : a ≠ []) (ha : EvenP a) (hb : EvenP b) (hw : (row0 a).length = (row0 b).length) : rowMul r (List.zipWith xorL a b) = xorL (rowMul r a) (rowMul r b) := by
  have h0 : 0 < a.length := List.length_pos_iff.2 hp
  have hr0 : (row0 (List.zipWith xorL a b)).length = (row0 a).length := by
    have e : row0 (List.zipWith xorL a b) = xorL (row0 a) (row0 b) := by simp [row0, List.getElem?_zipWith, List.getElem?_eq_getElem h0, List.getElem?_eq_getElem (show 0 < b.length by omega)]
    rw [e]; simp [xorL, hw]
  have rows : ∀ k, k < a.length → (rowN a k).length = (rowN b k).length := by
    intro k hk
    have h1 : rowN a k ∈ a := by rw [rowN, List.getElem?_eq_getElem hk]; exact List.getElem_mem hk
    have h2 : rowN b k ∈ b := by rw [rowN, List.getElem?_eq_getElem (show k < b.length by omega)]; exact List.getElem_mem _
    rw [ha _ h1, hb _ h2]; exact hw
  apply List.ext_getElem?
  intro j
  by_cases hj : j < (row0 a).length
  · have e1 : (rowMul r (List.zipWith xorL a b))[j]? = some ((rowMul r (List.zipWith xorL a b))[j]?.getD 0) := by
      rw [List.getElem?_eq_getElem (by rw [row_len, hr0]; exact hj)]; rfl
    have e2 : (xorL (rowMul r a) (rowMul r b))[j]? = some ((rowMul r a)[j]?.getD 0 ^^^ (rowMul r b)[j]?.getD 0) := by
      simp [xorL, List.getElem?_zipWith, List.getElem?_eq_getElem (show j < (rowMul r a).length by rw [row_len]; exact hj), List.getElem?_eq_getElem (show j < (rowMul r b).length by rw [row_len]; omega)]
    rw [e1, e2, rowMul_get (by rw [hr0]; exact hj), rowMul_get hj, rowMul_get (by omega)]
    congr 1
    rw [show (List.zipWith xorL a b).length = a.length by simp [hl], ← hl, ← sm_xor]
    exact sm_congr fun k hk => by rw [ent_add hl hk (rows k hk), gm_add]
  · rw [List.getElem?_eq_none (by rw [row_len, hr0]; omega), List.getElem?_eq_none (by simp [xorL, row_len]; omega)]
/-- One shard of data is another one. -/
theorem rowMul_set {r : List UInt8} {a : Tab} (ha : EvenP a) {n : Nat} (hn : n < a.length) {x : List UInt8} (hx : x.length = (row0 a).length) :
    rowMul r (a.set n x) = xorL (rowMul r a) (scaleL (xorL a[n] x) (r[n]?.getD 0)) := by
  have hlen : ∀ y ∈ a.set n x, y.length = (row0 a).length := fun y hy => by
    rcases List.mem_or_eq_of_mem_set hy with h | rfl
    · exact ha y h
    · exact hx
  have hr0 : (row0 (a.set n x)).length = (row0 a).length := by
    have h0 : 0 < (a.set n x).length := by simp; omega
    have : row0 (a.set n x) ∈ a.set n x := by rw [row0, List.getElem?_eq_getElem h0]; exact List.getElem_mem h0
    exact hlen _ this
  have han : a[n].length = (row0 a).length := ha _ (List.getElem_mem hn)
  apply List.ext_getElem?
  intro j
  by_cases hj : j < (row0 a).length
  · have e1 : (rowMul r (a.set n x))[j]? = some ((rowMul r (a.set n x))[j]?.getD 0) := by
      rw [List.getElem?_eq_getElem (by rw [row_len, hr0]; exact hj)]; rfl
    have e2 : (xorL (rowMul r a) (scaleL (xorL a[n] x) (r[n]?.getD 0)))[j]? = some ((rowMul r a)[j]?.getD 0 ^^^ gm (a[n][j]?.getD 0 ^^^ x[j]?.getD 0) (r[n]?.getD 0)) := by
      simp [xorL, scaleL, List.getElem?_zipWith, List.getElem?_eq_getElem (show j < (rowMul r a).length by rw [row_len]; exact hj), List.getElem?_eq_getElem (show j < a[n].length by omega), List.getElem?_eq_getElem (show j < x.length by omega)]
    rw [e1, e2, rowMul_get (by rw [hr0]; exact hj), rowMul_get hj, List.length_set]
    congr 1
    have e3 : ∀ k, k < a.length → gm (r[k]?.getD 0) (ent (a.set n x) k j) = gm (r[k]?.getD 0) (ent a k j) ^^^ (if k = n then gm (a[n][j]?.getD 0 ^^^ x[j]?.getD 0) (r[n]?.getD 0) else 0) := by
      intro k hk
      by_cases h : k = n
      · subst h
        have h1 : ent (a.set k x) k j = x[j]?.getD 0 := by simp [ent, rowN, hk]
        have h2 : ent a k j = a[k][j]?.getD 0 := by simp [ent, rowN, List.getElem?_eq_getElem hk]
        rw [if_pos rfl, h1, h2, gm_comm (a[k][j]?.getD 0 ^^^ x[j]?.getD 0), gm_add, ← UInt8.xor_assoc, UInt8.xor_self, UInt8.zero_xor]
      · have h1 : ent (a.set n x) k j = ent a k j := by simp [ent, rowN, List.getElem?_set, Ne.symm h]
        rw [if_neg h, h1, UInt8.xor_zero]
    have e4 : sm a.length (fun k => if k = n then gm (a[n][j]?.getD 0 ^^^ x[j]?.getD 0) (r[n]?.getD 0) else 0) = gm (a[n][j]?.getD 0 ^^^ x[j]?.getD 0) (r[n]?.getD 0) := by
      rw [sm_one (f := fun k => if k = n then gm (a[n][j]?.getD 0 ^^^ x[j]?.getD 0) (r[n]?.getD 0) else 0) (i := n) hn (fun k _ hk => if_neg hk)]
      exact if_pos rfl
    rw [sm_congr e3, sm_xor, e4]
  · rw [List.getElem?_eq_none (by rw [row_len, hr0]; omega), List.getElem?_eq_none (by simp [xorL, scaleL, row_len]; omega)]
theorem xorL_comm' (a b : List UInt8) : xorL a b = xorL b a := by
  apply List.ext_getElem?
  intro j
  simp only [xorL, List.getElem?_zipWith]
  cases a[j]? <;> cases b[j]? <;> simp [UInt8.xor_comm]
theorem scaleL_eq_zero {x : List UInt8} {c : UInt8} (hc : c ≠ 0) (h : ∀ y ∈ scaleL x c, y = 0) : ∀ y ∈ x, y = 0 := fun y hy => (gm_eq_zero (h _ (List.mem_map_of_mem hy))).resolve_right hc
end Go.Proofs.YtgcfmodgabeocaaDoor.X
