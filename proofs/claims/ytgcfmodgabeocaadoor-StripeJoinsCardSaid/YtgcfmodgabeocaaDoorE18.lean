/-
  Mathematics of what a stripe tells: shards that are left away; the text of what was decoded.
-/
import Derived.Test.YtgcfmodgabeocaaDoorE17
namespace Go.Proofs.YtgcfmodgabeocaaDoor.X
open Go.RowKit F
set_option linter.unusedSimpArgs false
set_option linter.unusedVariables false

theorem mem_leftX {l : Tab} {have_ : List Bool} {x : List UInt8} (hx : x ∈ left l have_) : ∃ i : Nat, have_[i]? = some true ∧ l[i]? = some x := by
  obtain ⟨p, hp, rfl⟩ := List.mem_map.1 hx
  obtain ⟨h1, h2⟩ := List.mem_filter.1 hp
  obtain ⟨i, hi⟩ := List.getElem?_of_mem h1
  rw [List.getElem?_zip_eq_some] at hi
  exact ⟨i, by rw [hi.2]; simpa using h2, hi.1⟩
/-- Any shards of a codeword tell its data, if there are enough. -/
theorem dec_of {data l : Tab} {m : Nat} {have_ : List Bool} (hP : EncP data m) (hl : l.length = data.length + m) (hh : have_.length = l.length) (he : ∀ i : Nat, have_[i]? = some true → l[i]? = (encL data m)[i]?) :
    (decE data.length l have_ = if cnt have_ < data.length then 3 else 0) ∧ decD data.length l have_ = if cnt have_ < data.length then ([], 3) else (data, 0) := by
  have hdn := hP.1.ne
  have hD : DkP data.length l have_ := ⟨hh, hP.1.1, by rw [hl, show ((data.length + m : Nat) : Int) - (data.length : Int) = m by omega]; exact hP.1⟩
  have hE : EvenP (left l have_) := even_of (w := (row0 data).length) fun x hx => by
    obtain ⟨i, h1, h2⟩ := mem_leftX hx
    rw [he i h1] at h2
    exact encL_row hdn hP.2 x (List.mem_of_getElem? h2)
  have hc : (left l have_).length = cnt have_ := by rw [nums_len hh, nums, cnt_nums]
  by_cases hn : cnt have_ < data.length
  · have hz : decE data.length l have_ = 3 := by rw [decE, if_neg (fun h => h hD), if_neg (fun h => h hE), if_pos (by omega)]
    rw [if_pos hn, if_pos hn]
    refine ⟨hz, ?_⟩
    rw [decD, hz]; rfl
  · have hz : decE data.length l have_ = 0 := by rw [decE, if_neg (fun h => h hD), if_neg (fun h => h hE), if_neg (by omega)]
    obtain ⟨d, hd⟩ := decD_ok hz
    rw [if_neg hn, if_neg hn]
    exact ⟨hz, by rw [hd.ok, hd.codeword hP hl hh he]⟩
/-- What Join tells of a stripe's shards, if there are enough of them. -/
theorem join_of {c : Cfg} {data : List UInt8} (hC : ConfP c) (hcap : ¬ confCap c < data.length) {l : Tab} {have_ : List Bool} (hl : l.length = c.k.toNat + c.m.toNat) (hh : have_.length = l.length)
    (he : ∀ i : Nat, have_[i]? = some true → l[i]? = (encL (splL c data) c.m.toNat)[i]?) : joinR c l have_ = if cnt have_ < c.k.toNat then ([], 3) else (data, 0) := by
  have hn := conf_nat hC
  have hsl := splL_len (c := c) (data := data)
  have hP : EncP (splL c data) c.m.toNat := by rw [hn.2.1]; exact (spl_ok hC hcap).1
  obtain ⟨h1, h2⟩ := dec_of hP (by rw [hl, hsl]) hh he
  rw [hsl, hn.1] at h1 h2
  have hz : SzP c.sh l have_ := (szP_iff hh).2 fun i hi hb => by
    have h3 := he i hb
    rw [List.getElem?_eq_getElem hi] at h3
    have := enc_rows hC hcap l[i] (List.mem_of_getElem? h3.symm)
    rw [this]; exact hn.2.2.1
  have hlk : (l.length : Int) = c.k + c.m := by rw [hl]; push_cast; omega
  by_cases hc : cnt have_ < c.k.toNat
  · rw [if_pos hc] at h1 h2 ⊢
    simp [joinR, hC, hlk, h1, hz]
  · rw [if_neg hc] at h1 h2 ⊢
    simp [joinR, hC, hlk, h1, hz, h2, txt_spl hC hcap]
/-- Where all data are there, they are what is told. -/
theorem dec_first {k : Int} {l : Tab} {have_ : List Bool} {d : Tab} (h : Dec k l have_ d) (hh : have_.length = l.length) (hb : ∀ i : Nat, i < k.toNat → have_[i]? = some true) : d = l.take k.toNat := by
  obtain ⟨⟨hM, hE⟩, ha⟩ := h.agrees hh
  have hk1 := h.may.1
  have hk2 := h.may.2.1
  have hdn : d ≠ [] := by intro e; have := h.len; rw [e] at this; simp at this; omega
  have hkl : k.toNat ≤ l.length := by omega
  have hd := encL_data (m := l.length - d.length) hdn hE
  rw [← hd, h.len]
  apply List.ext_getElem?
  intro i
  rw [List.getElem?_take, List.getElem?_take]
  by_cases hi : i < k.toNat
  · rw [if_pos hi, if_pos hi]
    have hci : cnt (have_.take i) ≤ i := by
      unfold cnt
      exact Nat.le_trans (List.length_filter_le _ _) (by simp; omega)
    have := ha i (by omega) (by rw [h.len]; omega) (hb i hi)
    rw [h.len] at this
    exact this
  · rw [if_neg hi, if_neg hi]
/-- A text that is told goes into just these data. -/
theorem spl_txt {c : Cfg} (hC : ConfP c) {d : Tab} (hl : d.length = c.k.toNat) (hr : ∀ x ∈ d, x.length = c.sh.toNat) (ht : (txtD d).2 = 0) : ¬ confCap c < ((txtD d).1.length : Nat) ∧ splL c (txtD d).1 = d := by
  have hn := conf_nat hC
  have hfl : d.flatten.length = c.k.toNat * c.sh.toNat := by
    rw [List.length_flatten, ← hl]
    have : d.map List.length = List.replicate d.length c.sh.toNat := by
      apply List.eq_replicate_iff.2
      exact ⟨by simp, fun x hx => by obtain ⟨y, hy, rfl⟩ := List.mem_map.1 hx; exact hr y hy⟩
    rw [this, List.sum_replicate_nat]
  have h8 : 8 ≤ c.k.toNat * c.sh.toNat := Nat.le_trans (by omega : 8 ≤ 1 * 8) (Nat.mul_le_mul hn.2.2.2.1 hn.2.2.2.2.2.1)
  generalize hf : d.flatten = f at hfl
  have hcut : cutR f 4 = (((unle (f.take 4) : Nat) : Int), f.drop 4, 0) := by
    have hP : CutP f 4 := ⟨by omega, by omega⟩
    have hl4 : ¬ f.length < (4 : Int).toNat := by rw [hfl]; show ¬ _ < 4; omega
    unfold cutR
    rw [if_pos hP, if_neg hl4]
    rfl
  simp only [txtD, hf, hcut] at ht ⊢
  by_cases h1 : ((f.drop 4).length : Int) < (unle (f.take 4) : Nat)
  · rw [if_pos h1] at ht; cases ht
  rw [if_neg h1] at ht ⊢
  simp only [Int.toNat_natCast] at ht ⊢
  by_cases h2 : ∀ b ∈ (f.drop 4).drop (unle (f.take 4)), b = 0
  rotate_left
  · rw [if_neg h2] at ht; cases ht
  rw [if_pos h2]
  simp only
  have hlen : ((f.drop 4).take (unle (f.take 4))).length = unle (f.take 4) := by simp at h1 ⊢; omega
  have hdl : (f.drop 4).length = c.k.toNat * c.sh.toNat - 4 := by simp [hfl]
  refine ⟨by rw [cap_nat hC, hlen]; omega, ?_⟩
  have hst : stext (c.k.toNat * c.sh.toNat) ((f.drop 4).take (unle (f.take 4))) = f := by
    rw [stext, hlen]
    have e1 : le (unle (f.take 4)) 4 = f.take 4 := by
      have := le_unle (f.take 4)
      rw [List.length_take, Nat.min_eq_left (by omega)] at this
      exact this
    have e2 : List.replicate (c.k.toNat * c.sh.toNat - 4 - unle (f.take 4)) (0 : UInt8) = (f.drop 4).drop (unle (f.take 4)) := by
      symm
      rw [List.eq_replicate_iff]
      refine ⟨by rw [List.length_drop, hdl], h2⟩
    rw [e1, e2, List.append_assoc, List.take_append_drop, List.take_append_drop]
  rw [splL, hst, ← hf, chunks]
  apply List.ext_getElem?
  intro i
  rw [List.getElem?_map]
  by_cases hi : i < c.k.toNat
  · rw [List.getElem?_range hi, Option.map_some, List.getElem?_eq_getElem (by omega)]
    congr 1
    have key : ∀ (d : Tab) (i : Nat) (hi : i < d.length), (∀ x ∈ d, x.length = c.sh.toNat) → (d.flatten.drop (i * c.sh.toNat)).take c.sh.toNat = d[i] := by
      intro d
      induction d with
      | nil => intro i hi; simp at hi
      | cons a t ih =>
        intro i hi hr
        have ha := hr a (by simp)
        cases i with
        | zero => rw [Nat.zero_mul, List.drop_zero, List.flatten_cons, ← ha, List.take_left]; rfl
        | succ i =>
          rw [Nat.add_mul, Nat.one_mul, Nat.add_comm, ← List.drop_drop, List.flatten_cons, ← ha, List.drop_left, ha]
          have := ih i (by simpa using hi) (fun x hx => hr x (by simp [hx]))
          simpa using this
    exact key d i (by omega) hr
  · rw [List.getElem?_eq_none (by simp; omega), List.getElem?_eq_none (by omega)]
    rfl
theorem text_none {d : Tab} (h : (txtD d).2 ≠ 0) : (textR d).2 = false := by
  unfold txtD at h
  unfold textR
  split
  · rfl
  · split
    · rfl
    · rename_i h1 h2
      rw [if_neg h2] at h
      split at h
      · exact absurd rfl h
      · rename_i h3; rw [if_neg h3]
end Go.Proofs.YtgcfmodgabeocaaDoor.X
