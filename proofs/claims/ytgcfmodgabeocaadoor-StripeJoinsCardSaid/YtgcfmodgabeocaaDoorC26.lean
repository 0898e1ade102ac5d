/-
  Contracts: rs.Decode, Repair, Delta; slices.Clone; sheetpileref05.Check, Agrees.
-/
import Derived.Test.YtgcfmodgabeocaaDoorC25
import Derived.Test.YtgcfmodgabeocaaDoorXRow
import Derived.Test.YtgcfmodgabeocaaDoorC20
namespace Go.Proofs.YtgcfmodgabeocaaDoor.X
open Go.RowKit F
set_option maxRecDepth 100000
set_option linter.unusedSimpArgs false
set_option linter.unusedVariables false

theorem sliceX_sl {P : Program} {t : TypeId} {b off n c z : Nat} {lo hi : Option AV} (hz : (elT P t).bind (szT P) = some z) :
    sliceX P t (.sl b off n c z) lo hi none = (boundX c hi n).bind fun h => (boundX h lo 0).map fun l => .sl b (off + l * z) (h - l) (c - l) z := by
  obtain ⟨e, he, hz⟩ := Option.bind_eq_some_iff.1 hz
  simp only [sliceX, elT_und he, hz]
  simp
  cases boundX c hi n with
  | none => rfl
  | some h =>
    simp only [Option.bind_some]
    cases boundX h lo 0 <;> rfl
/-- The numbers of those that there are. -/
def numsF : Nat → List Bool → List Int
  | _, [] => []
  | i, b :: l => if b = true then (i : Int) :: numsF (i + 1) l else numsF (i + 1) l
def nums (have_ : List Bool) : List Int := numsF 0 have_
/-- Those that there are. -/
def left (l : Tab) (have_ : List Bool) : Tab := ((l.zip have_).filter fun p => p.2).map (·.1)
theorem numsF_snoc : ∀ (l : List Bool) (i : Nat) (b : Bool), numsF i (l ++ [b]) = numsF i l ++ (if b = true then [((i + l.length : Nat) : Int)] else [])
  | [], i, b => by cases b <;> simp [numsF]
  | c :: l, i, b => by
    have := numsF_snoc l (i + 1) b
    cases c <;> simp only [List.cons_append, numsF, this, List.length_cons] <;> cases b <;> simp <;> omega
theorem left_snoc {l : Tab} {have_ : List Bool} (he : l.length = have_.length) (x : List UInt8) (b : Bool) : left (l ++ [x]) (have_ ++ [b]) = left l have_ ++ (if b = true then [x] else []) := by
  unfold left
  rw [List.zip_append he, List.filter_append, List.map_append]
  cases b <;> simp
theorem left_sm {l : Tab} {have_ : List Bool} (h : Sm l) : Sm (left l have_) := by
  have hm : ∀ x ∈ left l have_, x ∈ l := by
    intro x hx
    obtain ⟨p, hp, rfl⟩ := List.mem_map.1 hx
    exact (List.of_mem_zip (List.mem_filter.1 hp).1).1
  refine ⟨?_, fun x hx => h.2 x (hm x hx)⟩
  have h1 := h.1
  have : (left l have_).length ≤ l.length := by
    unfold left
    rw [List.length_map]
    exact Nat.le_trans (List.length_filter_le _ _) (by simp; omega)
  omega
theorem nums_len {l : Tab} {have_ : List Bool} (he : have_.length = l.length) : (left l have_).length = (nums have_).length := by
  unfold nums
  suffices H : ∀ (i : Nat) (l : Tab) (b : List Bool), b.length = l.length → (left l b).length = (numsF i b).length from H 0 l have_ he
  intro i l b
  induction b generalizing i l with
  | nil => intro he; simp [left, numsF]
  | cons c b ih =>
    intro he
    cases l with
    | nil => simp at he
    | cons x l =>
      have := ih (i + 1) l (by simpa using he)
      simp only [left] at this
      cases c <;> simp [left, numsF, this]

def DkP (k : Int) (l : Tab) (have_ : List Bool) : Prop := have_.length = l.length ∧ 1 ≤ k ∧ GMay k (l.length - k)
instance (k : Int) (l : Tab) (have_ : List Bool) : Decidable (DkP k l have_) := by unfold DkP; exact inferInstance
def decE (k : Int) (l : Tab) (have_ : List Bool) : Int := if ¬ DkP k l have_ then 1 else if ¬ EvenP (left l have_) then 1 else if ((left l have_).length : Int) < k then 3 else 0
/-- What Decode tells: the rows that turn back, times the first k. -/
def decD (k : Int) (l : Tab) (have_ : List Bool) : Tab × Int :=
  if decE k l have_ = 0 then if (decR k (l.length - k) (nums have_)).2 = 0 then (spreadL (decR k (l.length - k) (nums have_)).1 ((left l have_).take k.toNat), 0) else ([], (decR k (l.length - k) (nums have_)).2)
  else ([], decE k l have_)
def DdInv (k : Int) (l : Tab) (have_ : List Bool) (i : Nat) (r : Regs) (h : Heap) : Prop :=
  i ≤ l.length ∧ rg r 0 = .int .i64 k ∧ rg r 1 = SL l ∧ rg r 2 = OL have_ ∧ rg r 32 = SL l ∧ rg r 33 = .int .i64 l.length ∧ rg r 34 = .int .i64 i ∧ Own h (rg r 8) ((left (l.take i) (have_.take i)).map S) ∧ Own h (rg r 9) ((nums (have_.take i)).map I64) ∧
  ∀ b1 b2 o1 n1 c1 z1 o2 n2 c2 z2, rg r 8 = .sl b1 o1 n1 c1 z1 → rg r 9 = .sl b2 o2 n2 c2 z2 → b1 ≠ b2
theorem decR_sm {k m : Int} {l : List Int} : Sm (decR k m l).1 := by
  by_cases hc : checkR k m l = 0
  · obtain ⟨s, hM, ho, hkl, hs, hsq, hsr, hdec⟩ := decR_ok hc
    have hk := hM.2.2.1
    rw [hdec]
    refine ⟨by rw [hsr.len]; omega, fun x hx => ?_⟩
    obtain ⟨j, hj, rfl⟩ := List.getElem_of_mem hx
    have := hsr.row j (by rw [← hsr.len]; exact hj)
    rw [rowN, List.getElem?_eq_getElem hj] at this
    rw [show s.2[j].length = k.toNat from this]
    omega
  · rw [(decR_err (k := k) (m := m) (l := l)).2 hc]
    exact ⟨by simp, by simp⟩
theorem decode_fresh (k : Int) (l : Tab) (have_ : List Bool) (h : Sm l) (hk : (Lit.int .i64 k).wf = true) (hh : have_.length < 2 ^ 48) : FreshL Tryd.prog 29 [.int .i64 k, SL l, OL have_] (decD k l have_).1 (decD k l have_).2 := by
  refine CSem.body hm Tryd.func29 rfl (by kernel_rfl) (by kernel_rfl) (by simp [Tryd.ntmps29]) ?_
  have bad : ¬ DkP k l have_ → decD k l have_ = ([], 1) := fun h => by
    have : decE k l have_ = 1 := by rw [decE, if_pos h]
    rw [decD, this]; rfl
  by_cases h1 : have_.length = l.length
  rotate_left
  · simp [Tryd.f29, h1, bad (fun h => h1 h.1), FrQ.nil]
  by_cases h2 : k < 1
  · simp [Tryd.f29, h1, h2, bad (fun h => by have := h.2.1; omega), FrQ.nil]
  have hl1 := h.1
  have hkb := i64_of hk
  have hw : IntKind.i64.wrap ((l.length : Int) - k) = (l.length : Int) - k := wrap64 (by omega) (by omega)
  simp [Tryd.f29, h1, h2, hw]
  refine (gmay_call _ _ _).use ?_
  by_cases hM : GMay k (l.length - k)
  rotate_left
  · simp [hM, bad (fun h => hM h.2.2), FrQ.nil]
  have hD : DkP k l have_ := ⟨h1, by omega, hM⟩
  simp [hM]
  refine wpc_loop (DdInv k l have_) (l.length - ·) ?_ 0 ?_
  · rintro i r hp ⟨hi, g0, g1, g2, g32, g33, g34, ho8, ho9, hne⟩
    rcases Nat.lt_or_eq_of_le hi with hlt | heq
    · have hx : l[i]? = some l[i] := List.getElem?_eq_getElem hlt
      have hlh : i < have_.length := by omega
      have hy : have_[i]? = some have_[i] := List.getElem?_eq_getElem hlh
      have htl : (l.take i).length = (have_.take i).length := by simp [h1]
      have e1 : left (l.take (i + 1)) (have_.take (i + 1)) = left (l.take i) (have_.take i) ++ (if have_[i] = true then [l[i]] else []) := by
        rw [List.take_succ_eq_append_getElem hlt, List.take_succ_eq_append_getElem hlh, left_snoc htl]
      have e2 : nums (have_.take (i + 1)) = nums (have_.take i) ++ (if have_[i] = true then [(i : Int)] else []) := by
        rw [List.take_succ_eq_append_getElem hlh, nums, numsF_snoc]
        have : 0 + (have_.take i).length = i := by simp; omega
        rw [this]
        rfl
      cases hb : have_[i] with
      | false =>
        simp [g0, g1, g2, g32, g33, g34, hlt, hx, hlh, hy, hb]
        refine ⟨i + 1, by omega, by omega, by simp [g0], by simp [g1], by simp [g2], by simp [g32], by simp [g33], by simp [wrap64 (n := (i : Int) + 1) (by omega) (by omega)], ?_, ?_, ?_⟩
        · rw [e1, hb]; simpa using ho8
        · rw [e2, hb]; simpa using ho9
        · simpa using hne
      | true =>
        have hlen8 : ((left (l.take i) (have_.take i)).map S).length < 2 ^ 40 := by
          rw [List.length_map]; exact (left_sm (h.take i)).1
        have hlen9 : ((nums (have_.take i)).map I64).length < 2 ^ 40 := by
          rw [List.length_map, ← nums_len (l := l.take i) (by simp [h1])]; exact (left_sm (h.take i)).1
        obtain ⟨x', h', e, ho', hnx, hat, hk2⟩ := append_own (P := Tryd.prog) (t := 26) (xt := 26) (by kernel_rfl) ho8 hlen8 (S_atom l[i])
        have ho9' : Own h' (rg r 9) ((nums (have_.take i)).map I64) := by
          rcases ho9 with h | ⟨b, hb2, hg⟩
          · exact .inl h
          · exact .inr ⟨b, hb2, hk2 _ _ hg fun off n c z e8 => hne _ _ _ _ _ _ _ _ _ _ e8 hb2 rfl⟩
        obtain ⟨y', h'', e', ho'', hnx', hat', hk2'⟩ := append_own (P := Tryd.prog) (t := 67) (xt := 67) (by kernel_rfl) ho9' hlen9 (I64_atom (i : Int))
        simp only [I64] at e'
        simp [g0, g1, g2, g32, g33, g34, hlt, hx, hlh, hy, hb, buildSlice_one (P := Tryd.prog) (t := 26) (xt := 26) (by kernel_rfl), buildSlice_one (P := Tryd.prog) (t := 67) (xt := 67) (by kernel_rfl), e, e']
        refine ⟨i + 1, by omega, by omega, by simp [g0], by simp [g1], by simp [g2], by simp [g32], by simp [g33], by simp [wrap64 (n := (i : Int) + 1) (by omega) (by omega)], ?_, ?_, ?_⟩
        · rw [e1, hb]
          simp
          have ho3 : Own h' x' (left (l.take i) (have_.take i) |>.map S |>.append [S l[i]]) := ho'
          rcases ho' with ⟨q1, q2⟩ | ⟨b, q1, q2⟩
          · simp at q2
          · refine .inr ⟨b, by simpa using q1, ?_⟩
            have := hk2' b _ q2 fun off n c z e9 => ?_
            · simpa using this
            · have a1 := hat.2 _ _ _ _ _ q1
              rcases ho9 with ⟨p1, _⟩ | ⟨b9, p1, p2⟩
              · rw [p1] at e9; cases e9
              · rw [p1] at e9
                cases e9
                have := Heap.get_lt p2
                omega
        · rw [e2, hb]
          simpa using ho''
        · intro b1 b2 o1 n1 c1 z1 o2 n2 c2 z2 q1 q2
          simp at q1 q2
          have a2 := hat'.2 _ _ _ _ _ q2
          rcases ho' with ⟨p1, _⟩ | ⟨b8, p1, p2⟩
          · rw [p1] at q1; cases q1
          · rw [p1] at q1
            cases q1
            have := Heap.get_lt p2
            omega
    · have hth : have_.take l.length = have_ := by rw [← h1, List.take_length]
      rw [heq, List.take_length, hth] at ho8
      rw [heq, hth] at ho9
      have hsn8 : ∀ k, snap hp true (k + 2) (rg r 8) = some (SL (left l have_)) := fun k => ho8.snap (fun _ => rfl)
      have hsn9 : snap hp true 2 (rg r 9) = some (IL (nums have_)) := ho9.snap (fun _ => rfl)
      have hlsm := left_sm (have_ := have_) h
      have hnl := nums_len h1
      simp [g0, g1, g2, g32, g33, g34, heq]
      refine (even_callS (left l have_) (by have := hlsm.1; omega) (hsn8 0)).use ?_
      by_cases hE : EvenP (left l have_)
      rotate_left
      · have : decE k l have_ = 1 := by rw [decE, if_neg (fun h => h hD), if_pos hE]
        simp [hE, decD, this, FrQ.nil]
      have hlen : lenX Tryd.prog 26 (rg r 8) = some (.int .i64 ((left l have_).length : Int)) := by
        rcases ho8 with ⟨p1, p2⟩ | ⟨b, p1, p2⟩
        · have : left l have_ = [] := by simpa using p2
          rw [p1, this]; rfl
        · rw [p1]; simp
      simp [hE, hlen, g0]
      by_cases hf : ((left l have_).length : Int) < k
      · have : decE k l have_ = 3 := by rw [decE, if_neg (fun h => h hD), if_neg (fun h => h hE), if_pos hf]
        simp [hf, decD, this, FrQ.nil]
      have hz : decE k l have_ = 0 := by rw [decE, if_neg (fun h => h hD), if_neg (fun h => h hE), if_neg hf]
      simp [hf, g0, g1, hw]
      refine (dec_callS k _ (nums have_) (by have := hlsm.1; omega) hsn9).use ?_
      by_cases hr : (decR k (l.length - k) (nums have_)).2 = 0
      rotate_left
      · simp [rL, hr, decD, hz, FrQ.nil]
      simp [rL, hr, g0]
      rcases ho8 with ⟨p1, p2⟩ | ⟨b, p1, p2⟩
      · exfalso
        have : left l have_ = [] := by simpa using p2
        rw [this] at hf
        simp at hf
        omega
      have hk0 : 0 ≤ k := by omega
      have hkl : k ≤ ((left l have_).length : Int) := by omega
      have hsl : sliceX Tryd.prog 26 (.sl b 0 (left l have_).length (left l have_).length 1) none (some (.int .i64 k)) none = some (.sl b 0 k.toNat (left l have_).length 1) := by
        rw [sliceX_sl (z := 1) (by kernel_rfl)]
        simp [hk0, hkl]
      simp [p1, p2, hsl]
      have hs9 : snap hp true 2 (.sl b 0 k.toNat (left l have_).length 1) = some (SL ((left l have_).take k.toNat)) := by
        refine snap_sl (f := S) p2 ?_ (by simp; omega) (fun _ _ => rfl)
        simp [takeN]
        omega
      refine (spread_new (decR k (l.length - k) (nums have_)).1 ((left l have_).take k.toNat) decR_sm (hlsm.take _) (by simp) hs9).then ?_
      rintro x h' ⟨hq, rfl⟩
      simp [decD, hz, hr]
      exact hq.tup
  · exact ⟨Nat.zero_le _, by simp, by simp, by simp, by simp, by simp, by simp, .inl ⟨by simp, by simp [left]⟩, .inl ⟨by simp, by simp [nums, numsF]⟩, by simp⟩
end Go.Proofs.YtgcfmodgabeocaaDoor.X
