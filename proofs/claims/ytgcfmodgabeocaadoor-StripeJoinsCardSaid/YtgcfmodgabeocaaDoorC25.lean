/-
  Contracts: rs.even, rs.spread, rs.Encode, rs.Is; sheetpileref05.Encode, Is.
-/
import Derived.Test.YtgcfmodgabeocaaDoorC24
namespace Go.Proofs.YtgcfmodgabeocaaDoor.X
open Go.RowKit F
set_option maxRecDepth 100000
set_option linter.unusedSimpArgs false
set_option linter.unusedVariables false

theorem evf_sem (s : List UInt8) (l : Tab) (b : Nat) (h : Heap) (hg : h.get b = some [SL l]) (hp : 0 < l.length) : CSem Tryd.prog 65 [S s, .ptr b 0] h fun x h' => x = .bool (decide (s.length ≠ (l[0]?.getD []).length)) ∧ h' = h := by
  refine CSem.body hm Tryd.func65 rfl (by kernel_rfl) (by kernel_rfl) (by simp [Tryd.ntmps65]) ?_
  have h0 : l[0]? = some l[0] := List.getElem?_eq_getElem hp
  simp [Tryd.f65, hg, hp, h0]
/-- Where the first text of another length stands. -/
def IfInv (l : Tab) (b : Nat) (h0 : Heap) (i : Nat) (r : Regs) (h : Heap) : Prop :=
  i ≤ l.length ∧ h = h0 ∧ rg r 0 = SL l ∧ rg r 1 = .fn 65 [] [.ptr b 0] ∧ rg r 7 = .int .i64 l.length ∧ rg r 8 = .int .i64 i ∧ ∀ x ∈ l.take i, x.length = (l[0]?.getD []).length
theorem index_sem (l : Tab) (b : Nat) (h : Heap) (hg : h.get b = some [SL l]) (hl : l.length < 2 ^ 60) : CSem Tryd.prog 83 [SL l, .fn 65 [] [.ptr b 0]] h fun x h' => (∃ n : Int, x = .int .i64 n ∧ (0 ≤ n ↔ ¬ EvenP l)) ∧ h' = h := by
  refine CSem.body hm Tryd.func83 rfl (by kernel_rfl) (by kernel_rfl) (by simp [Tryd.ntmps83]) ?_
  simp [Tryd.f83]
  refine wpc_loop (IfInv l b h) (l.length - ·) ?_ 0 ?_
  · rintro i r h ⟨hi, rfl, g0, g1, g7, g8, ha⟩
    rcases Nat.lt_or_eq_of_le hi with hlt | heq
    · have hr : l[i]? = some l[i] := List.getElem?_eq_getElem hlt
      have hp : 0 < l.length := by omega
      have h0 : l[0]? = some l[0] := List.getElem?_eq_getElem hp
      simp [g0, g1, g7, g8, hlt, hr]
      refine (evf_sem l[i] l b h hg hp).use ?_
      by_cases he : l[i].length = l[0].length
      · simp [h0, he, g8]
        exact ⟨i + 1, by omega, by omega, rfl, by simp [g0], by simp [g1], by simp [g7], by simp [wrap64 (n := (i : Int) + 1) (by omega) (by omega)], all_take_succ ha hr (by rw [h0]; exact he)⟩
      · have : ¬ EvenP l := fun hE => he (by have := hE _ (List.getElem_mem hlt); rw [h0] at this; exact this)
        simp [h0, he, this]
    · have : EvenP l := fun x hx => ha x (by rw [heq, List.take_length]; exact hx)
      simp [g0, g1, g7, g8, heq, this]
  · exact ⟨Nat.zero_le _, rfl, by simp, by simp, by simp, by simp, by simp⟩
theorem contains_sem (l : Tab) (b : Nat) (h : Heap) (hg : h.get b = some [SL l]) (hl : l.length < 2 ^ 60) : CSem Tryd.prog 64 [SL l, .fn 65 [] [.ptr b 0]] h fun x h' => x = .bool (decide (¬ EvenP l)) ∧ h' = h := by
  refine CSem.body hm Tryd.func64 rfl (by kernel_rfl) (by kernel_rfl) (by simp [Tryd.ntmps64]) ?_
  simp [Tryd.f64]
  refine (index_sem l b h hg hl).then ?_
  rintro x h' ⟨⟨n, rfl, hn⟩, rfl⟩
  simp [hn]
theorem even_pure (l : Tab) (hl : l.length < 2 ^ 60) : CPure Tryd.prog 43 [SL l] (.bool (decide (EvenP l))) := by
  refine CPure.of_sem (k := 1) ?_
  refine CSem.body hm Tryd.func43 rfl (by kernel_rfl) (by kernel_rfl) (by simp [Tryd.ntmps43]) ?_
  have hg : (Heap.empty.alloc [SL l]).get 0 = some [SL l] := Heap.get_alloc_same _ _
  simp [Tryd.f43, hg]
  refine (contains_sem l 0 _ hg hl).use ?_
  simp
theorem even_callS (l : Tab) (hl : l.length < 2 ^ 60) {h : Heap} {x : AV} (hx : snap h true 2 x = some (SL l)) : CSem Tryd.prog 43 [x] h fun x' h' => x' = .bool (decide (EvenP l)) ∧ h' = h := (even_pure l hl).call (k := 2) (by simp [hx])

/-- A function that answers new texts. -/
def FtQ (l : Tab) (x : AV) (h : Heap) : Prop := (∃ b, x = .sl b 0 l.length l.length 1 ∧ h.get b = some (l.map S)) ∨ (l = [] ∧ (x = .nilSl ∨ x = .vec 0 []))
def FreshT (P : Program) (f : FuncId) (args : List AV) (l : Tab) : Prop := CSem P f args Heap.empty (FtQ l)
section
variable {P : Program} {f : FuncId} {args args' : List AV} {l : Tab} {h : Heap}
theorem FtQ.own {x : AV} (ho : Own h x (l.map S)) : FtQ l x h := by
  rcases ho with ⟨rfl, h0⟩ | ⟨b, rfl, hg⟩
  · exact .inr ⟨by simpa using h0, .inl rfl⟩
  · exact .inl ⟨b, by simp, hg⟩
theorem FreshT.of_own (hf : CSem P f args Heap.empty fun x h => Own h x (l.map S)) : FreshT P f args l := hf.mono fun x h => FtQ.own
theorem FtQ.snap {x : AV} (hq : FtQ l x h) {al : Bool} {k : Nat} : X.snap h al (k + 2) x = some (SL l) := by
  rcases hq with ⟨b, rfl, hg⟩ | ⟨rfl, rfl | rfl⟩
  · exact snap_own hg rfl (fun _ => rfl)
  · rfl
  · rfl
theorem FtQ.tup {x : AV} {e : Int} (hq : FtQ l x h) : FrQ l e (.tup [x, .int .i64 e]) h := by
  rcases hq with ⟨b, rfl, hg⟩ | ⟨rfl, rfl | rfl⟩
  · exact .sl rfl hg
  · exact .nil
  · exact .vec
theorem FreshT.pure (hf : FreshT P f args l) : CPure P f args (SL l) := CPure.of_sem (k := 2) (hf.mono fun x h hq => hq.snap)
/-- As a caller has it. -/
theorem FreshT.call (hf : FreshT P f args' l) {k : Nat} (hs : mapL (X.snap h true k) args = some args') :
    CSem P f args h fun x' h' => FtQ l x' h' ∧ h' = ownH h l := by
  by_cases hl : l = []
  · subst hl
    exact (hf.pure.call hs).mono (by rintro x h' ⟨rfl, rfl⟩; exact ⟨.inr ⟨rfl, .inr rfl⟩, rfl⟩)
  · refine (CSem.fresh (n := 1) (F := fun b => .sl b 0 l.length l.length 1) hs (Hangs.sl _ _ _) (rig_S l) (hf.mono ?_)).mono ?_
    · rintro x h (⟨b, rfl, hg⟩ | ⟨h0, _⟩)
      · exact ⟨b, rfl, hg⟩
      · exact (hl h0).elim
    · rintro x h' ⟨rfl, rfl⟩
      exact ⟨.inl ⟨h.next, rfl, Heap.get_alloc_same _ _⟩, by simp [ownH, hl]⟩
theorem ownH_old {b : Nat} {cs : List AV} (hb : h.get b = some cs) : (ownH h l).get b = some cs := by
  unfold ownH
  split
  · exact hb
  · exact Heap.get_alloc_old hb
end
/-- Shards of data, by rows. -/
def spreadL (rows data : Tab) : Tab := rows.map fun row => (gatherL row data).getD []
def SpInv (rows data : Tab) (i : Nat) (r : Regs) (h : Heap) : Prop :=
  i ≤ rows.length ∧ rg r 1 = SL data ∧ rg r 10 = SL rows ∧ rg r 11 = .int .i64 rows.length ∧ rg r 12 = .int .i64 i ∧ Own h (rg r 5) ((spreadL (rows.take i) data).map S)
theorem spread_fresh (rows data : Tab) (hr : rows.length < 2 ^ 40) (hrr : ∀ x ∈ rows, x.length < 2 ^ 40) (hd : data.length < 2 ^ 40) (hdd : ∀ x ∈ data, x.length < 2 ^ 40) : FreshT Tryd.prog 44 [SL rows, SL data] (spreadL rows data) := by
  refine FreshT.of_own ?_
  refine CSem.body hm Tryd.func44 rfl (by kernel_rfl) (by kernel_rfl) (by simp [Tryd.ntmps44]) ?_
  simp [Tryd.f44]
  refine wpc_loop (SpInv rows data) (rows.length - ·) ?_ 0 ?_
  · rintro i r h ⟨hi, g1, g10, g11, g12, ho⟩
    rcases Nat.lt_or_eq_of_le hi with hlt | heq
    · have hx : rows[i]? = some rows[i] := List.getElem?_eq_getElem hlt
      simp [g1, g10, g11, g12, hlt, hx]
      have hs : snap (h.alloc (rows[i].map B8)) true 2 (.sl h.next 0 rows[i].length rows[i].length 1) = some (BL rows[i]) := snap_own (Heap.get_alloc_same _ _) rfl (fun _ => rfl)
      refine (gather_call rows[i] data hd hdd hs).use ?_
      obtain ⟨n, hn⟩ := rS_fields (gatherL rows[i] data) 1
      have ho1 : Own (h.alloc (rows[i].map B8)) (rg r 5) ((spreadL (rows.take i) data).map S) := ho.old fun b cs hb => Heap.get_alloc_old hb
      obtain ⟨x', h', e, ho', hnx, hat, hk⟩ := append_own (P := Tryd.prog) (t := 26) (xt := 26) (by kernel_rfl) ho1 (by simp [spreadL]; omega) (S_atom ((gatherL rows[i] data).getD []))
      simp at e
      simp [hn, buildSlice_one (P := Tryd.prog) (t := 26) (xt := 26) (by kernel_rfl), e, g1, g10, g11, g12]
      refine ⟨i + 1, by omega, by omega, by simp [g1], by simp [g10], by simp [g11], by simp [wrap64 (n := (i : Int) + 1) (by omega) (by omega)], ?_⟩
      rw [List.take_succ_eq_append_getElem hlt, spreadL, List.map_append]
      simpa [spreadL] using ho'
    · rw [heq, List.take_length] at ho
      simp [g1, g10, g11, g12, heq]
      exact ho
  · simp [SpInv, Own, spreadL]
/-- Few and short. -/
def Sm (l : Tab) : Prop := l.length < 2 ^ 40 ∧ ∀ x ∈ l, x.length < 2 ^ 40
theorem spread_callS (rows data : Tab) (h1 : Sm rows) (h2 : Sm data) {h : Heap} {x y : AV} (hx : snap h true 2 x = some (SL rows)) (hy : snap h true 2 y = some (SL data)) :
    CSem Tryd.prog 44 [x, y] h fun x' h' => x' = SL (spreadL rows data) ∧ h' = h := (spread_fresh rows data h1.1 h1.2 h2.1 h2.2).pure.call (k := 2) (by simp [hx, hy])
theorem spread_new (rows data : Tab) (h1 : Sm rows) (h2 : Sm data) {h : Heap} {x y : AV} (hx : snap h true 2 x = some (SL rows)) (hy : snap h true 2 y = some (SL data)) :
    CSem Tryd.prog 44 [x, y] h fun x' h' => FtQ (spreadL rows data) x' h' ∧ h' = ownH h (spreadL rows data) := (spread_fresh rows data h1.1 h1.2 h2.1 h2.2).call (k := 2) (by simp [hx, hy])
theorem gen_sm {k m : Int} (hM : GMay k m) : Sm (genL k.toNat m.toNat) := by
  obtain ⟨h1, h2, h3, h4⟩ := hM
  exact ⟨by rw [genL_len]; omega, fun x hx => by rw [genL_mem hx]; omega⟩

def EncP (data : Tab) (m : Int) : Prop := GMay data.length m ∧ EvenP data
instance (data : Tab) (m : Int) : Decidable (EncP data m) := by unfold EncP; exact inferInstance
def encL (data : Tab) (m : Nat) : Tab := spreadL (genL data.length m) data
def encR (data : Tab) (m : Int) : Tab × Int := if EncP data m then (encL data m.toNat, 0) else ([], 1)
theorem enc_fresh (data : Tab) (m : Int) (h : Sm data) : FreshL Tryd.prog 25 [SL data, .int .i64 m] (encR data m).1 (encR data m).2 := by
  refine CSem.body hm Tryd.func25 rfl (by kernel_rfl) (by kernel_rfl) (by simp [Tryd.ntmps25]) ?_
  simp [Tryd.f25]
  refine (gen_call _ _ _).use ?_
  by_cases hM : GMay data.length m
  rotate_left
  · have : ¬ EncP data m := fun h => hM h.1
    simp [rL, genR, hM, encR, this, FrQ.nil]
  have hs := gen_sm hM
  simp [rL, genR, hM]
  refine (even_callS data (by have := h.1; omega) (by simp)).use ?_
  by_cases hE : EvenP data
  rotate_left
  · have : ¬ EncP data m := fun h => hE h.2
    simp [rL, hE, encR, this, FrQ.nil]
  have hP : EncP data m := ⟨hM, hE⟩
  simp [hE]
  refine (spread_new (genL data.length m.toNat) data hs h (by simp) (by simp)).then ?_
  rintro x h' ⟨hq, rfl⟩
  simp [encR, hP]
  exact hq.tup
theorem enc_callS (data : Tab) (m : Int) (h : Sm data) {hp : Heap} {x : AV} (hx : snap hp true 2 x = some (SL data)) : CSem Tryd.prog 25 [x, .int .i64 m] hp fun x' h' => x' = rL (encR data m).1 (encR data m).2 ∧ h' = hp :=
  (enc_fresh data m h).pure.call (k := 2) (by simp [hx])

def ReInv (data : Tab) (m : Nat) (i : Nat) (r : Regs) (h : Heap) : Prop :=
  i ≤ data.length + m ∧ rg r 0 = SL data ∧ rg r 1 = .int .i64 m ∧ rg r 6 = .int .i64 data.length ∧ rg r 7 = SL (genL data.length m) ∧ rg r 10 = .int .i64 i ∧ Own h (rg r 9) ((spreadL ((genL data.length m).take i) data).map S)
theorem renc_fresh (data : Tab) (m : Int) (h : Sm data) : FreshL Tryd.prog 27 [SL data, .int .i64 m] (encR data m).1 (encR data m).2 := by
  refine CSem.body hm Tryd.func27 rfl (by kernel_rfl) (by kernel_rfl) (by simp [Tryd.ntmps27]) ?_
  simp [Tryd.f27]
  refine (rgmay_call _ _ _).use ?_
  by_cases hM : GMay data.length m
  rotate_left
  · have : ¬ EncP data m := fun h => hM h.1
    simp [hM, encR, this, FrQ.nil]
  have hs := gen_sm hM
  simp [hM]
  refine (one_callS data (by have := h.1; omega) (by simp)).use ?_
  by_cases hE : EvenP data
  rotate_left
  · have : ¬ EncP data m := fun h => hE h.2
    simp [hE, encR, this, FrQ.nil]
  have hP : EncP data m := ⟨hM, hE⟩
  obtain ⟨m1, m2, m3, m4⟩ := hM
  have hM : GMay data.length m := ⟨m1, m2, m3, m4⟩
  obtain ⟨M, rfl⟩ := Int.eq_ofNat_of_zero_le m2
  simp [hE]
  refine (rgen_call _ _ _).use ?_
  have hg : genR (data.length : Int) M = (genL data.length M, 0) := by rw [genR, if_pos hM]; rfl
  simp [rL, hg]
  refine wpc_loop (ReInv data M) (data.length + M - ·) ?_ 0 ?_
  · rintro i r hp ⟨hi, g0, g1, g6, g7, g10, ho⟩
    have e1 : IntKind.i64.wrap ((data.length : Int) + M) = (data.length : Int) + M := wrap64 (by omega) (by omega)
    rcases Nat.lt_or_eq_of_le hi with hlt | heq
    · have hgl : i < (genL data.length M).length := by rw [genL_len]; exact hlt
      have hx : (genL data.length M)[i]? = some (genL data.length M)[i] := List.getElem?_eq_getElem hgl
      have hlt' : (i : Int) < (data.length : Int) + M := by omega
      simp [g0, g1, g6, g7, g10, e1, hlt', hgl, hx]
      have hsn : snap (hp.alloc ((genL data.length M)[i].map B8)) true 2 (.sl hp.next 0 (genL data.length M)[i].length (genL data.length M)[i].length 1) = some (BL (genL data.length M)[i]) := snap_own (Heap.get_alloc_same _ _) rfl (fun _ => rfl)
      refine (rgather_call (genL data.length M)[i] data h.1 h.2 hsn).use ?_
      obtain ⟨n, hn⟩ := rS_fields (gatherL (genL data.length M)[i] data) 1
      have ho1 : Own (hp.alloc ((genL data.length M)[i].map B8)) (rg r 9) ((spreadL ((genL data.length M).take i) data).map S) := ho.old fun b cs hb => Heap.get_alloc_old hb
      obtain ⟨x', h', e, ho', hnx, hat, hk⟩ := append_own (P := Tryd.prog) (t := 26) (xt := 26) (by kernel_rfl) ho1 (by simp [spreadL]; omega) (S_atom ((gatherL (genL data.length M)[i] data).getD []))
      simp at e
      simp [hn, buildSlice_one (P := Tryd.prog) (t := 26) (xt := 26) (by kernel_rfl), e, g0, g1, g6, g7, g10]
      refine ⟨i + 1, by omega, by omega, by simp [g0], by simp [g1], by simp [g6], by simp [g7], by simp [wrap64 (n := (i : Int) + 1) (by omega) (by omega)], ?_⟩
      rw [List.take_succ_eq_append_getElem hgl, spreadL, List.map_append]
      simpa [spreadL] using ho'
    · have hnlt : ¬ (i : Int) < (data.length : Int) + M := by omega
      rw [heq, List.take_of_length_le (by rw [genL_len]; omega)] at ho
      simp [g0, g1, g6, g7, g10, e1, hnlt, encR, hP, encL]
      exact FrQ.own ho
  · exact ⟨Nat.zero_le _, by simp, by simp, by simp, by simp, by simp, .inl ⟨by simp, by simp [spreadL]⟩⟩
theorem renc_callS (data : Tab) (m : Int) (h : Sm data) {hp : Heap} {x : AV} (hx : snap hp true 2 x = some (SL data)) : CSem Tryd.prog 27 [x, .int .i64 m] hp fun x' h' => x' = rL (encR data m).1 (encR data m).2 ∧ h' = hp :=
  (renc_fresh data m h).pure.call (k := 2) (by simp [hx])

/-- Are these shards a codeword of the first k of them? -/
def IsP (k : Int) (l : Tab) : Prop := 1 ≤ k ∧ k ≤ l.length ∧ EvenP l ∧ encR (l.take k.toNat) (l.length - k) = (l, 0)
instance (k : Int) (l : Tab) : Decidable (IsP k l) := by unfold IsP; exact inferInstance
theorem Sm.take {l : Tab} (h : Sm l) (n : Nat) : Sm (l.take n) := ⟨by have := h.1; simp; omega, fun x hx => h.2 x (List.mem_of_mem_take hx)⟩
theorem encR_len {data : Tab} {m : Int} : (encR data m).1.length < 2 ^ 40 := by
  unfold encR
  split
  · rename_i h
    have := h.1.2.2
    simp [encL, spreadL, genL_len]
    omega
  · simp
theorem IsP.may {k : Int} {l : Tab} (h : IsP k l) : GMay k (l.length - k) := by
  have h1 := h.1
  have h2 := h.2.1
  have := h.2.2.2
  unfold encR at this
  split at this
  · rename_i hP
    have hM := hP.1
    have e : ((l.take k.toNat).length : Int) = k := by simp; omega
    rwa [e] at hM
  · cases this
theorem ris_pure (k : Int) (l : Tab) (h : Sm l) : CPure Tryd.prog 20 [.int .i64 k, SL l] (.bool (decide (IsP k l))) := by
  refine CPure.of_sem (k := 1) ?_
  refine CSem.body hm Tryd.func20 rfl (by kernel_rfl) (by kernel_rfl) (by simp [Tryd.ntmps20]) ?_
  by_cases h1 : k < 1
  · have : ¬ IsP k l := fun h => by have := h.1; omega
    simp [Tryd.f20, h1, this]
  by_cases h2 : (l.length : Int) < k
  · have : ¬ IsP k l := fun h => by have := h.2.1; omega
    simp [Tryd.f20, h1, h2, this]
  have hl1 := h.1
  obtain ⟨K, rfl⟩ := Int.eq_ofNat_of_zero_le (by omega : 0 ≤ k)
  have hw : IntKind.i64.wrap ((l.length : Int) - K) = (l.length : Int) - K := wrap64 (by omega) (by omega)
  have hK : K ≤ l.length := by omega
  simp [Tryd.f20, h1, h2, hw]
  refine (rgmay_call _ _ _).use ?_
  by_cases hM : GMay K (l.length - K)
  rotate_left
  · have : ¬ IsP K l := fun h => hM h.may
    simp [hM, this]
  simp [hM]
  refine (one_callS l (by have := h.1; omega) (by simp)).use ?_
  by_cases hE : EvenP l
  rotate_left
  · have : ¬ IsP K l := fun h => hE h.2.2.1
    simp [hE, this]
  simp [hE, hw, hK]
  refine (renc_callS (l.take K) _ (h.take K) (by simp)).use ?_
  by_cases he : (encR (l.take K) ((l.length : Int) - K)).2 = 0
  rotate_left
  · have : ¬ IsP K l := fun h => he (by have := h.2.2.2; simp only [Int.toNat_natCast] at this; rw [this])
    simp [rL, he, this]
  simp [rL, he]
  refine (same_call (encR (l.take K) ((l.length : Int) - K)).1 l (by have := encR_len (data := l.take K) (m := (l.length : Int) - K); omega) (by simp) (by simp)).use ?_
  have hiff : ((encR (l.take K) ((l.length : Int) - K)).1 = l) ↔ IsP K l := by
    constructor
    · intro h1
      refine ⟨by omega, by omega, hE, ?_⟩
      simp only [Int.toNat_natCast]
      rw [← he]
      rw [Prod.ext_iff]
      exact ⟨h1, rfl⟩
    · intro h1
      have := h1.2.2.2
      simp only [Int.toNat_natCast] at this
      rw [this]
  simp [hiff]
theorem ris_callS (k : Int) (l : Tab) (h : Sm l) {hp : Heap} {x : AV} (hx : snap hp true 2 x = some (SL l)) : CSem Tryd.prog 20 [.int .i64 k, x] hp fun x' h' => x' = .bool (decide (IsP k l)) ∧ h' = hp := (ris_pure k l h).call (k := 2) (by simp [hx])
end Go.Proofs.YtgcfmodgabeocaaDoor.X
