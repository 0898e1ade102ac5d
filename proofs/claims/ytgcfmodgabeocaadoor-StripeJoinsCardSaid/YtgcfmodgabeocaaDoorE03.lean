/-
  Contracts: slices.Backward (of bytes), wire.Cut.
-/
import Derived.Test.YtgcfmodgabeocaaDoorE02
namespace Go.Proofs.YtgcfmodgabeocaaDoor.X
open Go.RowKit F
set_option maxRecDepth 100000
set_option linter.unusedSimpArgs false
set_option linter.unusedVariables false

theorem wpc_rangeF {P : Program} (F : Regs → Heap → Prop) {g : Operand} {ps : Array Tmp} {a1 bd : Code} {Q : Out → Regs → Heap → Prop} {r : Regs} {h : Heap} {gf : FuncId} {a b : List AV} (hl : h.lp = none) (he : evalX r g = some (.fn gf a b)) (hF : F r h)
    (hc : ∀ id r h, h.lp = none → F r h → CSem P gf (a ++ [.yld id] ++ b) (h.withLp (some ⟨id, .ready, r, ps, a1, bd⟩)) (rangeQ Q r)) : wpc P (.rangeFunc g ps a1 bd) Q r h := wpc_range hl he (fun id => hc id r h hl hF)

theorem backB_sem (x : AV) (hx : x.atom = true) (h : Heap) : CSem Tryd.prog 49 [x] h fun x' h' => x' = .fn 73 [] [.ptr h.next 0] ∧ h' = h.alloc [x] := by
  refine CSem.body hm Tryd.func49 rfl (by kernel_rfl) (by kernel_rfl) (by simp [Tryd.ntmps49]) ?_
  simp [Tryd.f49, atom_cells hx, hx]
theorem backB_iter {id : Nat} {b sb : Nat} {l : List UInt8} (hn : l.length < 2 ^ 40) (J : Nat → Heap → Prop) (D : Heap → Prop)
    (hJ : ∀ i h, J i h → h.get b = some [.sl sb 0 l.length l.length 1] ∧ h.get sb = some (l.map B8))
    (hstep : ∀ i h (hi : i < l.length), J (i + 1) h → YSem Tryd.prog id [.int .i64 (i : Int), B8 l[i]] h fun v h' => (v = .bool true ∧ J i h') ∨ (v = .bool false ∧ D h')) {h : Heap} (h0 : J l.length h) :
    CSem Tryd.prog 73 [.yld id, .ptr b 0] h fun _ h' => J 0 h' ∨ D h' := by
  refine CSem.body hm Tryd.func73 rfl (by kernel_rfl) (by kernel_rfl) (by simp [Tryd.ntmps73]) ?_
  obtain ⟨k1, k2⟩ := hJ _ _ h0
  simp [Tryd.f73, k1, k2, wrap64 (n := (l.length : Int) - 1) (by omega) (by omega)]
  refine wpc_loop (fun (i : Nat) r h => i ≤ l.length ∧ rg r 0 = .yld id ∧ rg r 1 = .ptr b 0 ∧ rg r 3 = .int .i64 ((i : Int) - 1) ∧ J i h) (fun i => i) ?_ l.length ?_
  · rintro i r h ⟨hi, g0, g1, g3, hj⟩
    obtain ⟨k1, k2⟩ := hJ _ _ hj
    cases i with
    | zero => simp [g0, g1, g3, hj]
    | succ i =>
      have e : ((i + 1 : Nat) : Int) - 1 = (i : Int) := by omega
      rw [e] at g3
      have hil : i < l.length := by omega
      simp [g0, g1, g3, k1, k2, hil]
      refine YSem.mono (hstep i h hil hj) ?_
      rintro v h' (⟨rfl, hj'⟩ | ⟨rfl, hd⟩)
      · simp [g0, g1, g3, wrap64 (n := (i : Int) - 1) (by omega) (by omega)]
        exact ⟨i, by omega, by omega, rfl, hj'⟩
      · simp [g0, g1, g3, hd]
  · exact ⟨Nat.le_refl _, by simp, by simp, by simp, h0⟩

def CutP (s : List UInt8) (sz : Int) : Prop := 1 ≤ sz ∧ sz ≤ 7
instance (s : List UInt8) (sz : Int) : Decidable (CutP s sz) := by unfold CutP; exact inferInstance
/-- A number from so many bytes, what stands behind it, and an error. -/
def cutR (s : List UInt8) (sz : Int) : Int × List UInt8 × Int := if CutP s sz then (if s.length < sz.toNat then (0, [], 4) else (((unle (s.take sz.toNat) : Nat) : Int), s.drop sz.toNat, 0)) else (0, [], 1)
def cutA (s : List UInt8) (sz : Int) : AV := .tup [.int .i64 (cutR s sz).1, S (cutR s sz).2.1, .int .i64 (cutR s sz).2.2]
theorem unle_drop {l : List UInt8} {i : Nat} (hi : i < l.length) : unle (l.drop i) = l[i].toNat + 256 * unle (l.drop (i + 1)) := by
  rw [List.drop_eq_getElem_cons hi]; rfl
theorem unle_small {l : List UInt8} (h : l.length ≤ 7) : unle l < 72057594037927936 := by
  have h1 := unle_lt l
  have h2 : 256 ^ l.length ≤ 256 ^ 7 := pow_le7 h
  omega
theorem cut_pure (s : List UInt8) (sz : Int) (hs : s.length < 2 ^ 47) : CPure Tryd.prog 30 [S s, .int .i64 sz] (cutA s sz) := by
  refine CPure.of_sem (k := 2) ?_
  refine CSem.body hm Tryd.func30 rfl (by kernel_rfl) (by kernel_rfl) (by simp [Tryd.ntmps30]) ?_
  by_cases h1 : sz < 1
  · have : ¬ CutP s sz := fun h => by have := h.1; omega
    simp [Tryd.f30, h1, cutA, cutR, this]
  by_cases h2 : 7 < sz
  · have : ¬ CutP s sz := fun h => by have := h.2; omega
    simp [Tryd.f30, h1, h2, cutA, cutR, this]
  have hP : CutP s sz := ⟨by omega, by omega⟩
  obtain ⟨Z, rfl⟩ := Int.eq_ofNat_of_zero_le (show 0 ≤ sz by omega)
  by_cases h3 : s.length < Z
  · simp [Tryd.f30, h1, h2, h3, cutA, cutR, hP]
  have hz : (Z : Int) ≤ s.length := by omega
  have hmin : min Z s.length = Z := by omega
  have hll : (s.take Z).length = Z := by simp; omega
  have hZ7 : Z ≤ 7 := by omega
  simp [Tryd.f30, h1, h2, h3, sliceX_S, hz, Heap.get_alloc]
  refine (backB_sem _ rfl _).then ?_
  rintro _ _ ⟨rfl, rfl⟩
  simp [hmin]
  refine wpc_rangeF (gf := 73) (a := []) (b := [.ptr 2 0]) (fun r h => rg r 0 = S s ∧ rg r 1 = .int .i64 (Z : Int) ∧ rg r 7 = .ptr 0 0 ∧ h.get 0 = some [.int .i64 0] ∧ h.get 1 = some ((s.take Z).map B8) ∧ h.get 2 = some [.sl 1 0 Z Z 1]) (by simp) (by simp) (by simp [Heap.get_alloc, Heap.get_put]) ?_
  rintro id r h hlp ⟨g0, g1, g7, k0, k1, k2⟩
  generalize hH : h.withLp _ = H0
  have e0 : H0.get 0 = some [.int .i64 0] := by rw [← hH]; exact k0
  have e1 : H0.get 1 = some ((s.take Z).map B8) := by rw [← hH]; exact k1
  have e2 : H0.get 2 = some [.sl 1 0 Z Z 1] := by rw [← hH]; exact k2
  refine (backB_iter (id := id) (l := s.take Z) (sb := 1) (b := 2) (by omega) (fun i h' => h'.lp = H0.lp ∧ h'.get 0 = some [.int .i64 ((unle ((s.take Z).drop i) : Nat) : Int)] ∧ h'.get 1 = some ((s.take Z).map B8) ∧ h'.get 2 = some [.sl 1 0 Z Z 1]) (fun _ => False) ?_ ?_ ⟨rfl, by rw [List.drop_length]; exact e0, e1, e2⟩).mono ?_
  · rintro i h' ⟨_, _, f1, f2⟩
    rw [hll]
    exact ⟨f2, f1⟩
  · rintro i h' hi ⟨fl, f0, f1, f2⟩
    rw [← hH] at fl
    have hsm : unle ((s.take Z).drop i) < 72057594037927936 := unle_small (by simp; omega)
    have hu := unle_drop hi
    rw [hu] at hsm
    have hb := lt8 (s.take Z)[i]
    generalize hq : unle ((s.take Z).drop (i + 1)) = q at hsm f0 hu
    generalize hc : (s.take Z)[i] = c at hsm hb hu
    refine YSem.of hm fl rfl ?_
    have hlt := Heap.get_lt f0
    simp [g7, f0, fl, wrap64 (n := (q : Int) * 256) (by omega) (by omega), wrap64 (n := (c.toNat : Int)) (by omega) (by omega), wrap64 (n := (q : Int) * 256 + (c.toNat : Int)) (by omega) (by omega), Heap.get_put, hlt, B8]
    exact ⟨by rw [← hH]; rfl, by rw [hu]; push_cast; omega, by simpa using f1, f2⟩
  · rintro x h' (⟨fl, f0, f1, f2⟩ | hf)
    rotate_left
    · exact hf.elim
    refine ⟨_, fl.trans (by rw [← hH]; rfl), ?_⟩
    have hu0 : unle ((s.take Z).drop 0) = unle (s.take Z) := rfl
    rw [hu0] at f0
    simp [g0, g1, g7, f0, sliceX_S, hz]
    change wpc _ _ _ _ (h'.withLp none)
    refine wpc_draw 7 (by kernel_rfl) ?_
    have hzn : Z ≤ s.length := by omega
    simp [g0, g1, g7, f0, sliceX_S, hz, cutA, cutR, hP, h3, hzn]
theorem cut_call (s : List UInt8) (sz : Int) (hs : s.length < 2 ^ 47) (h : Heap) : CSem Tryd.prog 30 [S s, .int .i64 sz] h fun x' h' => x' = cutA s sz ∧ h' = h := (cut_pure s sz hs).call (k := 1) (by simp)
end Go.Proofs.YtgcfmodgabeocaaDoor.X
