/-
  Contracts: stripe.Split.
-/
import Derived.Test.YtgcfmodgabeocaaDoorE05
namespace Go.Proofs.YtgcfmodgabeocaaDoor.X
open Go.RowKit F
set_option maxRecDepth 100000
set_option linter.unusedSimpArgs false
set_option linter.unusedVariables false

/-- A stripe's text: how long it is, the text, and zeros. -/
def stext (n : Nat) (data : List UInt8) : List UInt8 := le data.length 4 ++ data ++ List.replicate (n - 4 - data.length) 0
def chunk (sh : Nat) (t : List UInt8) (i : Nat) : List UInt8 := (t.drop (i * sh)).take sh
def chunks (k sh : Nat) (t : List UInt8) : Tab := (List.range k).map (chunk sh t)
def splL (c : Cfg) (data : List UInt8) : Tab := chunks c.k.toNat c.sh.toNat (stext (c.k.toNat * c.sh.toNat) data)
def splR (c : Cfg) (data : List UInt8) : Tab × Int := if ConfP c then (if confCap c < data.length then ([], 12) else encR (splL c data) c.m) else ([], 1)
theorem stext_len {n : Nat} {data : List UInt8} (h : 4 + data.length ≤ n) : (stext n data).length = n := by simp [stext]; omega
theorem chunk_len {k sh : Nat} {t : List UInt8} (ht : t.length = k * sh) {i : Nat} (hi : i < k) : (chunk sh t i).length = sh := by
  have : (i + 1) * sh ≤ k * sh := Nat.mul_le_mul_right _ hi
  rw [Nat.add_mul, Nat.one_mul] at this
  simp [chunk]; omega
theorem chunks_len {k sh : Nat} {t : List UInt8} : (chunks k sh t).length = k := by simp [chunks]
theorem chunks_sm {k sh : Nat} {t : List UInt8} (hk : k < 2 ^ 40) (hs : sh < 2 ^ 40) : Sm (chunks k sh t) := by
  refine ⟨by simpa [chunks] using hk, fun x hx => ?_⟩
  obtain ⟨i, _, rfl⟩ := List.mem_map.1 hx
  simp [chunk]; omega
/-- The first i chunks. -/
def chT (sh : Nat) (t : List UInt8) (i : Nat) : List AV := ((List.range i).map (chunk sh t)).map S
theorem chT_len {sh i : Nat} {t : List UInt8} : (chT sh t i).length = i := by simp [chT]
theorem chT_succ {sh i : Nat} {t : List UInt8} : chT sh t i ++ [S (chunk sh t i)] = chT sh t (i + 1) := by simp [chT, List.range_succ]
theorem put4 {n : Nat} (h : n < 2 ^ 32) : putA n 4 = .tup [S (le n 4), .int .i64 0] := by
  have hP : PutP n 4 := ⟨by omega, by omega, by omega⟩
  have hd : ¬ 0 < dv n 4 := by rw [dv_pos]; omega
  simp [putA, putR, hP, hd]
theorem split_fresh (c : Cfg) (data : List UInt8) (hd : data.length < 2 ^ 47) : FreshL Tryd.prog 10 [CfA c, S data] (splR c data).1 (splR c data).2 := by
  refine CSem.body hm Tryd.func10 rfl (by kernel_rfl) (by kernel_rfl) (by simp [Tryd.ntmps10]) ?_
  simp [Tryd.f10, CfA, AV.cells, loadX_agg, takeN, Heap.get_alloc]
  refine (confCheck_call c _).use ?_
  by_cases hC : ConfP c
  rotate_left
  · simp [hC, splR, FrQ.nil]
  simp [hC, CfA, AV.cells, loadX_agg, takeN, Heap.get_alloc]
  refine (confCap_call c _).use ?_
  by_cases hcap : confCap c < data.length
  · simp [hC, hcap, splR, FrQ.nil]
  have hcv : confCap c = c.k * c.sh - 4 := by simp [confCap, hC]
  have hC' := hC
  obtain ⟨ck, cm, csh, cst, csl⟩ := c
  obtain ⟨hG, hm0, ⟨hs8, hs1024⟩, _, _, h4000⟩ := hC
  have hk1 := hG.1
  have hk255 := hG.2.2.1
  simp only at hG hm0 hs8 hs1024 h4000 hk1 hk255 hcv
  obtain ⟨K, rfl⟩ := Int.eq_ofNat_of_zero_le (show 0 ≤ ck by omega)
  obtain ⟨Z, rfl⟩ := Int.eq_ofNat_of_zero_le (show 0 ≤ csh by omega)
  obtain ⟨N, hN⟩ : ∃ N, N = K * Z := ⟨_, rfl⟩
  have hNi : (K : Int) * (Z : Int) = (N : Int) := by rw [hN]; push_cast; rfl
  have hcap2 : ¬ ((N : Int) - 4 < data.length) := by rw [hcv, hNi] at hcap; exact hcap
  rw [hNi] at h4000
  have hspl : splR ⟨K, cm, Z, cst, csl⟩ data = encR (chunks K Z (stext N data)) cm := by
    unfold splR
    rw [if_pos hC', if_neg hcap]
    show encR (splL _ data) cm = _
    unfold splL
    rw [hN]
    rfl
  rw [hspl]
  have hdl : data.length < 2 ^ 32 := by omega
  have hl0 : (le data.length 4 ++ data).length = 4 + data.length := by simp
  have ht : (stext N data).length = K * Z := by rw [← hN]; exact stext_len (by omega)
  have hbl : 4 + data.length ≤ 140737488355328 := by omega
  simp [hcap]
  refine (put_call _ _ (by omega) _).use ?_
  rw [put4 hdl]
  simp [hbl, fieldAddrX, Heap.get_alloc]
  obtain ⟨z, hz⟩ : ∃ z, N = 4 + data.length + z := ⟨N - (4 + data.length), by omega⟩
  have hst : stext N data = (le data.length 4 ++ data) ++ List.replicate z 0 := by
    simp only [stext]
    rw [show N - 4 - data.length = z by omega]
  have hzw : IntKind.i64.wrap (IntKind.i64.wrap ((K : Int) * Z) - (4 + (data.length : Int))) = (z : Int) := by
    rw [hNi, wrap64 (n := (N : Int)) (by omega) (by omega), wrap64 (by omega) (by omega)]; omega
  rw [hzw]
  generalize hH1 : Heap.alloc _ _ = H1
  have e0 : H1.get 0 = some [.int .i64 (K : Int), .int .i64 cm, .int .i64 (Z : Int), .int .i64 cst, .int .i64 csl] := by rw [← hH1]; simp [Heap.get_alloc]
  have e1 : H1.get 1 = some ((le data.length 4 ++ data).map B8) := by rw [← hH1]; simp [Heap.get_alloc]
  have el : H1.lp = none := by rw [← hH1]; rfl
  have en : H1.next = 2 := by rw [← hH1]; rfl
  obtain ⟨b', H2, e, hb', hnx, hbb, hold⟩ := append_zeros (P := Tryd.prog) (t := 45) (xt := 3) (by kernel_rfl) e1 z (by omega) (by simp; omega)
  rw [hl0] at e
  rw [← hst] at hb'
  have hN4 : 4 + data.length + z = N := hz.symm
  rw [hN4] at e
  have f0 := hold 0 _ e0 (by omega)
  have hlp2 : H2.lp = none := by rw [appendX_lp e, el]
  have hb2 : b' ≤ 2 := by omega
  have hb0 : b' ≠ 0 := by omega
  have hn2 : 2 ≤ H2.next := by omega
  have hbn : b' < H2.next := Heap.get_lt hb'
  simp [e, fieldAddrX, Heap.get_alloc, f0, show (0 : Nat) ≠ H2.next by omega]
  refine (chunkB_sem _ rfl _ (by omega) _).then ?_
  rintro _ _ ⟨rfl, rfl⟩
  simp
  obtain ⟨q, hq⟩ : ∃ q, q = H2.next := ⟨_, rfl⟩
  have hbq : b' < q := by omega
  have hq2 : 2 ≤ q := by omega
  refine wpc_rangeF (gf := 41) (a := []) (b := [.ptr (q + 1) 0, .ptr (q + 2) 0]) (fun r h => rg r 2 = .ptr 0 0 ∧ rg r 10 = .ptr q 0 ∧ h.get 0 = some [.int .i64 (K : Int), .int .i64 cm, .int .i64 (Z : Int), .int .i64 cst, .int .i64 csl] ∧
    h.get b' = some ((stext N data).map B8) ∧ h.get q = some [.nilSl] ∧ h.get (q + 1) = some [.sl b' 0 N N 1] ∧ h.get (q + 2) = some [.int .i64 (Z : Int)] ∧ h.next = q + 3) (by simp [hlp2]) (by simp [hq]) ?_ ?_
  · simp only [hq] at hbq ⊢
    simp [Heap.get_alloc, f0, hb', show b' ≠ H2.next by omega, show b' ≠ H2.next + 1 by omega, show b' ≠ H2.next + 2 by omega, show (0 : Nat) ≠ H2.next by omega]
    omega
  rintro id r h hlp ⟨g2, g10, k0, kb, kq, k1, k2, kn⟩
  generalize hH : h.withLp _ = H0
  have z0 : H0.get 0 = some [.int .i64 (K : Int), .int .i64 cm, .int .i64 (Z : Int), .int .i64 cst, .int .i64 csl] := by rw [← hH]; exact k0
  have zb : H0.get b' = some ((stext N data).map B8) := by rw [← hH]; exact kb
  have zq : H0.get q = some [.nilSl] := by rw [← hH]; exact kq
  have z1 : H0.get (q + 1) = some [.sl b' 0 N N 1] := by rw [← hH]; exact k1
  have z2 : H0.get (q + 2) = some [.int .i64 (Z : Int)] := by rw [← hH]; exact k2
  have zn : H0.next = q + 3 := by rw [← hH]; exact kn
  refine (chunkB_iter (id := id) (p1 := q + 1) (p2 := q + 2) (sb := b') (K := K) (sh := Z) (by omega) (by omega) (fun i h' => h'.lp = H0.lp ∧ h'.get 0 = some [.int .i64 (K : Int), .int .i64 cm, .int .i64 (Z : Int), .int .i64 cst, .int .i64 csl] ∧
    h'.get b' = some ((stext N data).map B8) ∧ h'.get (q + 1) = some [.sl b' 0 N N 1] ∧ h'.get (q + 2) = some [.int .i64 (Z : Int)] ∧ q + 3 ≤ h'.next ∧
    ∃ x, h'.get q = some [x] ∧ Own h' x (chT Z (stext N data) i) ∧ ∀ b off n c z, x = .sl b off n c z → q + 3 ≤ b) (fun _ => False) ?_ ?_
    ⟨rfl, z0, zb, z1, z2, by omega, .nilSl, zq, .inl ⟨rfl, rfl⟩, fun _ _ _ _ _ e => by cases e⟩).mono ?_
  · rintro i h' ⟨_, _, _, f1, f2, _⟩
    rw [← hN]
    exact ⟨f1, f2⟩
  · rintro i h' hi ⟨fl, f0, fb, f1, f2, fn, x, fx, ho, hxb⟩
    rw [← hH] at fl
    refine YSem.of hm fl rfl ?_
    have hps : i * Z + Z ≤ N := by
      have : (i + 1) * Z ≤ K * Z := Nat.mul_le_mul_right _ hi
      rw [Nat.add_mul, Nat.one_mul] at this
      omega
    have htl : (stext N data).length = N := by rw [ht, hN]
    have htk : takeN ((stext N data).map B8) (i * Z) Z = some ((chunk Z (stext N data) i).map B8) := by
      simp only [takeN, List.length_map]
      rw [if_pos (by omega), chunk, List.map_take, List.map_drop]
    simp [g2, g10, fx, fl, fb, htk]
    generalize hL : (some _ : Option Lp) = L
    have hio : (chT Z (stext N data) i).length < 2 ^ 40 := by rw [chT_len]; omega
    obtain ⟨x', H3, e, ho', hnx, ⟨hat, hxq⟩, hk3⟩ := append_own (P := Tryd.prog) (t := 26) (xt := 26) (h := h'.withLp L) (by kernel_rfl) (x := x) (xs := chT Z (stext N data) i) ho hio (S_atom (chunk Z (stext N data) i))
    have hl3 := appendX_lp e
    simp only [alloc_withLp, withLp_next, withLp_get, withLp_lp] at e hnx hxq hk3 hl3
    simp [g2, g10, fx, fl, fb, htk, buildSlice_one (P := Tryd.prog) (t := 26) (xt := 26) (by kernel_rfl), e]
    have ne : ∀ k, k < q + 3 → ∀ off n c z, x ≠ .sl k off n c z := fun k hk off n c z e => by have := hxb _ _ _ _ _ e; omega
    have q0 := hk3 _ _ f0 (ne _ (by omega))
    have qb := hk3 _ _ fb (ne _ (by omega))
    have q1 := hk3 _ _ f1 (ne _ (by omega))
    have q2 := hk3 _ _ f2 (ne _ (by omega))
    have qq := hk3 _ _ fx (ne _ (by omega))
    simp [qq, hat]
    refine ⟨by rw [hl3, ← hL], by rw [← hH]; rfl, by rw [Heap.get_put_other qq (by omega)]; exact q0, by rw [Heap.get_put_other qq (by omega)]; exact qb, by rw [Heap.get_put_other qq (by omega)]; exact q1,
      by rw [Heap.get_put_other qq (by omega)]; exact q2, by omega, x', Heap.get_put_same qq, ?_, fun b off n c z e => by have := hxq _ _ _ _ _ e; omega⟩
    rw [chT_succ] at ho'
    rcases ho' with ⟨rfl, h0⟩ | ⟨b, rfl, hg⟩
    · exact .inl ⟨rfl, h0⟩
    · have := hxq _ _ _ _ _ rfl
      exact .inr ⟨b, rfl, by show (H3.put q _).get b = _; rw [Heap.get_put_other qq (by omega)]; exact hg⟩
  · rintro x' h' (⟨fl, f0, fb, f1, f2, fn, x, fx, ho, hxb⟩ | hf)
    rotate_left
    · exact hf.elim
    refine ⟨_, fl.trans (by rw [← hH]; rfl), ?_⟩
    change Blk _ _ _ _ (h'.withLp none)
    simp [g2, g10, f0, fx, fieldAddrX]
    have hsn : X.snap (h'.withLp none) true 2 x = some (SL (chunks K Z (stext N data))) := Own.snap (h := h'.withLp none) (f := S) (l := chunks K Z (stext N data)) ho (fun _ => rfl)
    refine ((enc_fresh (chunks K Z (stext N data)) cm (chunks_sm (by omega) (by omega))).call (k := 2) (by simp [hsn])).then ?_
    rintro _ _ ⟨rfl, rfl⟩
    obtain ⟨y, ey, _, _, _, hfr⟩ := own_of (h'.withLp none) (encR (chunks K Z (stext N data)) cm).1 (encR (chunks K Z (stext N data)) cm).2
    simp [ey, hfr]
theorem split_callS (c : Cfg) (data : List UInt8) (hd : data.length < 2 ^ 47) (h : Heap) : CSem Tryd.prog 10 [CfA c, S data] h fun x' h' => x' = rL (splR c data).1 (splR c data).2 ∧ h' = h :=
  (split_fresh c data hd).pure.call (k := 2) (by simp [CfA])
end Go.Proofs.YtgcfmodgabeocaaDoor.X
