/-
  Contracts: strings.Join over trees; strings.Trim of one byte.
-/
import Derived.Test.YtgcfmodgabeocaaDoorE08
namespace Go.Proofs.YtgcfmodgabeocaaDoor.X
open Go.RowKit F
set_option maxRecDepth 100000
set_option linter.unusedSimpArgs false
set_option linter.unusedVariables false

theorem join_pure (l : Tab) (sep : List UInt8) (hl : l.length < 2 ^ 40) (hj : (Lib.join l sep).length ≤ 140737488355328) : CPure Tryd.prog 31 [SL l, S sep] (S (Lib.join l sep)) := by
  refine ⟨by kernel_rfl, fun I w cargs hI hc => ?_⟩
  match cargs, hc.len, hc with
  | [v, u], _, hc =>
    have hv := hc.ok 0 _ _ rfl rfl
    have hu := hc.ok 1 _ _ rfl rfl
    have hu' : u = .string ⟨sep.toArray⟩ := by cases hu; rfl
    subst hu'
    have none_case : ∀ (a : Option Addr) (c : Nat), l = [] → Calls Tryd.prog 31 #[.slice a 0 c, .string ⟨sep.toArray⟩] w fun e w' => ∃ v, e = .returned v ∧ Below w.heap.size w w' ∧ VR w' (fun B => w.heap.size ≤ B ∧ B < w'.heap.size) noMap (S (Lib.join l sep)) v := by
      intro a c h0
      refine (Tryd.strings_Join_none a c ⟨sep.toArray⟩ w).mono ?_
      rintro e w' ⟨rfl, rfl⟩
      refine ⟨_, rfl, Below.refl _ _, ?_⟩
      rw [h0]
      exact .str _
    generalize hx : SL l = x at hv
    cases hv with
    | vec0 a cap =>
      exact none_case (some a) cap (by simp [TL] at hx; exact hx)
    | vecN => exact none_case none 0 (by simp [TL] at hx; exact hx)
    | vec len xs B o cap cs e fz vs hIB hg hlc hcs hvs =>
      simp only [TL, AV.vec.injEq] at hx
      obtain ⟨rfl, rfl⟩ := hx
      have hB : B < w.heap.size := hI B hIB
      have e1 : (l.map fun x => ByteArray.mk x.toArray).map (·.data.toList) = l := by simp [Function.comp_def]
      have := Tryd.strings_Join B o cap (l.map fun x => ByteArray.mk x.toArray) ⟨sep.toArray⟩ w ?_ hB (by simp; omega) (by simpa using hlc) (by rw [e1]; exact hj)
      · simp only [List.length_map, e1] at this
        refine this.mono ?_
        rintro e' w' ⟨rfl, hb⟩
        exact ⟨_, rfl, hb, .str _⟩
      · intro j y hy
        simp only [List.getElem?_map, Option.map_eq_some_iff] at hy
        obtain ⟨z, hz, rfl⟩ := hy
        have hj' := (List.getElem?_eq_some_iff.1 hz).1
        have h1 := hcs j (by simpa using hj')
        have h2 := hvs j (by simpa using hj')
        have h3 : vs j = .string ⟨z.toArray⟩ := by
          have : (l.map S)[j]'(by simpa using hj') = S z := by
            rw [List.getElem_map, (List.getElem?_eq_some_iff.1 hz).2]
          rw [this] at h2
          generalize vs j = v0 at h2
          cases h2; rfl
        rw [h3] at h1
        unfold World.cell?
        simp [hg, h1]
    | _ => simp [SL, TL] at hx
theorem join_callS (l : Tab) (sep : List UInt8) (hl : l.length < 2 ^ 40) (hj : (Lib.join l sep).length ≤ 140737488355328) {h : Heap} {x : AV} (hx : snap h true 2 x = some (SL l)) : CSem Tryd.prog 31 [x, S sep] h fun x' h' => x' = S (Lib.join l sep) ∧ h' = h :=
  (join_pure l sep hl hj).call (k := 2) (by simp [hx])
theorem join_empty (l : Tab) : Lib.join l [] = l.flatten := by
  cases l with
  | nil => rfl
  | cons x r => rw [Lib.join_cons, Lib.joinTail]; simp

/-! Trim -/
theorem binX_B8eq {P : Program} {t : TypeId} (a b : UInt8) : binX P .eql t (B8 a) (B8 b) = some (.bool (decide (a = b))) := by
  simp only [B8]
  rw [binX_int (op := .eql) (by decide) (by decide), intX_eql]
  congr 2
  apply decide_eq_decide.2
  constructor
  · intro h; exact UInt8.toNat_inj.1 (by omega)
  · intro h; rw [h]
def trimL (c : UInt8) (s : List UInt8) : List UInt8 := s.dropWhile (· == c)
def trimR (c : UInt8) (s : List UInt8) : List UInt8 := (s.reverse.dropWhile (· == c)).reverse
theorem trimL_pure (s : List UInt8) (c : UInt8) (hs : s.length < 2 ^ 62) : CPure Tryd.prog 53 [S s, B8 c] (S (trimL c s)) := by
  refine CPure.of_sem (k := 1) ?_
  refine CSem.body hm Tryd.func53 rfl (by kernel_rfl) (by kernel_rfl) (by simp [Tryd.ntmps53]) ?_
  simp [Tryd.f53]
  refine wpc_loop (fun (t : List UInt8) r h => t.length ≤ s.length ∧ trimL c t = trimL c s ∧ rg r 0 = S t ∧ rg r 1 = B8 c) (fun t => t.length) ?_ s ?_
  · rintro t r h ⟨ht, h1, g0, g1⟩
    cases t with
    | nil =>
      have h2 : trimL c s = [] := by rw [← h1]; rfl
      simp [g0, g1, h2]
    | cons b t =>
      by_cases hb : b = c
      · subst hb
        have h2 : trimL b (b :: t) = trimL b t := by simp [trimL]
        simp [g0, g1, sliceX_S, binX_B8eq]
        simp at ht
        exact ⟨by omega, t, by omega, by omega, by rw [← h2, h1], rfl⟩
      · have h2 : trimL c (b :: t) = b :: t := by simp [trimL, hb]
        simp [g0, g1, hb, ← h1, h2, binX_B8eq]
  · exact ⟨Nat.le_refl _, rfl, by simp, by simp⟩
theorem trimL_call (s : List UInt8) (c : UInt8) (hs : s.length < 2 ^ 62) (h : Heap) : CSem Tryd.prog 53 [S s, B8 c] h fun x' h' => x' = S (trimL c s) ∧ h' = h := (trimL_pure s c hs).call (k := 1) (by simp)
theorem trimR_pure (s : List UInt8) (c : UInt8) (hs : s.length < 2 ^ 62) : CPure Tryd.prog 54 [S s, B8 c] (S (trimR c s)) := by
  refine CPure.of_sem (k := 1) ?_
  refine CSem.body hm Tryd.func54 rfl (by kernel_rfl) (by kernel_rfl) (by simp [Tryd.ntmps54]) ?_
  simp [Tryd.f54]
  refine wpc_loop (fun (t : List UInt8) r h => t.length ≤ s.length ∧ trimR c t.reverse = trimR c s ∧ rg r 0 = S t.reverse ∧ rg r 1 = B8 c) (fun t => t.length) ?_ s.reverse ?_
  · rintro t r h ⟨ht, h1, g0, g1⟩
    cases t with
    | nil =>
      have h2 : trimR c s = [] := by rw [← h1]; rfl
      simp [g0, g1, h2]
    | cons b t =>
      have hlw : IntKind.i64.wrap (t.length : Int) = (t.length : Int) := wrap64 (by omega) (by simp at ht; omega)
      by_cases hb : b = c
      · subst hb
        simp [g0, g1, sliceX_S, binX_B8eq, hlw, List.getElem?_append]
        simp at ht
        exact ⟨by omega, t, by omega, by omega, by rw [← h1]; simp [trimR], rfl⟩
      · have h2 : trimR c (b :: t).reverse = (b :: t).reverse := by simp [trimR, hb]
        rw [h2] at h1
        simp at h1
        simp [g0, g1, hb, ← h1, binX_B8eq, hlw, List.getElem?_append]
  · exact ⟨by simp, by simp, by simp, by simp⟩
theorem trimR_call (s : List UInt8) (c : UInt8) (hs : s.length < 2 ^ 62) (h : Heap) : CSem Tryd.prog 54 [S s, B8 c] h fun x' h' => x' = S (trimR c s) ∧ h' = h := (trimR_pure s c hs).call (k := 1) (by simp)
theorem trim_pure (s : List UInt8) (hs : s.length < 2 ^ 62) : CPure Tryd.prog 32 [S s, S [0]] (S (trimL 0 (trimR 0 s))) := by
  refine CPure.of_sem (k := 1) ?_
  refine CSem.body hm Tryd.func32 rfl (by kernel_rfl) (by kernel_rfl) (by simp [Tryd.ntmps32]) ?_
  by_cases h0 : s = []
  · subst h0
    simp [Tryd.f32, trimL, trimR]
  have hlt : AV.int .u8 128 = B8 128 := rfl
  have h8 : B8 0 = .int .u8 0 := rfl
  simp [Tryd.f32, h0, h8]
  refine wpc_draw 8 (by kernel_rfl) ?_
  simp [h0]
  refine QCall.use (x := S (trimR 0 s)) ((trimR_pure s 0 hs).quiet (k := 1) (fun _ => by simp)) ?_
  simp
  refine QCall.use (x := S (trimL 0 (trimR 0 s))) ((trimL_pure _ 0 (by simp [trimR]; have := (List.dropWhile_suffix (fun x => x == (0 : UInt8)) (l := s.reverse)).length_le; simp at this; omega)).quiet (k := 1) (fun _ => by simp)) ?_
  simp
theorem trim_call (s : List UInt8) (hs : s.length < 2 ^ 62) (h : Heap) : CSem Tryd.prog 32 [S s, S [0]] h fun x' h' => x' = S (trimL 0 (trimR 0 s)) ∧ h' = h := (trim_pure s hs).call (k := 1) (by simp)
theorem dropW_nil {α : Type} (p : α → Bool) : ∀ l : List α, l.dropWhile p = [] ↔ ∀ x ∈ l, p x = true
  | [] => by simp
  | a :: l => by
    by_cases h : p a = true
    · rw [List.dropWhile_cons_of_pos h, dropW_nil p l]
      simp [h]
    · rw [List.dropWhile_cons_of_neg h]
      simp [h]
theorem takeW_mem {α : Type} (p : α → Bool) : ∀ (l : List α) (x : α), x ∈ l.takeWhile p → p x = true
  | [], x, h => by simp at h
  | a :: l, x, h => by
    by_cases ha : p a = true
    · rw [List.takeWhile_cons_of_pos ha] at h
      rcases List.mem_cons.1 h with rfl | h
      · exact ha
      · exact takeW_mem p l x h
    · rw [List.takeWhile_cons_of_neg ha] at h
      cases h
theorem trim_nil (s : List UInt8) : trimL 0 (trimR 0 s) = [] ↔ ∀ b ∈ s, b = 0 := by
  constructor
  · intro h b hb
    have h1 : ∀ x ∈ trimR 0 s, x = 0 := by
      intro x hx
      have := (dropW_nil _ _).1 h x hx
      simpa using this
    by_cases hz : b = 0
    · exact hz
    · have : b ∈ trimR 0 s := by
        simp only [trimR, List.mem_reverse]
        have hbr : b ∈ s.reverse := by simpa using hb
        rw [← List.takeWhile_append_dropWhile (p := fun x => x == (0 : UInt8)) (l := s.reverse)] at hbr
        rcases List.mem_append.1 hbr with h2 | h2
        · have := takeW_mem _ _ _ h2
          exact (hz (by simpa using this)).elim
        · exact h2
      exact h1 b this
  · intro h
    have : trimR 0 s = [] := by
      simp only [trimR, List.reverse_eq_nil_iff]
      exact (dropW_nil _ _).2 (fun x hx => by simpa using h x (by simpa using hx))
    rw [this]; rfl
end Go.Proofs.YtgcfmodgabeocaaDoor.X
