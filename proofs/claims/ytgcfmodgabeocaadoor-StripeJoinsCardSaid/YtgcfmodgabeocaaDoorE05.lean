/-
  Contracts: slices.Chunk (of bytes); appending zeros.
-/
import Derived.Test.YtgcfmodgabeocaaDoorE04
import Derived.Test.YtgcfmodgabeocaaDoorC26
namespace Go.Proofs.YtgcfmodgabeocaaDoor.X
open Go.RowKit F
set_option maxRecDepth 100000
set_option linter.unusedSimpArgs false
set_option linter.unusedVariables false

theorem appendX_lp {P : Program} {h h' : Heap} {t xt : TypeId} {s x y : AV} (hx : appendX P h t xt s x = some (y, h')) : h'.lp = h.lp := by
  have apz : ∀ {e xt : TypeId} {z b : Nat} {s x y : AV} {h' : Heap}, appendZ P h e xt z b s x = some (y, h') → h'.lp = h.lp := by
    intro e xt z b s x y h' hx
    unfold appendZ appToX at hx
    repeat' split at hx
    all_goals first | (cases hx; done) | (cases hx; rfl) | skip
    all_goals
      simp only [Option.map_eq_some_iff] at hx
      obtain ⟨cs', _, e⟩ := hx
      cases e
      rfl
  unfold appendX at hx
  repeat' split at hx
  all_goals first | (cases hx; done) | (cases hx; rfl) | exact apz hx | skip
  all_goals
    simp only [Option.map_eq_some_iff] at hx
    obtain ⟨cs', _, e⟩ := hx
    cases e
    rfl
/-- May zeros be appended? -/
def apZ (P : Program) (t xt : TypeId) : Bool := match elT P t with
  | some e => (match szT P e with | some z => z == 1 | none => false) && (intT P xt).isSome && (match byT P e with | some b => decide (b ≤ 64) | none => false) && (match zeroAV P e with | some (.int .u8 n) => n == 0 | _ => false)
  | none => false
theorem append_zeros {P : Program} {t xt : TypeId} (ha : apZ P t xt = true) {h : Heap} {b : Nat} {l : List UInt8} (hb : h.get b = some (l.map B8)) (z : Nat) (hz : z < 2 ^ 36) (hl : l.length < 2 ^ 36) :
    ∃ b' h', appendX P h t xt (.sl b 0 l.length l.length 1) (.int .i64 (z : Int)) = some (.sl b' 0 (l.length + z) (l.length + z) 1, h') ∧ h'.get b' = some ((l ++ List.replicate z 0).map B8) ∧ h.next ≤ h'.next ∧ (b' = b ∨ b' = h.next) ∧
      ∀ k zs, h.get k = some zs → k ≠ b → h'.get k = some zs := by
  unfold apZ at ha
  split at ha
  · rename_i e he
    simp only [Bool.and_eq_true] at ha
    obtain ⟨⟨⟨h1, h2⟩, h3⟩, h4⟩ := ha
    split at h1
    · rename_i z1 hz1
      have hz1' : z1 = 1 := by simpa using h1
      subst hz1'
      split at h3
      · rename_i by1 hby
        have hby64 : by1 ≤ 64 := by simpa using h3
        split at h4
        · rename_i n hza
          have hn : n = 0 := by simpa using h4
          subst hn
          obtain ⟨k, hk⟩ := Option.isSome_iff_exists.1 h2
          have hzs : ∀ n, zerosX P e n = some (List.replicate n (B8 0)) := by
            intro n
            simp only [zerosX, hza, AV.cells, B8]
            rw [flat_one]
            rfl
          have hmb : (z : Int) * (by1 : Int) ≤ 2 ^ 47 := by
            have : z * by1 ≤ 2 ^ 36 * 64 := Nat.mul_le_mul (by omega) hby64
            have : ((z * by1 : Nat) : Int) ≤ 2 ^ 47 := by omega
            push_cast at this
            exact this
          have hz40 : (z : Int) ≤ 2 ^ 40 := by omega
          have hall : (List.replicate z (B8 0)).all AV.atom = true := by simp
          have hun : (AV.int .i64 (z : Int)).len? = none := rfl
          by_cases h0 : z = 0
          · subst h0
            refine ⟨b, h.put b (l.map B8), ?_, by simpa using Heap.get_put_same hb, Nat.le_refl _, .inl rfl, fun k zs hk hkb => by rw [Heap.get_put_other hb hkb]; exact hk⟩
            have hp : putN (l.map B8) l.length [] = some (l.map B8) := by simp [putN, List.take_of_length_le]
            simp [appendX, elT_und he, hz1, hby, show (AV.int .i64 0).len? = none from rfl, appendZ, intT_und hk, hzs, appToX, hb, hp]
          · refine ⟨h.next, (h.kill b).alloc ((l ++ List.replicate z 0).map B8), ?_, Heap.get_alloc_same (h.kill b) _, by simp, .inr rfl, fun k zs hk hkb => ?_⟩
            · have hlb : (l.length + z) * by1 ≤ 2 ^ 47 := by
                have : (l.length + z) * by1 ≤ 2 ^ 37 * 64 := Nat.mul_le_mul (by omega) hby64
                omega
              have hlz : l.length + z ≤ 2 ^ 47 := by omega
              have hgt : ¬ (l.length + z ≤ l.length) := by omega
              have ht : takeN (l.map B8) 0 l.length = some (l.map B8) := takeN_all (by simp)
              simp only [appendX, elT_und he, hz1, hby, hun, appendZ, intT_und hk, hzs, appToX, hb]
              simp [h0, hlb, hlz, ht]
              refine ⟨⟨by omega, by omega⟩, by omega⟩
            · have : (h.kill b).get k = some zs := by rw [Heap.get_kill, if_neg hkb, hk]
              exact Heap.get_alloc_old this
        · cases h4
      · cases h3
    · cases h1
  · cases ha

@[simp] theorem wpI_min2 {P : Program} {x y : Operand} {ts : Array TypeId} {dst : Option Tmp} {K : Regs → Heap → Prop} {r : Regs} {h : Heap} : wpI P (.call ⟨.builtin .min, #[x, y], ts⟩) dst K r h = Has (evalX r x) fun x => Has (evalX r y) fun y => Has (min2X x y) fun v => K (dputX r dst v) h := by
  simp only [wpI, calleeX, opB, spO, ghO, or_false, Gives_eq, Has_eq, Gives0_map, Gives0_bind, evalsX]
  cases evalX r x with
  | none => simp
  | some x => cases evalX r y with
    | none => simp
    | some y => simp [Gives0_map]
@[simp] theorem min2X_int {k : IntKind} {a b : Int} : min2X (.int k a) (.int k b) = some (.int k (if b < a then b else a)) := by simp [min2X]
theorem sliceX_sl3 {P : Program} {t : TypeId} {b off n c z : Nat} {lo hi m : AV} (hz : (elT P t).bind (szT P) = some z) :
    sliceX P t (.sl b off n c z) (some lo) (some hi) (some m) = (boundX c (some m) c).bind fun m => (boundX m (some hi) n).bind fun h => (boundX h (some lo) 0).map fun l => if m = l then .emp else .sl b (off + l * z) (h - l) (m - l) z := by
  obtain ⟨e, he, hz⟩ := Option.bind_eq_some_iff.1 hz
  simp only [sliceX, elT_und he, hz]
  simp
  cases boundX c (some m) c with
  | none => rfl
  | some m =>
    simp only [Option.bind_some]
    cases boundX m (some hi) n with
    | none => rfl
    | some h =>
      simp only [Option.bind_some]
      cases boundX h (some lo) 0 with
      | none => rfl
      | some l =>
        simp only [Option.map_some]
        split <;> rfl
theorem chunkB_sem (x : AV) (hx : x.atom = true) (n : Int) (hn : 1 ≤ n) (h : Heap) : CSem Tryd.prog 24 [x, .int .i64 n] h fun x' h' => x' = .fn 41 [] [.ptr h.next 0, .ptr (h.next + 1) 0] ∧ h' = (h.alloc [x]).alloc [.int .i64 n] := by
  refine CSem.body hm Tryd.func24 rfl (by kernel_rfl) (by kernel_rfl) (by simp [Tryd.ntmps24]) ?_
  simp [Tryd.f24, atom_cells hx, hx, Heap.get_alloc, show ¬ n < 1 by omega]
theorem chunkB_iter {id : Nat} {p1 p2 sb K sh : Nat} (hsh : 1 ≤ sh) (hn : K * sh < 2 ^ 36) (J : Nat → Heap → Prop) (D : Heap → Prop)
    (hJ : ∀ i h, J i h → h.get p1 = some [.sl sb 0 (K * sh) (K * sh) 1] ∧ h.get p2 = some [.int .i64 (sh : Int)])
    (hstep : ∀ i h, i < K → J i h → YSem Tryd.prog id [.sl sb (i * sh) sh sh 1] h fun v h' => (v = .bool true ∧ J (i + 1) h') ∨ (v = .bool false ∧ D h')) {h : Heap} (h0 : J 0 h) :
    CSem Tryd.prog 41 [.yld id, .ptr p1 0, .ptr p2 0] h fun _ h' => J K h' ∨ D h' := by
  refine CSem.body hm Tryd.func41 rfl (by kernel_rfl) (by kernel_rfl) (by simp [Tryd.ntmps41]) ?_
  generalize hN : K * sh = N at hn hJ
  simp [Tryd.f41]
  refine wpc_loop (fun (i : Nat) r h => i ≤ K ∧ rg r 0 = .yld id ∧ rg r 1 = .ptr p1 0 ∧ rg r 2 = .ptr p2 0 ∧ (∃ p : Nat, p = i * sh ∧ rg r 4 = .int .i64 (p : Int)) ∧ J i h) (K - ·) ?_ 0 ?_
  · rintro i r h ⟨hi, g0, g1, g2, ⟨p, hp, g4⟩, hj⟩
    obtain ⟨k1, k2⟩ := hJ _ _ hj
    rcases Nat.lt_or_eq_of_le hi with hlt | heq
    · have hps : p + sh ≤ N := by
        have : (i + 1) * sh ≤ K * sh := Nat.mul_le_mul_right _ hlt
        rw [Nat.add_mul, Nat.one_mul] at this
        omega
      have hpn : p < N := by omega
      have hmn : ¬ ((N : Int) - p < sh) := by omega
      have hst := hstep i h hlt hj
      rw [← hp] at hst
      simp [g0, g1, g2, g4, k1, k2, hpn]
      refine wpc_draw 7 (by kernel_rfl) ?_
      simp [g0, g1, g2, g4, k1, k2, sliceX_sl, hpn, show p ≤ N by omega, show ((N - p : Nat) : Int) = (N : Int) - p by omega, hmn]
      have hw : IntKind.i64.wrap ((p : Int) + sh) = ((p + sh : Nat) : Int) := by rw [wrap64 (by omega) (by omega)]; omega
      have hs3 : sliceX Tryd.prog 45 (.sl sb 0 N N 1) (some (.int .i64 (p : Int))) (some (.int .i64 ((p + sh : Nat) : Int))) (some (.int .i64 ((p + sh : Nat) : Int))) = some (.sl sb p sh sh 1) := by
        rw [sliceX_sl3 (z := 1) (by simp)]
        have e1 : ((p + sh : Nat) : Int) ≤ (N : Int) := by omega
        have e2 : (p : Int) ≤ ((p + sh : Nat) : Int) := by omega
        have e3 : ¬ (p + sh = p) := by omega
        simp only [boundX_some, Option.bind_some]
        rw [if_pos ⟨by omega, e1⟩]
        simp only [Option.bind_some, Int.toNat_natCast]
        rw [if_pos ⟨by omega, Int.le_refl _⟩]
        simp only [Option.bind_some, Int.toNat_natCast]
        rw [if_pos ⟨by omega, e2⟩]
        simp only [Option.map_some, Int.toNat_natCast]
        rw [if_neg e3]
        congr 2 <;> omega
      rw [hw, hs3]
      simp
      refine YSem.mono hst ?_
      rintro v h' (⟨rfl, hj'⟩ | ⟨rfl, hd⟩)
      · obtain ⟨k1', k2'⟩ := hJ _ _ hj'
        simp [g0, g1, g2, g4, k1', k2', hw]
        refine ⟨i + 1, by omega, by omega, ?_, hj'⟩
        rw [hp]; push_cast; rw [Int.add_mul, Int.one_mul]
      · simp [g0, g1, g2, g4, hd]
    · have hpn : p = N := by rw [hp, heq, hN]
      subst heq
      simp [g0, g1, g2, g4, k1, k2, hpn, hj]
  · exact ⟨by omega, by simp, by simp, by simp, ⟨0, by simp, by simp⟩, h0⟩
end Go.Proofs.YtgcfmodgabeocaaDoor.X
