/-
  Mathematics: numbers as bytes, the least first.
-/
import Derived.Test.YtgcfmodgabeocaaDoorFA
namespace Go.Proofs.YtgcfmodgabeocaaDoor.F
/-- A number's bytes. -/
def le (n : Nat) : Nat → List UInt8
  | 0 => []
  | k + 1 => UInt8.ofNat (n % 256) :: le (n / 256) k
/-- The number of bytes. -/
def unle : List UInt8 → Nat
  | [] => 0
  | b :: l => b.toNat + 256 * unle l
@[simp] theorem le_length : ∀ (k n : Nat), (le n k).length = k
  | 0, _ => rfl
  | k + 1, n => by simp [le, le_length k]
theorem unle_lt : ∀ l : List UInt8, unle l < 256 ^ l.length
  | [] => by simp [unle]
  | b :: l => by
    have h1 := unle_lt l
    have h2 : b.toNat < 256 := b.toNat_lt
    simp only [unle, List.length_cons, Nat.pow_succ]
    omega
theorem unle_le : ∀ (k n : Nat), n < 256 ^ k → unle (le n k) = n
  | 0, n, h => by simp at h; simp [le, unle, h]
  | k + 1, n, h => by
    have h1 : n / 256 < 256 ^ k := by
      rw [Nat.pow_succ] at h
      omega
    simp only [le, unle, unle_le k _ h1, UInt8.toNat_ofNat']
    omega
theorem le_unle : ∀ l : List UInt8, le (unle l) l.length = l
  | [] => rfl
  | b :: l => by
    have h2 : b.toNat < 256 := b.toNat_lt
    simp only [unle, List.length_cons, le]
    rw [show (b.toNat + 256 * unle l) % 256 = b.toNat by omega, show (b.toNat + 256 * unle l) / 256 = unle l by omega, le_unle l]
    simp
theorem le_append : ∀ (k n : Nat), le n (k + 1) = le n k ++ [UInt8.ofNat (n / 256 ^ k % 256)]
  | 0, n => by simp [le]
  | k + 1, n => by
    rw [le, le_append k (n / 256), le, Nat.div_div_eq_div_mul, Nat.pow_succ, Nat.mul_comm]
    rfl
theorem le_get (k n i : Nat) (hi : i < k) : (le n k)[i]? = some (UInt8.ofNat (n / 256 ^ i % 256)) := by
  induction k generalizing n i with
  | zero => omega
  | succ k ih =>
    cases i with
    | zero => simp [le]
    | succ i =>
      simp only [le, List.getElem?_cons_succ]
      rw [ih _ _ (by omega), Nat.div_div_eq_div_mul, Nat.pow_succ, Nat.mul_comm]
theorem unle_append (l : List UInt8) (b : UInt8) : unle (l ++ [b]) = unle l + 256 ^ l.length * b.toNat := by
  induction l with
  | nil => simp [unle]
  | cons a l ih =>
    simp only [List.cons_append, unle, ih, List.length_cons, Nat.pow_succ]
    rw [Nat.mul_add, ← Nat.mul_assoc, Nat.mul_comm 256 (256 ^ l.length)]
    omega
/-- What is left of a number when so many bytes are taken. -/
def dv (n i : Nat) : Nat := n / 256 ^ i
theorem dv_zero (n : Nat) : dv n 0 = n := by simp [dv]
theorem dv_succ (n i : Nat) : dv n i / 256 = dv n (i + 1) := by simp only [dv]; rw [Nat.div_div_eq_div_mul, ← Nat.pow_succ]
theorem dv_le (n i : Nat) : dv n i ≤ n := Nat.div_le_self _ _
theorem dv_pos {n i : Nat} : 0 < dv n i ↔ 256 ^ i ≤ n := by
  have hp : 0 < 256 ^ i := Nat.pow_pos (by omega)
  simp only [dv]
  constructor
  · intro h
    rcases Nat.lt_or_ge n (256 ^ i) with h1 | h1
    · rw [Nat.div_eq_of_lt h1] at h; omega
    · exact h1
  · intro h; exact Nat.div_pos h hp
end Go.Proofs.YtgcfmodgabeocaaDoor.F
