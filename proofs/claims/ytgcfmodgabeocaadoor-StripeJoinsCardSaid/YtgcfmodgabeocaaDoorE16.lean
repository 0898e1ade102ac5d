/-
  Mathematics of a stripe's text: its chunks make it up again, and it tells its data.
-/
import Derived.Test.YtgcfmodgabeocaaDoorE15
namespace Go.Proofs.YtgcfmodgabeocaaDoor.X
open Go.RowKit F
set_option linter.unusedSimpArgs false
set_option linter.unusedVariables false

theorem chunks_flat {k sh : Nat} {t : List UInt8} : (chunks k sh t).flatten = t.take (k * sh) := by
  induction k with
  | zero => simp [chunks]
  | succ k ih =>
    have e : chunks (k + 1) sh t = chunks k sh t ++ [chunk sh t k] := by simp [chunks, List.range_succ]
    rw [e, List.flatten_append, ih]
    simp only [List.flatten_cons, List.flatten_nil, List.append_nil, chunk]
    rw [Nat.add_mul, Nat.one_mul, List.take_add]
theorem stext_cut {n : Nat} {data : List UInt8} (h : data.length < 2 ^ 32) : cutR (stext n data) 4 = ((data.length : Int), data ++ List.replicate (n - 4 - data.length) 0, 0) := by
  have hP : CutP (stext n data) 4 := ⟨by omega, by omega⟩
  have hl : ¬ (stext n data).length < (4 : Int).toNat := by simp [stext]
  have e4 : (4 : Int).toNat = 4 := rfl
  unfold cutR
  rw [if_pos hP, if_neg hl]
  simp only [e4]
  have h1 : (stext n data).take 4 = le data.length 4 := by
    rw [stext, List.append_assoc, List.take_append_of_le_length (by simp)]
    rw [List.take_of_length_le (by simp)]
  have h2 : (stext n data).drop 4 = data ++ List.replicate (n - 4 - data.length) 0 := by
    rw [stext, List.append_assoc, List.drop_append_of_le_length (by simp), List.drop_of_length_le (by simp)]
    rfl
  rw [h1, h2, unle_le 4 _ (by omega)]
theorem spl_flat {c : Cfg} {data : List UInt8} (hC : ConfP c) (hcap : ¬ confCap c < data.length) : (splL c data).flatten = stext (c.k.toNat * c.sh.toNat) data := by
  rw [cap_nat hC] at hcap
  rw [splL, chunks_flat, List.take_of_length_le (by rw [stext_len (by omega)]; omega)]
theorem cap_small {c : Cfg} {data : List UInt8} (hC : ConfP c) (hcap : ¬ confCap c < data.length) : data.length < 2 ^ 32 := by
  have hn := conf_nat hC
  have hKZ : c.k.toNat * c.sh.toNat ≤ 255 * 1024 := Nat.mul_le_mul hn.2.2.2.2.1 hn.2.2.2.2.2.2.1
  rw [cap_nat hC] at hcap
  omega
/-- What goes in comes out. -/
theorem txt_spl {c : Cfg} {data : List UInt8} (hC : ConfP c) (hcap : ¬ confCap c < data.length) : txtD (splL c data) = (data, 0) := by
  have hr := stext_cut (n := c.k.toNat * c.sh.toNat) (cap_small hC hcap)
  simp only [txtD, spl_flat hC hcap, hr]
  rw [if_neg (by rw [List.length_append]; omega), if_pos]
  · simp
  · intro b hb
    simp at hb
    exact hb.2
/-- Texts that are not the same have unlike shards. -/
theorem spl_inj {c : Cfg} {a b : List UInt8} (hC : ConfP c) (ha : ¬ confCap c < a.length) (hb : ¬ confCap c < b.length) : splL c a = splL c b ↔ a = b := by
  constructor
  · intro h
    have h1 := txt_spl hC ha
    rw [h, txt_spl hC hb] at h1
    exact (Prod.mk.inj h1).1.symm
  · rintro rfl; rfl
end Go.Proofs.YtgcfmodgabeocaaDoor.X
