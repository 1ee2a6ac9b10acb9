/- What the operations of layer 15 compute. -/
import Derived.Test.YtchkbidekmaaiaaE
namespace Go.Proofs.Ytchkbidekmaaiaa
open Go.RowKit
def fl (p : Bool) : Int := if p then 1 else 0
theorem fl_bd (p : Bool) : 0 ≤ fl p ∧ fl p ≤ 1 := by cases p <;> decide
def hs (a b : Int) : Int := bits .xor .u32 (bits .xor .u32 a (b * 2654435761 % 4294967296) * 2246822519 % 4294967296) (bits .xor .u32 a (b * 2654435761 % 4294967296) * 2246822519 % 4294967296 / 65536)
def apV (op a b : Int) : Int :=
  if op = 8 then (a + b) % 4294967296 else
  if op = 9 then (a - b) % 4294967296 else
  if op = 10 then a * b % 4294967296 else
  if op = 11 then a / b else
  if op = 12 then a % b else
  if op = 13 then bits .and .u32 a b else
  if op = 14 then bits .or .u32 a b else
  if op = 15 then bits .xor .u32 a b else
  if op = 16 then a * 2 ^ (b % 32).toNat % 4294967296 else
  if op = 17 then a / 2 ^ (b % 32).toNat else
  if op = 18 then min a b else
  if op = 19 then max a b else
  if op = 20 then hs a b else
  if op = 21 then fl (a == b) else
  if op = 22 then fl (decide (a < b)) else
  if op = 23 then fl (a == 0) else
  if op = 24 then fl (a != 0 && b != 0) else
  if op = 25 then fl (a != 0 || b != 0) else
  if op = 26 then fl (a != 0) else
  0
theorem apV_8 (a b : Int) : apV 8 a b = (a + b) % 4294967296 := by unfold apV; (repeat rw [if_neg (by decide)]); rw [if_pos rfl]
theorem apV_9 (a b : Int) : apV 9 a b = (a - b) % 4294967296 := by unfold apV; (repeat rw [if_neg (by decide)]); rw [if_pos rfl]
theorem apV_10 (a b : Int) : apV 10 a b = a * b % 4294967296 := by unfold apV; (repeat rw [if_neg (by decide)]); rw [if_pos rfl]
theorem apV_11 (a b : Int) : apV 11 a b = a / b := by unfold apV; (repeat rw [if_neg (by decide)]); rw [if_pos rfl]
theorem apV_12 (a b : Int) : apV 12 a b = a % b := by unfold apV; (repeat rw [if_neg (by decide)]); rw [if_pos rfl]
theorem apV_13 (a b : Int) : apV 13 a b = bits .and .u32 a b := by unfold apV; (repeat rw [if_neg (by decide)]); rw [if_pos rfl]
theorem apV_14 (a b : Int) : apV 14 a b = bits .or .u32 a b := by unfold apV; (repeat rw [if_neg (by decide)]); rw [if_pos rfl]
theorem apV_15 (a b : Int) : apV 15 a b = bits .xor .u32 a b := by unfold apV; (repeat rw [if_neg (by decide)]); rw [if_pos rfl]
theorem apV_16 (a b : Int) : apV 16 a b = a * 2 ^ (b % 32).toNat % 4294967296 := by unfold apV; (repeat rw [if_neg (by decide)]); rw [if_pos rfl]
theorem apV_17 (a b : Int) : apV 17 a b = a / 2 ^ (b % 32).toNat := by unfold apV; (repeat rw [if_neg (by decide)]); rw [if_pos rfl]
theorem apV_18 (a b : Int) : apV 18 a b = min a b := by unfold apV; (repeat rw [if_neg (by decide)]); rw [if_pos rfl]
theorem apV_19 (a b : Int) : apV 19 a b = max a b := by unfold apV; (repeat rw [if_neg (by decide)]); rw [if_pos rfl]
theorem apV_20 (a b : Int) : apV 20 a b = hs a b := by unfold apV; (repeat rw [if_neg (by decide)]); rw [if_pos rfl]
theorem apV_21 (a b : Int) : apV 21 a b = fl (a == b) := by unfold apV; (repeat rw [if_neg (by decide)]); rw [if_pos rfl]
theorem apV_22 (a b : Int) : apV 22 a b = fl (decide (a < b)) := by unfold apV; (repeat rw [if_neg (by decide)]); rw [if_pos rfl]
theorem apV_23 (a b : Int) : apV 23 a b = fl (a == 0) := by unfold apV; (repeat rw [if_neg (by decide)]); rw [if_pos rfl]
theorem apV_24 (a b : Int) : apV 24 a b = fl (a != 0 && b != 0) := by unfold apV; (repeat rw [if_neg (by decide)]); rw [if_pos rfl]
theorem apV_25 (a b : Int) : apV 25 a b = fl (a != 0 || b != 0) := by unfold apV; (repeat rw [if_neg (by decide)]); rw [if_pos rfl]
theorem apV_26 (a b : Int) : apV 26 a b = fl (a != 0) := by unfold apV; (repeat rw [if_neg (by decide)]); rw [if_pos rfl]
/-- Apply: the result and the error. -/
def apF (op a b : Int) : Int × Int := if op < 8 ∨ 26 < op then (0, 1) else if b = 0 ∧ (op = 11 ∨ op = 12) then (0, 17) else (apV op a b, 0)
theorem apF_out {op a b : Int} (h : op < 8 ∨ 26 < op) : apF op a b = (0, 1) := by unfold apF; exact if_pos h
theorem apF_div {op a b : Int} (hb : b = 0) (h : op = 11 ∨ op = 12) : apF op a b = (0, 17) := by unfold apF; rw [if_neg (by omega), if_pos ⟨hb, h⟩]
theorem apF_in {op a b : Int} (h0 : 8 ≤ op) (h1 : op ≤ 26) (h : b ≠ 0 ∨ (op ≠ 11 ∧ op ≠ 12)) : apF op a b = (apV op a b, 0) := by unfold apF; rw [if_neg (by omega), if_neg (by omega)]
end Go.Proofs.Ytchkbidekmaaiaa
