/- Layer 35: the chapter's examples. -/
import Derived.Test.YtjfdmhdmadnkoaaLu
import Derived.Test.YtjfdmhdmadnkoaaLw
import Derived.Lib.SlBytesConst
import Derived.Lib.SmallJoins
namespace Go.Proofs.Ytjfdmhdmadnkoaa
open Go.RowKit
set_option linter.unusedVariables false
attribute [local go_sem ↓] Go.wp_at_zero Go.wp_at_succ

theorem rd_litG (w : World) (t : TypeId) (fr : Nat × Nat) (sz n : Nat) (cs : List Value) (hc : cs.length = n * sz) (hn : n ≤ 1000) (hz : 0 < sz) : Rd (w.alloc (.cells cs.toArray t fr)) sz (.slice (some ⟨w.heap.size, 0, none⟩) n n) n cs := by
  refine ⟨hc, some ⟨w.heap.size, 0, none⟩, n, rfl, Nat.le_refl _, by unfold maxLen; omega, (fun e => by cases e), fun _ => ⟨w.heap.size, 0, rfl, by simp, fun j hj => ?_⟩⟩
  rw [Nat.zero_add, World.cell?_alloc_mark]
  simp [List.getD, hj]
def exL : List (Int × Int × Int) := [(0, 0, 97), (0, 0, 98), (5, 2, 0)]
theorem exL_ok : OkTs exL := by
  intro x hx
  simp [exL] at hx
  rcases hx with rfl | rfl | rfl <;> exact ⟨⟨by decide, by decide⟩, ⟨by decide, by decide⟩, by decide, by decide⟩
theorem lev1 : expF exL = (0, [97, 98, 97, 98, 97, 98, 97]) := by decide +kernel
theorem lev2 : encF exL = (0, [48, 152, 164, 64]) := by decide +kernel
theorem lev3 : grF [97, 97, 97, 97] = (0, [(0, 0, 97), (3, 1, 0)]) := by decide +kernel
theorem lev4 : decF [0] = (9, []) := by decide +kernel
theorem lev5 : decF [48, 152] = (9, []) := by decide +kernel
theorem lev6 : prc (0, 0, 97) = 9 := by decide +kernel
theorem lev7 : prc (5, 2, 0) = 9 := by decide +kernel
theorem lev8 : prc (3, 1, 0) = 5 := by decide +kernel
theorem by4 : Bytes [97, 97, 97, 97] := by intro x hx; simp at hx; omega
theorem by1 : Bytes [0] := by intro x hx; simp at hx; omega
theorem by2 : Bytes [48, 152] := by intro x hx; simp at hx; omega
theorem str1 : strOfNums [97, 98, 97, 98, 97, 98, 97] = ⟨#[97, 98, 97, 98, 97, 98, 97]⟩ := by rfl
theorem str2 : strOfNums [48, 152, 164, 64] = ⟨#[48, 152, 164, 64]⟩ := by rfl

end Go.Proofs.Ytjfdmhdmadnkoaa
