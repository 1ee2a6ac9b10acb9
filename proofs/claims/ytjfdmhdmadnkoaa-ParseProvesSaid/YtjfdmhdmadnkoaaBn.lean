/- The law BitsCodes: the walk. -/
import Derived.Test.YtjfdmhdmadnkoaaBm
namespace Go.Proofs.Ytjfdmhdmadnkoaa
open Go.RowKit
set_option linter.unusedVariables false
attribute [local go_sem ↓] Go.wp_at_zero Go.wp_at_succ

def u32s (l : List Int) : List Value := l.map (Value.int .u32)
def RdU (w : World) (v : Value) (l : List Int) : Prop := Rd w 1 v l.length (u32s l)
theorem RdU.at {w : World} {b off n cap : Nat} {l : List Int} (h : RdU w (.slice (some ⟨b, off, none⟩) n cap) l) (i : Nat) (hi : i < l.length) : w.cell? ⟨b, off + i, none⟩ = some (.int .u32 (l.getD i 0)) := by
  obtain ⟨_, a', cap', h2, _, _, _, h6⟩ := h
  simp only [Value.slice.injEq] at h2
  obtain ⟨rfl, -, rfl⟩ := h2
  obtain ⟨b', off', e, -, hc⟩ := h6 (by omega)
  simp only [Option.some.injEq, Addr.mk.injEq, and_true] at e
  obtain ⟨rfl, rfl⟩ := e
  rw [hc i (by simp [u32s]; exact hi)]
  simp [u32s, List.getD, hi]
theorem RdU.some {w : World} {a : Option Addr} {n cap : Nat} {l : List Int} (h : RdU w (.slice a n cap) l) (hn : 0 < l.length) : ∃ b off, a = Option.some ⟨b, off, none⟩ := by
  obtain ⟨_, a', cap', h2, _, _, _, h6⟩ := h
  simp only [Value.slice.injEq] at h2
  obtain ⟨rfl, -, rfl⟩ := h2
  obtain ⟨b', off', e, -, -⟩ := h6 hn
  exact ⟨b', off', e⟩
theorem cAt_bytes (l : List Int) (k : Nat) : Bytes (pshs [] 0 (cAt l k)) := (WF.pshs WF.nil (codes_01 (l.take k))).bytes
theorem cAt_dlen (l : List Int) (k : Nat) (hl : l.length ≤ 20) : (pshs [] 0 (cAt l k)).length ≤ 200 := by
  have h1 := pshs_len WF.nil (codes_01 (l.take k))
  have h2 := cAt_len l k hl
  have h3 : (pshs [] 0 (cAt l k)).length = (0 + (cAt l k).length + 7) / 8 := h1
  omega

end Go.Proofs.Ytjfdmhdmadnkoaa
