/- The decoder's inner functions. -/
import Derived.Test.YtnodnfmgklkjeaaCe
import Derived.Laws.BitsAllLaws
namespace Go.Proofs.Ytnodnfmgklkjeaa
open Go.RowKit
set_option linter.unusedVariables false
attribute [local go_sem ↓] Go.wp_at_zero Go.wp_at_succ

/-- A slice without its first element. -/
theorem Rd8.tail {w : World} {b off n cap : Nat} {x : Int} {l : List Int} (h : Rd8 w (.slice (some ⟨b, off, none⟩) (n + 1) cap) (x :: l)) (hn : l.length = n) (hcap : n + 1 ≤ cap) (hm : cap ≤ maxLen) :
    ∀ a', (0 < n → a' = some ⟨b, off + 1, none⟩) → (a' = none → cap - 1 = 0) → Rd8 w (.slice a' n (cap - 1)) l := by
  intro a' ha hz
  unfold Rd8
  rw [hn]
  refine ⟨by simp [bs, hn], a', cap - 1, rfl, by omega, by omega, hz, fun h0 => ⟨b, off + 1, ha h0, ?_⟩⟩
  obtain ⟨b', off', e, hb, hc⟩ := Rd.cells (show Rd w 1 (.slice (some ⟨b, off, none⟩) (n + 1) cap) (n + 1) (bs (x :: l)) by have := h; unfold Rd8 at this; rw [List.length_cons, hn] at this; exact this) (by omega)
  simp only [Option.some.injEq, Addr.mk.injEq, and_true] at e
  obtain ⟨rfl, rfl⟩ := e
  refine ⟨hb, fun j hj => ?_⟩
  have := hc (j + 1) (by simp [bs] at hj ⊢; omega)
  rw [show off + 1 + j = off + (j + 1) by omega, this]
  simp [bs]

set_option maxHeartbeats 400000 in
theorem next_any (p : Nat) (x y v : Value) (l : List Int) (hb : Bytes l) (hpg : 0 < l.length → v.ownBlock ≠ some p) (w : World) (hB : Blk w p 83 [x, y, v]) (hR : Rd8 w v l) :
    Calls Try.prog 53 #[.pointer (some ⟨p, 0, none⟩)] w fun e w' =>
      e = .returned (.int .u8 (l.headD 0)) ∧ ∃ v', Blk w' p 83 [x, y, v'] ∧ Rd8 w' v' l.tail ∧ (0 < l.tail.length → v'.ownBlock ≠ some p) ∧ Chg [p] w w' := by
  obtain ⟨a, cap, rfl, h1, h2, h3⟩ := Rd.shape hR
  have hc2 := hB.cell 2 _ rfl
  have hf2 := hB.frozen 2
  cases l with
  | nil =>
    have hc2' : w.cell? ⟨p, 2, none⟩ = some (.slice a 0 cap) := hc2
    clear hc2
    go_enter Try.func53, Try.ntmps53
    go_wp2_with fail
    go_ret
    exact ⟨ret_int rfl, _, hB, hR, hpg, Chg.refl _ _⟩
  | cons z l =>
    obtain ⟨n, hn⟩ : ∃ n, l.length = n := ⟨_, rfl⟩
    have hR' : Rd w 1 (.slice a (n + 1) cap) (n + 1) (bs (z :: l)) := by have := hR; unfold Rd8 at this; rw [List.length_cons, hn] at this; exact this
    rw [List.length_cons, hn] at h1 hB hc2 hpg hR
    obtain ⟨b, off, rfl, hbl, hcl⟩ := hR'.cells (by omega)
    have hc0 : w.cell? ⟨b, off, none⟩ = some (.int .u8 z) := by have := hcl 0 (by simp [bs]); simpa [bs] using this
    have hne : b ≠ p := fun e => hpg (by omega) (by rw [e]; rfl)
    have HN := hidden hn
    have hz : (((n : Int) + 1) == 0) = false := by simp; omega
    have hpos : (0 : Int) < (n : Int) + 1 := by omega
    have hcapI : (n : Int) + 1 ≤ (cap : Int) := by omega
    clear hn hcl
    by_cases hk : cap = 1
    · subst hk
      obtain rfl : n = 0 := by omega
      go_enter Try.func53, Try.ntmps53
      go_wp2_with fail
      go_ret
      exact ⟨ret_int rfl, _, hB.set 2 _, Rd.chg (Rd8.tail hR HN.out (by omega) (by unfold maxLen; omega) _ (fun h => by omega) (fun h => rfl)) ((Chg.refl [p] w).setCell (Or.inl (by simp)) _) (by intro x hx _; simp at hx; subst hx; simpa [Value.ownBlock] using hne), fun _ => by simpa [Value.ownBlock] using hne, (Chg.refl [p] w).setCell (Or.inl (by simp)) _⟩
    · go_enter Try.func53, Try.ntmps53
      go_wp2_with fail
      go_ret
      have ht := Rd8.tail hR HN.out (by omega) (by unfold maxLen; omega) (some ⟨b, off + 1, none⟩) (fun h => rfl) (fun h => by cases h)
      have hc := (Chg.refl [p] w).setCell (p := ⟨p, 2, none⟩) (Or.inl (by simp)) (.slice (some ⟨b, off + 1, none⟩) n (cap - 1))
      exact ⟨ret_int rfl, _, hB.set 2 _, Rd.chg ht hc (by intro x hx _; simp at hx; subst hx; simpa [Value.ownBlock] using hne), fun _ => by simpa [Value.ownBlock] using hne, hc⟩

theorem or_low (m z : Nat) (h : z < 256) : (m * 256) ||| z = m * 256 + z := by
  have := Nat.shiftLeft_add_eq_or_of_lt (i := 8) h m
  rw [Nat.shiftLeft_eq] at this
  exact this.symm
theorem or_byte (c z : Int) (h0 : 0 ≤ c) (hz0 : 0 ≤ z) (hz1 : z ≤ 255) : bits .or .u32 (IntKind.u32.wrap (c * 256)) z = (c * 256 + z) % 4294967296 := by
  rw [IntKind.wrap_u32, u32_or _ _ (by omega) (by omega) hz0 (by omega)]
  have e : (c * 256 % 4294967296).toNat = (c.toNat % 16777216) * 256 := by omega
  rw [e, or_low _ _ (by omega)]
  omega
/-- The code behind one byte. -/
def shC (code : Int) (l : List Int) : Int := (code * 256 + l.headD 0) % 4294967296
theorem headD_bd {l : List Int} (hb : Bytes l) : 0 ≤ l.headD 0 ∧ l.headD 0 ≤ 255 := by
  cases l with
  | nil => simp
  | cons x l => exact hb x (by simp)

set_option maxHeartbeats 1000000 in
theorem shift_any (p : Nat) (x v : Value) (code : Int) (l : List Int) (hb : Bytes l) (h0 : 0 ≤ code) (h1 : code ≤ 4294967295) (hpg : 0 < l.length → v.ownBlock ≠ some p) (w : World) (hB : Blk w p 83 [x, .int .u32 code, v]) (hR : Rd8 w v l) :
    Calls Try.prog 44 #[.pointer (some ⟨p, 0, none⟩)] w fun e w' =>
      e = .returned (.tuple #[]) ∧ ∃ v', Blk w' p 83 [x, .int .u32 (shC code l), v'] ∧ Rd8 w' v' l.tail ∧ (0 < l.tail.length → v'.ownBlock ≠ some p) ∧ Chg [p] w w' := by
  have hc1 := hB.cell 1 _ rfl
  obtain ⟨hh0, hh1⟩ := headD_bd hb
  obtain ⟨z, hz⟩ : ∃ z, l.headD 0 = z := ⟨_, rfl⟩
  have hs : Hid (shC code l = (code * 256 + z) % 4294967296) := by unfold shC; rw [hz]; rfl
  rw [hz] at hh0 hh1
  have Hz := hidden hz
  clear hz
  have hw : IntKind.u32.wrap z = z := IntWalk.u32_in _ (by omega)
  go_enter Try.func44, Try.ntmps44
  go_region_with (go_at_call 53; refine (next_any p _ _ v l hb hpg _ hB.drew (Rd.drew hR)).mono ?_; rw [Hz.out]; rintro e w1 ⟨rfl, v1, hB1, hR1, hp1, hC1⟩; have k1 := hB1.cell 1 _ rfl; have k2 := hB1.frozen 1)
  all_goals
    go_end0
    refine ⟨rfl, v1, ?_, Rd.chg hR1 ((Chg.refl [p] w1).setCell (Or.inl (by simp)) _) (by intro x hx; simp at hx; subst hx; exact hp1), hp1, (((Chg.refl [p] w).drew.trans hC1 (by simp)).setCell (Or.inl (by simp)) _)⟩
    rw [hs.out, ← or_byte code z h0 hh0 hh1]
    exact hB1.set 1 _

end Go.Proofs.Ytnodnfmgklkjeaa
