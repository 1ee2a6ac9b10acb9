/- The reference's decoder: shift and Open; equality of bytes and states. -/
import Derived.Test.YtnodnfmgklkjeaaCh
import Derived.Test.YtnodnfmgklkjeaaCi
namespace Go.Proofs.Ytnodnfmgklkjeaa
open Go.RowKit
set_option linter.unusedVariables false
attribute [local go_sem ↓] Go.wp_at_zero Go.wp_at_succ

/-- What the reference's shift leaves: width, code and the rest of the bytes, in the same array. -/
def ShPost (w : World) (wd c : Int) (v : Value) (l : List Int) (x : Ending) (w' : World) : Prop :=
  ∃ a k, x = .returned (.agg #[.int .u32 (wd * 256 % 4294967296), .int .u32 (shC c l), .slice a l.tail.length k]) ∧ Rd8 w' (.slice a l.tail.length k) l.tail ∧
    (∀ y, (0 < l.length → v.ownBlock ≠ some y) → (0 < l.tail.length → (Value.slice a l.tail.length k).ownBlock ≠ some y)) ∧ Ext w w'

set_option maxHeartbeats 1000000 in
theorem rshift_any (wd c : Int) (v : Value) (l : List Int) (hb : Bytes l) (h0 : 0 ≤ c) (h1 : c ≤ 4294967295) (w : World) (h : Rd8 w v l) :
    Calls Try.prog 43 #[.agg #[.int .u32 wd, .int .u32 c, v]] w fun x w' => ShPost w wd c v l x w' := by
  obtain ⟨a, cap, rfl, q1, q2, q3⟩ := Rd.shape h
  cases l with
  | nil =>
    have hs : Hid (shC c [] = c * 256 % 4294967296) := hidden (by unfold shC; simp)
    have H := hidden h
    clear h
    go_enter Try.func43, Try.ntmps43
    go_wp2_with fail
    refine bodyPost_ret (v := .agg #[.int .u32 (wd * 256 % 4294967296), .int .u32 (c * 256 % 4294967296), .slice a 0 cap]) (by simp [results, Try.results43, go_sem]) rfl ?_
    refine ⟨a, cap, by rw [hs.out]; rfl, Rd.ext H.out ?_, fun y _ hn => absurd hn (Nat.lt_irrefl _), ?_⟩
    all_goals (show Below _ _ _; go_grown)
  | cons z l =>
    obtain ⟨n, hn⟩ : ∃ n, l.length = n := ⟨_, rfl⟩
    have hz := hb z (by simp)
    obtain ⟨hz0, hz1⟩ := hz
    have hs : Hid (shC c (z :: l) = (c * 256 % 4294967296 + z) % 4294967296) := hidden (by unfold shC; simp)
    have h' : Rd w 1 (.slice a (n + 1) cap) (n + 1) (bs (z :: l)) := by have := h; unfold Rd8 at this; rw [List.length_cons, hn] at this; exact this
    rw [List.length_cons, hn] at q1 h ⊢
    obtain ⟨b, off, rfl, hbl, hcl⟩ := h'.cells (by omega)
    have hc0 : w.cell? ⟨b, off, none⟩ = some (.int .u8 z) := by have := hcl 0 (by simp [bs]); simpa [bs] using this
    have hlt1 : b < w.heap.size := hbl
    have HN := hidden hn
    have hpos : (0 : Int) < (n : Int) + 1 := by omega
    have hcapI : (n : Int) + 1 ≤ (cap : Int) := by omega
    have hw1 : IntKind.u32.wrap z = z := IntWalk.u32_in _ (by omega)
    have hw2 : IntKind.u32.wrap (c * 256 % 4294967296 + z) = (c * 256 % 4294967296 + z) % 4294967296 := IntKind.wrap_u32 _
    have hres : ∀ a', (0 < n → a' = some ⟨b, off + 1, none⟩) → (a' = none → cap - 1 = 0) → ∀ W', Ext w W' → ShPost w wd c (.slice (some ⟨b, off, none⟩) (n + 1) cap) (z :: l) (.returned (.agg #[.int .u32 (wd * 256 % 4294967296), .int .u32 ((c * 256 % 4294967296 + z) % 4294967296), .slice a' n (cap - 1)])) W' := by
      intro a' ha hz W' hE
      refine ⟨a', cap - 1, by rw [hs.out]; simp [hn], ?_, ?_, hE⟩
      · have := Rd.ext (Rd8.tail h hn q1 (by unfold maxLen; omega) a' ha hz) hE
        show Rd8 W' (.slice a' l.length (cap - 1)) l
        rw [hn]
        exact this
      · intro y hy h0
        have hn0 : 0 < n := by simpa [hn] using h0
        rw [ha hn0]
        exact hy (by simp)
    have HR := hidden hres
    have Hh := hidden h
    clear hn hcl h h' hs hres
    by_cases hk : cap = 1
    · subst hk
      obtain rfl : n = 0 := by omega
      go_enter Try.func43, Try.ntmps43
      go_wp2_with fail
      go_region
      go_wp2_with fail
      refine bodyPost_ret (v := .agg #[.int .u32 (wd * 256 % 4294967296), .int .u32 ((c * 256 % 4294967296 + z) % 4294967296), .slice (some ⟨b, off, none⟩) 0 0]) (by simp [results, Try.results43, go_sem]) rfl ?_
      refine HR.out (some ⟨b, off, none⟩) (fun h => by omega) (fun h => by cases h) _ ?_
      show Below _ _ _; go_grown
    · go_enter Try.func43, Try.ntmps43
      go_wp2_with fail
      go_region
      go_wp2_with fail
      refine bodyPost_ret (v := .agg #[.int .u32 (wd * 256 % 4294967296), .int .u32 ((c * 256 % 4294967296 + z) % 4294967296), .slice (some ⟨b, off + 1, none⟩) n (cap - 1)]) (by simp [results, Try.results43, go_sem]) rfl ?_
      refine HR.out (some ⟨b, off + 1, none⟩) (fun _ => rfl) (fun h => by cases h) _ ?_
      show Below _ _ _; go_grown

end Go.Proofs.Ytnodnfmgklkjeaa
