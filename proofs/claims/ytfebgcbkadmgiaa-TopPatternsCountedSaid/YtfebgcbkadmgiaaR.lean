/- Slice expressions on slices that are read: the value is some slice that is read (no case on the capacity). -/
import Derived.Test.YtfebgcbkadmgiaaM
namespace Go.Proofs.Ytfebgcbkadmgiaa
open Go.RowKit
set_option linter.unusedVariables false

theorem Rd.sliced {w : World} {sz n cap l h : Nat} {a : Option Addr} {cs : List Value} (r : Rd w sz (.slice a n cap) n cs) (h1 : l ≤ h) (h2 : h ≤ n) :
    Rd w sz (Go.sliced a l h cap sz) (h - l) ((cs.drop (l * sz)).take ((h - l) * sz)) := by
  obtain ⟨hl, a', cap', e, h3, h4, h5, h6⟩ := r
  simp only [Value.slice.injEq] at e
  obtain ⟨rfl, -, rfl⟩ := e
  have hm : (h - l) * sz ≤ n * sz - l * sz := by rw [← Nat.sub_mul]; exact Nat.mul_le_mul_right _ (by omega)
  have hlen : ((cs.drop (l * sz)).take ((h - l) * sz)).length = (h - l) * sz := by rw [List.length_take, List.length_drop, hl]; omega
  refine ⟨hlen, _, _, rfl, by omega, by omega, ?_, ?_⟩
  · intro he
    by_cases hc : cap = l
    · omega
    · rw [if_neg hc] at he
      have := h5 (by simpa using he)
      omega
  · intro hn
    obtain ⟨b, off, rfl, hb, hcell⟩ := h6 (by omega)
    rw [if_neg (by omega)]
    have ha : (⟨b, off, none⟩ : Addr).add (l * sz) = ⟨b, off + l * sz, none⟩ := by
      unfold Addr.add
      split
      · next hz => rw [hz]; rfl
      · rfl
    refine ⟨b, off + l * sz, by simp [ha], hb, fun j hj => ?_⟩
    rw [hlen] at hj
    rw [Nat.add_assoc, hcell (l * sz + j) (by omega)]
    congr 1
    simp [List.getD, List.getElem?_drop, hj]
theorem sliced_block (a : Option Addr) (l h m s n c g : Nat) (hg : (Value.slice a n c).ownBlock ≠ some g) : (Go.sliced a l h m s).ownBlock ≠ some g := by
  unfold Go.sliced
  cases a with
  | none => intro h; split at h <;> simp [Value.ownBlock] at h
  | some ad =>
    have e : (ad.add (l * s)).block = ad.block := by unfold Addr.add; split <;> rfl
    split
    · exact hg
    · intro h
      apply hg
      simp only [Value.ownBlock, Option.map_some] at h ⊢
      rw [← h, e]
theorem Rd.cap {w : World} {sz n cap : Nat} {a : Option Addr} {cs : List Value} (r : Rd w sz (.slice a n cap) n cs) : n ≤ cap := by
  obtain ⟨hl, a', cap', e, h3, _⟩ := r
  simp only [Value.slice.injEq] at e
  omega
theorem cut_lh {P : Program} {t e : TypeId} {sz : Nat} (ht0 : P.underlying t = some (.slice e)) (hs : ∀ w, (sizeOf e).run P w = .ok sz w) {w0 : World} {n cap : Nat} {a : Option Addr} {cs : List Value} (r : Rd w0 sz (.slice a n cap) n cs)
    (l h : Nat) (li hi : Int) (el : li = l) (eh : hi = h) (h1 : l ≤ h) (h2 : h ≤ n) :
    ∃ a' cap', (∀ w, (Instr.sliceAt t (.slice a n cap) (some (.int .i64 li)) (some (.int .i64 hi)) none).run P w = .ok (.slice a' (h - l) cap') w) ∧ Rd w0 sz (.slice a' (h - l) cap') (h - l) ((cs.drop (l * sz)).take ((h - l) * sz)) := by
  refine ⟨_, _, fun w => ?_, r.sliced h1 h2⟩
  have h3 := r.cap
  have he : P.elem t = e := by unfold Program.elem; rw [ht0]
  have ht : P.underlying t = some (.slice (P.elem t)) := by rw [he]; exact ht0
  rw [run_sliceAt_slice w t _ _ _ _ ht, run_slice_lh w t _ _ _ ht _ _ _ _ (by omega) (by omega) (by omega), he, hs]
  subst el eh
  rfl
theorem cut_l {P : Program} {t e : TypeId} {sz : Nat} (ht0 : P.underlying t = some (.slice e)) (hs : ∀ w, (sizeOf e).run P w = .ok sz w) {w0 : World} {n cap : Nat} {a : Option Addr} {cs : List Value} (r : Rd w0 sz (.slice a n cap) n cs)
    (l : Nat) (li : Int) (el : li = l) (h1 : l ≤ n) :
    ∃ a' cap', (∀ w, (Instr.sliceAt t (.slice a n cap) (some (.int .i64 li)) none none).run P w = .ok (.slice a' (n - l) cap') w) ∧ Rd w0 sz (.slice a' (n - l) cap') (n - l) (cs.drop (l * sz)) ∧ (∀ g, (Value.slice a n cap).ownBlock ≠ some g → (Value.slice a' (n - l) cap').ownBlock ≠ some g) := by
  have h := r.sliced h1 (Nat.le_refl n)
  rw [List.take_of_length_le (by rw [List.length_drop, r.len, Nat.sub_mul]; omega)] at h
  refine ⟨_, _, fun w => ?_, h, fun g => sliced_block a l n cap sz n cap g⟩
  have he : P.elem t = e := by unfold Program.elem; rw [ht0]
  have ht : P.underlying t = some (.slice (P.elem t)) := by rw [he]; exact ht0
  rw [run_sliceAt_slice w t _ _ _ _ ht, run_slice_l w t _ _ _ ht _ _ (by omega) (by omega), he, hs]
  subst el
  rfl
theorem cut_h {P : Program} {t e : TypeId} {sz : Nat} (ht0 : P.underlying t = some (.slice e)) (hs : ∀ w, (sizeOf e).run P w = .ok sz w) {w0 : World} {n cap : Nat} {a : Option Addr} {cs : List Value} (r : Rd w0 sz (.slice a n cap) n cs)
    (h : Nat) (hi : Int) (eh : hi = h) (h2 : h ≤ n) :
    ∃ a' cap', (∀ w, (Instr.sliceAt t (.slice a n cap) none (some (.int .i64 hi)) none).run P w = .ok (.slice a' h cap') w) ∧ Rd w0 sz (.slice a' h cap') h (cs.take (h * sz)) := by
  have g := r.sliced (Nat.zero_le h) h2
  rw [Nat.zero_mul, List.drop_zero, Nat.sub_zero] at g
  refine ⟨_, _, fun w => ?_, g⟩
  have h3 := r.cap
  have he : P.elem t = e := by unfold Program.elem; rw [ht0]
  have ht : P.underlying t = some (.slice (P.elem t)) := by rw [he]; exact ht0
  rw [run_sliceAt_slice w t _ _ _ _ ht, run_slice_h w t _ _ _ ht _ _ (by omega) (by omega), he, hs]
  subst eh
  rfl
end Go.Proofs.Ytfebgcbkadmgiaa
