/- Byte slices: read, owned. -/
import Derived.Test.YtjfdmhdmadnkoaaRows
import Derived.Test.YtjfdmhdmadnkoaaMb
import Derived.Laws.OwnMore
namespace Go.Proofs.Ytjfdmhdmadnkoaa
open Go.RowKit
set_option linter.unusedVariables false

/-- Bytes as values. -/
def bs (l : List Int) : List Value := l.map (Value.int .u8)
theorem bs_len (l : List Int) : (bs l).length = l.length := by simp [bs]
theorem bs_get (l : List Int) (i : Nat) (h : i < l.length) : (bs l).getD i undef = .int .u8 (l.getD i 0) := by simp [bs, List.getD, h]
theorem bs_app (l m : List Int) : bs (l ++ m) = bs l ++ bs m := by simp [bs]
theorem bs_set (l : List Int) (i : Nat) (x : Int) : (bs l).set i (.int .u8 x) = bs (l.set i x) := by simp [bs, List.map_set]
def Bytes (l : List Int) : Prop := ∀ x ∈ l, 0 ≤ x ∧ x ≤ 255
theorem Bytes.get {l : List Int} (h : Bytes l) (i : Nat) (hi : i < l.length) : 0 ≤ l.getD i 0 ∧ l.getD i 0 ≤ 255 := by
  simp [List.getD, hi]; exact h _ (List.getElem_mem hi)
theorem Bytes.snoc {l : List Int} (h : Bytes l) {x : Int} (h0 : 0 ≤ x) (h1 : x ≤ 255) : Bytes (l ++ [x]) := by
  intro y hy
  rcases List.mem_append.1 hy with hy | hy
  · exact h y hy
  · simp at hy; omega
theorem u8info : (Try.prog.info? 5).map (fun i => (i.zero, i.size, i.bytes)) = some (some (.int .u8 0), 1, 1) := by kernel_rfl
/-- Owned bytes. -/
def Own8 (w : World) (B : Nat) (v : Value) (l : List Int) : Prop := w.ownsRow B 5 1 v l.length (bs l)
theorem Own8.shape {w : World} {B : Nat} {v : Value} {l : List Int} (h : Own8 w B v l) :
    (v = .slice none 0 0 ∧ l = []) ∨ ∃ g cap, v = .slice (some ⟨g, 0, none⟩) l.length cap ∧ B ≤ g ∧ g < w.heap.size ∧ l.length ≤ cap ∧ cap ≤ 9223372036854775807 := by
  rcases h.2 with ⟨h1, h2⟩ | ⟨g, cap, cur, hv, hb, hg, h1, h2, _⟩
  · exact Or.inl ⟨h1, List.eq_nil_of_length_eq_zero h2⟩
  · exact Or.inr ⟨g, cap, hv, hb, (Array.getElem?_eq_some_iff.1 hg).1, h1, h2⟩
/-- Bytes that are read. -/
def Rd8 (w : World) (v : Value) (l : List Int) : Prop := Rd w 1 v l.length (bs l)
theorem Own8.rd {w : World} {B : Nat} {v : Value} {l : List Int} (h : Own8 w B v l) : Rd8 w v l := Rd.of_own h
theorem bs_one (l : List Int) : ∀ u ∈ bs l, u.oneCell' = true := by
  intro u hu
  simp [bs] at hu
  obtain ⟨a, -, rfl⟩ := hu
  rfl
/-- Bytes do not lie in a block that holds none. -/
theorem Rd8.off_any {w : World} {v : Value} {l : List Int} {q : Nat} {t : TypeId} {cs : List Value} (h : Rd8 w v l) (hB : Blk w q t cs) (hn : ∀ u ∈ cs, ∀ n, u ≠ .int .u8 n) : 0 < l.length → v.ownBlock ≠ some q := by
  intro hl hv
  obtain ⟨_, a', cap', rfl, _, _, _, h6⟩ := h
  obtain ⟨b', off', rfl, -, hc⟩ := h6 hl
  simp [Value.ownBlock] at hv
  subst hv
  have h1 := hc 0 (by rw [bs_len]; exact hl)
  rw [bs_get l 0 hl, Nat.add_zero] at h1
  unfold Blk at hB
  simp only [World.cell?, hB] at h1
  have h2 : cs[off']? = some (.int .u8 (l.getD 0 0)) := by simpa using h1
  exact hn _ (List.mem_of_getElem? h2) _ rfl
/-- A row's block is none that is known whole and of another type. -/
theorem own_ne_blk {w : World} {B : Nat} {e t : TypeId} {sz n q : Nat} {v : Value} {xs cs : List Value} (h : w.ownsRow B e sz v n xs) (hB : Blk w q t cs) (hne : t ≠ e) : v.ownBlock ≠ some q := by
  intro hv
  rcases h.2 with ⟨rfl, _⟩ | ⟨g, cap, cur, rfl, _, hg, _⟩
  · simp [Value.ownBlock] at hv
  · simp [Value.ownBlock] at hv
    subst hv
    unfold Blk at hB
    rw [hB] at hg
    simp at hg
    exact hne hg.2
theorem Rd8.nil (w : World) : Rd8 w (.slice none 0 0) [] := Rd.nil w 1
theorem Rd8.at {w : World} {b off n cap : Nat} {l : List Int} (h : Rd8 w (.slice (some ⟨b, off, none⟩) n cap) l) (i : Nat) (hi : i < l.length) : w.cell? ⟨b, off + i, none⟩ = some (.int .u8 (l.getD i 0)) := by
  obtain ⟨_, a', cap', h2, _, _, _, h6⟩ := h
  simp only [Value.slice.injEq] at h2
  obtain ⟨rfl, -, rfl⟩ := h2
  obtain ⟨b', off', e, -, hc⟩ := h6 (by omega)
  simp only [Option.some.injEq, Addr.mk.injEq, and_true] at e
  obtain ⟨rfl, rfl⟩ := e
  rw [hc i (by rw [bs_len]; exact hi), bs_get l i hi]
/-- Where the bytes of a slice that holds some lie. -/
theorem Rd8.some {w : World} {a : Option Addr} {n cap : Nat} {l : List Int} (h : Rd8 w (.slice a n cap) l) (hn : 0 < l.length) : ∃ b off, a = Option.some ⟨b, off, none⟩ ∧ b < w.heap.size := by
  obtain ⟨_, a', cap', h2, _, _, _, h6⟩ := h
  simp only [Value.slice.injEq] at h2
  obtain ⟨rfl, -, rfl⟩ := h2
  obtain ⟨b', off', e, hb, -⟩ := h6 hn
  exact ⟨b', off', e, hb⟩
theorem Own8.len {w : World} {B g n cap : Nat} {D : List Int} (h : Own8 w B (.slice (Option.some ⟨g, 0, none⟩) n cap) D) : n = D.length := by
  rcases h.2 with ⟨h1, _⟩ | ⟨g', cap', cur, hv, _⟩
  · simp at h1
  · simp only [Value.slice.injEq] at hv; exact hv.2.1
theorem Own8.frozen {w : World} {B g n cap : Nat} {D : List Int} (h : Own8 w B (.slice (Option.some ⟨g, 0, none⟩) n cap) D) (j : Nat) : w.frozen? ⟨g, j, none⟩ = false := by
  obtain rfl := h.len
  exact World.ownsRow.frozenAt h j
theorem Own8.set {w : World} {B g n cap : Nat} {D : List Int} (h : Own8 w B (.slice (Option.some ⟨g, 0, none⟩) n cap) D) (j : Nat) (y : Int) : Own8 (w.setCell ⟨g, j, none⟩ (.int .u8 y)) B (.slice (Option.some ⟨g, 0, none⟩) n cap) (D.set j y) := by
  obtain rfl := h.len
  have := (World.ownsRow.stored h j (.int .u8 y)).1
  unfold Own8
  rw [List.length_set, ← bs_set]
  exact this
/-- Fresh: in no old block. -/
def Fresh (w : World) (v : Value) : Prop := ∀ y, y < w.heap.size → v.ownBlock ≠ some y
theorem Fresh.nil (w : World) : Fresh w (.slice none 0 0) := fun y hy h => by simp [Value.ownBlock] at h
theorem Fresh.of_own {w w' : World} {e : TypeId} {sz n B : Nat} {v : Value} {cs : List Value} (h : w'.ownsRow B e sz v n cs) (hB : w.heap.size ≤ B) : Fresh w v := fun y hy hv => by
  have := (own_lt h hv).1
  omega
end Go.Proofs.Ytjfdmhdmadnkoaa

/- Bit strings, plainly: bits of bytes, pushing, reading. No program is in sight. -/
namespace Go.Proofs.Ytjfdmhdmadnkoaa
open Go.RowKit
set_option linter.unusedVariables false

/-- Bit i of bytes. -/
def gb (D : List Int) (i : Nat) : Int := D.getD (i / 8) 0 / 2 ^ (7 - i % 8) % 2
theorem gb_01 (D : List Int) (i : Nat) : gb D i = 0 ∨ gb D i = 1 := by unfold gb; omega
/-- A well-formed bit string: c bits, the spare ones 0. -/
structure WF (D : List Int) (c : Nat) : Prop where
  bytes : Bytes D
  len : D.length = (c + 7) / 8
  spare : ∀ i, c ≤ i → i < 8 * D.length → gb D i = 0
theorem gb_far (D : List Int) (i : Nat) (h : D.length ≤ i / 8) : gb D i = 0 := by
  unfold gb
  simp [List.getD, List.getElem?_eq_none h]
theorem WF.past {D : List Int} {c : Nat} (h : WF D c) (i : Nat) (hi : c ≤ i) : gb D i = 0 := by
  by_cases hl : i < 8 * D.length
  · exact h.spare i hi hl
  · exact gb_far D i (by omega)
theorem WF.nil : WF [] 0 := ⟨(fun x hx => by cases hx), rfl, (fun i _ h => by simp at h)⟩

/-! Tables: one byte. -/
def bt (x : Int) (m : Nat) : Int := x / 2 ^ (7 - m) % 2
theorem byte_of (x : Int) (h0 : 0 ≤ x) (h1 : x ≤ 255) : ∃ i : Fin 256, x = (i.val : Int) := ⟨⟨x.toNat, by omega⟩, by simp; omega⟩
theorem or_tab : ∀ (i : Fin 256) (m : Fin 8), bt (i.val : Int) m.val = 0 → bits BinOp.or IntKind.u8 (i.val : Int) (128 / 2 ^ m.val) = (i.val : Int) + 2 ^ (7 - m.val) ∧ (i.val : Int) + 2 ^ (7 - m.val) ≤ 255 := by decide +kernel
theorem and_tab : ∀ (i : Fin 256) (m : Fin 8), (bits BinOp.and IntKind.u8 (i.val : Int) (128 / 2 ^ m.val) != 0) = decide (bt (i.val : Int) m.val = 1) := by decide +kernel
theorem set_tab : ∀ (i : Fin 256) (m : Fin 8) (j : Fin 8), bt (i.val : Int) m.val = 0 → bt ((i.val : Int) + 2 ^ (7 - m.val)) j.val = if j = m then 1 else bt (i.val : Int) j.val := by decide +kernel
theorem tail_tab : ∀ (i : Fin 256) (m : Fin 8), ((i.val : Int) * 2 ^ m.val % 256 = 0) ↔ ∀ j : Fin 8, m ≤ j → bt (i.val : Int) j.val = 0 := by decide +kernel
def byteOf (b0 b1 b2 b3 b4 b5 b6 b7 : Int) : Int := 128 * b0 + 64 * b1 + 32 * b2 + 16 * b3 + 8 * b4 + 4 * b5 + 2 * b6 + b7
theorem byte_tab : ∀ (i : Fin 256), byteOf (bt i.val 0) (bt i.val 1) (bt i.val 2) (bt i.val 3) (bt i.val 4) (bt i.val 5) (bt i.val 6) (bt i.val 7) = (i.val : Int) := by decide +kernel
theorem or_byte (x : Int) (m : Nat) (h0 : 0 ≤ x) (h1 : x ≤ 255) (hm : m < 8) (hb : bt x m = 0) : bits BinOp.or IntKind.u8 x (128 / 2 ^ m) = x + 2 ^ (7 - m) ∧ x + 2 ^ (7 - m) ≤ 255 := by
  obtain ⟨i, rfl⟩ := byte_of x h0 h1
  exact or_tab i ⟨m, hm⟩ hb
theorem and_byte (x : Int) (m : Nat) (h0 : 0 ≤ x) (h1 : x ≤ 255) (hm : m < 8) : (bits BinOp.and IntKind.u8 x (128 / 2 ^ m) != 0) = decide (bt x m = 1) := by
  obtain ⟨i, rfl⟩ := byte_of x h0 h1
  exact and_tab i ⟨m, hm⟩
theorem set_byte (x : Int) (m j : Nat) (h0 : 0 ≤ x) (h1 : x ≤ 255) (hm : m < 8) (hj : j < 8) (hb : bt x m = 0) : bt (x + 2 ^ (7 - m)) j = if j = m then 1 else bt x j := by
  obtain ⟨i, rfl⟩ := byte_of x h0 h1
  have := set_tab i ⟨m, hm⟩ ⟨j, hj⟩ hb
  simpa [Fin.ext_iff] using this
theorem tail_byte (x : Int) (m : Nat) (h0 : 0 ≤ x) (h1 : x ≤ 255) (hm : m < 8) : (x * 2 ^ m % 256 = 0) ↔ ∀ j, m ≤ j → j < 8 → bt x j = 0 := by
  obtain ⟨i, rfl⟩ := byte_of x h0 h1
  have := tail_tab i ⟨m, hm⟩
  rw [this]
  constructor
  · intro h j h1 h2; exact h ⟨j, h2⟩ h1
  · intro h j h1; exact h j.val h1 j.isLt
theorem gb_bt (D : List Int) (i : Nat) : gb D i = bt (D.getD (i / 8) 0) (i % 8) := rfl
theorem getD_bd8 {b : List Int} (h : Bytes b) (m : Nat) : 0 ≤ b.getD m 0 ∧ b.getD m 0 ≤ 255 := by
  by_cases hm : m < b.length
  · exact h.get m hm
  · simp [List.getD, List.getElem?_eq_none (Nat.le_of_not_lt hm)]
/-- Bytes are told by their bits. -/
theorem bits_ext (D E : List Int) (hD : Bytes D) (hE : Bytes E) (hl : D.length = E.length) (h : ∀ i, i < 8 * D.length → gb D i = gb E i) : D = E := by
  apply List.ext_getElem hl
  intro i h1 h2
  have key : ∀ j, j < 8 → bt (D.getD i 0) j = bt (E.getD i 0) j := by
    intro j hj
    have := h (8 * i + j) (by omega)
    rw [gb_bt, gb_bt, show (8 * i + j) / 8 = i by omega, show (8 * i + j) % 8 = j by omega] at this
    exact this
  obtain ⟨a, ha⟩ := byte_of (D.getD i 0) (getD_bd8 hD i).1 (getD_bd8 hD i).2
  obtain ⟨b, hb⟩ := byte_of (E.getD i 0) (getD_bd8 hE i).1 (getD_bd8 hE i).2
  have e1 : D[i] = D.getD i 0 := by simp [List.getD, h1]
  have e2 : E[i] = E.getD i 0 := by simp [List.getD, h2]
  rw [e1, e2, ha, hb]
  rw [ha, hb] at key
  rw [← byte_tab a, ← byte_tab b, key 0 (by omega), key 1 (by omega), key 2 (by omega), key 3 (by omega), key 4 (by omega), key 5 (by omega), key 6 (by omega), key 7 (by omega)]
theorem WF.ext {D E : List Int} {c : Nat} (h : WF D c) (k : WF E c) (hb : ∀ i, i < c → gb D i = gb E i) : D = E :=
  bits_ext D E h.bytes k.bytes (by rw [h.len, k.len]) (fun i hi => by
    by_cases hc : i < c
    · exact hb i hc
    · rw [h.past i (by omega), k.past i (by omega)])

/-! A bit is pushed. -/
def pshD (D : List Int) (c : Nat) : List Int := if c % 8 = 0 then D ++ [0] else D
def psh (D : List Int) (c : Nat) (x : Int) : List Int := if x = 1 then (pshD D c).set (c / 8) ((pshD D c).getD (c / 8) 0 + 2 ^ (7 - c % 8)) else pshD D c
theorem pshD_len {D : List Int} {c : Nat} (h : WF D c) : (pshD D c).length = (c + 1 + 7) / 8 := by
  have := h.len
  unfold pshD
  split
  · rw [List.length_append, List.length_singleton]; omega
  · omega
theorem pshD_bytes {D : List Int} {c : Nat} (h : Bytes D) : Bytes (pshD D c) := by
  unfold pshD
  split
  · exact h.snoc (by decide) (by decide)
  · exact h
theorem gb_pshD (D : List Int) (c i : Nat) : gb (pshD D c) i = gb D i := by
  unfold pshD gb
  split
  · simp only [List.getD, List.getElem?_append]
    split
    · rfl
    · next hi =>
      rw [List.getElem?_eq_none (Nat.le_of_not_lt hi)]
      rcases Nat.eq_zero_or_pos (i / 8 - D.length) with h0 | h0
      · simp [h0]
      · rw [List.getElem?_eq_none (by simp; omega)]
  · rfl
theorem psh_room {D : List Int} {c : Nat} (h : WF D c) : c / 8 < (pshD D c).length := by rw [pshD_len h]; omega
theorem psh_bit {D : List Int} {c : Nat} (h : WF D c) : bt ((pshD D c).getD (c / 8) 0) (c % 8) = 0 := by
  rw [← gb_bt, gb_pshD]
  exact h.past c (Nat.le_refl _)
theorem psh_byte {D : List Int} {c : Nat} (h : WF D c) : 0 ≤ (pshD D c).getD (c / 8) 0 ∧ (pshD D c).getD (c / 8) 0 + 2 ^ (7 - c % 8) ≤ 255 := by
  have hb := getD_bd8 (pshD_bytes (c := c) h.bytes) (c / 8)
  exact ⟨hb.1, (or_byte _ (c % 8) hb.1 hb.2 (by omega) (psh_bit h)).2⟩
theorem pow2_pos (k : Nat) : (0 : Int) < 2 ^ k := Int.pow_pos (by decide)
theorem psh_len {D : List Int} {c : Nat} (h : WF D c) (x : Int) : (psh D c x).length = (c + 1 + 7) / 8 := by
  unfold psh
  split
  · rw [List.length_set, pshD_len h]
  · exact pshD_len h
theorem gb_psh {D : List Int} {c : Nat} (h : WF D c) (x : Int) (hx : x = 0 ∨ x = 1) (i : Nat) : gb (psh D c x) i = if i = c then x else gb D i := by
  rcases hx with rfl | rfl
  · unfold psh
    rw [if_neg (by decide), gb_pshD]
    split
    · next e => subst e; exact h.past i (Nat.le_refl _)
    · rfl
  · unfold psh
    rw [if_pos rfl, gb_bt]
    have hr := psh_room h
    have hb := getD_bd8 (pshD_bytes (c := c) h.bytes) (c / 8)
    by_cases e : i / 8 = c / 8
    · have e2 : ((pshD D c).set (c / 8) ((pshD D c).getD (c / 8) 0 + 2 ^ (7 - c % 8))).getD (i / 8) 0 = (pshD D c).getD (c / 8) 0 + 2 ^ (7 - c % 8) := by
        rw [e]; simp [List.getD, hr]
      rw [e2, set_byte _ _ _ hb.1 hb.2 (by omega) (by omega) (psh_bit h)]
      by_cases hi : i = c
      · rw [if_pos (by rw [hi]), if_pos hi]
      · rw [if_neg (by omega), if_neg hi]
        have : bt ((pshD D c).getD (c / 8) 0) (i % 8) = gb (pshD D c) i := by rw [gb_bt, e]
        rw [this, gb_pshD]
    · have e2 : ((pshD D c).set (c / 8) ((pshD D c).getD (c / 8) 0 + 2 ^ (7 - c % 8))).getD (i / 8) 0 = (pshD D c).getD (i / 8) 0 := by
        simp [List.getD, show ¬ c / 8 = i / 8 by omega]
      rw [e2, ← gb_bt, gb_pshD, if_neg (by intro h; exact e (by rw [h]))]
theorem WF.psh {D : List Int} {c : Nat} (h : WF D c) {x : Int} (hx : x = 0 ∨ x = 1) : WF (psh D c x) (c + 1) := by
  refine ⟨?_, psh_len h x, ?_⟩
  · unfold Ytjfdmhdmadnkoaa.psh
    split
    · intro y hy
      rcases List.mem_or_eq_of_mem_set hy with hy | rfl
      · exact pshD_bytes h.bytes y hy
      · have := psh_byte h
        have := pow2_pos (7 - c % 8)
        omega
    · exact pshD_bytes h.bytes
  · intro i hi _
    rw [gb_psh h x hx, if_neg (by omega)]
    exact h.past i (by omega)
/-! Many bits are pushed. -/
def pshs (D : List Int) (c : Nat) : List Int → List Int
  | [] => D
  | x :: xs => pshs (psh D c x) (c + 1) xs
def Bits01 (xs : List Int) : Prop := ∀ x ∈ xs, x = 0 ∨ x = 1
theorem pshs_app (D : List Int) (c : Nat) (xs ys : List Int) : pshs D c (xs ++ ys) = pshs (pshs D c xs) (c + xs.length) ys := by
  induction xs generalizing D c with
  | nil => rfl
  | cons x xs ih => simp only [List.cons_append, pshs, ih, List.length_cons]; congr 1; omega
theorem pshs_snoc (D : List Int) (c : Nat) (xs : List Int) (x : Int) : pshs D c (xs ++ [x]) = psh (pshs D c xs) (c + xs.length) x := by rw [pshs_app]; rfl
theorem WF.pshs {D : List Int} {c : Nat} (h : WF D c) {xs : List Int} (hx : Bits01 xs) : WF (pshs D c xs) (c + xs.length) := by
  induction xs generalizing D c with
  | nil => exact h
  | cons x xs ih =>
    have := ih (h.psh (hx x (by simp))) (fun y hy => hx y (by simp [hy]))
    rw [List.length_cons, show c + (xs.length + 1) = c + 1 + xs.length by omega]
    exact this
theorem gb_pshs {D : List Int} {c : Nat} (h : WF D c) {xs : List Int} (hx : Bits01 xs) (i : Nat) : gb (pshs D c xs) i = if i < c then gb D i else xs.getD (i - c) 0 := by
  induction xs generalizing D c with
  | nil =>
    simp only [Ytjfdmhdmadnkoaa.pshs]
    split
    · rfl
    · rw [h.past i (by omega)]; simp
  | cons x xs ih =>
    simp only [Ytjfdmhdmadnkoaa.pshs]
    rw [ih (h.psh (hx x (by simp))) (fun y hy => hx y (by simp [hy])), gb_psh h x (hx x (by simp))]
    by_cases h1 : i < c
    · rw [if_pos (by omega), if_neg (by omega), if_pos h1]
    · by_cases h2 : i = c
      · subst h2
        rw [if_pos (by omega), if_pos rfl, if_neg (by omega)]
        simp
      · rw [if_neg (by omega), if_neg h1, show i - c = (i - (c + 1)) + 1 by omega]
        simp
theorem pshs_len {D : List Int} {c : Nat} (h : WF D c) {xs : List Int} (hx : Bits01 xs) : (pshs D c xs).length = (c + xs.length + 7) / 8 := (h.pshs hx).len
/-- The bits of a part. -/
def cut (D : List Int) (a n : Nat) : List Int := (List.range n).map fun j => gb D (a + j)
theorem cut_len (D : List Int) (a n : Nat) : (cut D a n).length = n := by simp [cut]
theorem cut_01 (D : List Int) (a n : Nat) : Bits01 (cut D a n) := by
  intro x hx
  obtain ⟨j, _, rfl⟩ := List.mem_map.1 hx
  exact gb_01 D _
theorem cut_succ (D : List Int) (a n : Nat) : cut D a (n + 1) = cut D a n ++ [gb D (a + n)] := by simp [cut, List.range_succ]
theorem cut_get (D : List Int) (a n j : Nat) (h : j < n) : (cut D a n).getD j 0 = gb D (a + j) := by simp [cut, List.getD, h]
/-- The lowest n bits of a number, the highest first. -/
def low (v : Int) (n : Nat) : List Int := (List.range n).map fun j => v / 2 ^ (n - 1 - j) % 2
theorem low_len (v : Int) (n : Nat) : (low v n).length = n := by simp [low]
theorem low_01 (v : Int) (n : Nat) : Bits01 (low v n) := by
  intro x hx
  obtain ⟨j, _, rfl⟩ := List.mem_map.1 hx
  omega
/-- The number that bits mean. -/
def num (xs : List Int) : Int := xs.foldl (fun a x => a * 2 + x) 0
theorem num_snoc (xs : List Int) (x : Int) : num (xs ++ [x]) = num xs * 2 + x := by simp [num]
theorem num_bd {xs : List Int} (h : Bits01 xs) : 0 ≤ num xs ∧ num xs < 2 ^ xs.length := by
  have key : ∀ (n : Nat) (l : List Int), l.length = n → Bits01 l → 0 ≤ num l ∧ num l < 2 ^ l.length := by
    intro n
    induction n with
    | zero => intro l hl _; rw [List.eq_nil_of_length_eq_zero hl]; simp [num]
    | succ n ih =>
      intro l hl hb
      rcases List.eq_nil_or_concat l with rfl | ⟨m, x, rfl⟩
      · simp at hl
      · rw [List.concat_eq_append] at hl hb ⊢
        have := ih m (by simpa using hl) (fun y hy => hb y (by simp [hy]))
        have hx := hb x (by simp)
        rw [num_snoc, List.length_append, List.length_singleton, Int.pow_succ]
        omega
  exact key _ xs rfl h
end Go.Proofs.Ytjfdmhdmadnkoaa
