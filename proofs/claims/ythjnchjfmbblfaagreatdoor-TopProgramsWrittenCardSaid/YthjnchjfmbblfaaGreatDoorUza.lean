/- strings.IndexAny at the bytes that end a word, for whatever bytes. -/
import Derived.Test.YthjnchjfmbblfaaGreatDoorUu
import Derived.Laws.RangeAny
import Derived.Laws.Runes
import Derived.Lib.IndexAny
import Derived.Lib.OthersKept
import Derived.Deep.LoopGhost
import Derived.Test.YthjnchjfmbblfaaGreatDoorUx
import Derived.Test.YthjnchjfmbblfaaGreatDoorJq
import Derived.Test.YthjnchjfmbblfaaGreatDoorMz
namespace Go.Proofs.YthjnchjfmbblfaaGreatDoor
open Go.RowKit
set_option linter.unusedVariables false
set_option linter.unusedSimpArgs false
attribute [local go_sem ↓] Go.wp_at_zero Go.wp_at_succ

def seps : ByteArray := ⟨#[32, 9, 10, 59]⟩
theorem get_of (s : ByteArray) (k : Nat) (h : k < s.size) : s.get! k = s[k]'h := by
  simp [ByteArray.get!, getElem!_pos, h]
  rfl
/-- What a rune that is no ASCII byte covers: bytes beyond ASCII alone; and it is a valid one. -/
theorem decode_skip (s : ByteArray) (pos : Nat) (h : pos < s.size) (ha : 128 ≤ (s[pos]'h).toNat) :
    (∀ j, pos ≤ j → j < pos + (Utf8.decode s pos).2 → ∃ hj : j < s.size, 128 ≤ (s[j]'hj).toNat) ∧ Utf8.valid ((Utf8.decode s pos).1 : Int) = true := by
  have hn : ¬ (s[pos]'h).toNat < 128 := by omega
  have hone : ∀ j, pos ≤ j → j < pos + 1 → ∃ hj : j < s.size, 128 ≤ (s[j]'hj).toNat := fun j h1 h2 => by
    obtain rfl : j = pos := by omega
    exact ⟨h, ha⟩
  have hc : ∀ k, pos + k < s.size → (s.get! (pos + k)).toNat / 64 = 2 → ∃ hj : pos + k < s.size, 128 ≤ (s[pos + k]'hj).toNat := fun k hk he => ⟨hk, by rw [← get_of s _ hk]; omega⟩
  have hb : ∀ k, (s.get! (pos + k)).toNat < 256 := fun k => (s.get! (pos + k)).toNat_lt
  have h0 := hb 0; have h1 := hb 1; have h2 := hb 2; have h3 := hb 3
  simp only [Utf8.decode, get_at s pos h, hn, if_false]
  split
  · next c1 =>
    simp only [Bool.and_eq_true, beq_iff_eq, decide_eq_true_eq] at c1
    split
    · refine ⟨fun j g1 g2 => ?_, ?_⟩
      · by_cases e : j = pos
        · subst e; exact ⟨h, ha⟩
        · obtain rfl : j = pos + 1 := by simp at g2; omega
          exact hc 1 c1.2.1 c1.2.2
      · simp only [Utf8.valid, Bool.or_eq_true, Bool.and_eq_true, decide_eq_true_eq]
        omega
    · exact ⟨hone, by decide⟩
  · split
    · next c1 =>
      simp only [Bool.and_eq_true, beq_iff_eq, decide_eq_true_eq] at c1
      split
      · next c2 =>
        simp only [Bool.and_eq_true, decide_eq_true_eq] at c2
        refine ⟨fun j g1 g2 => ?_, c2.2⟩
        by_cases e : j = pos
        · subst e; exact ⟨h, ha⟩
        · by_cases e1 : j = pos + 1
          · subst e1; exact hc 1 c1.1.2.1 c1.1.2.2
          · obtain rfl : j = pos + 2 := by simp at g2; omega
            exact hc 2 c1.2.1 c1.2.2
      · exact ⟨hone, by decide⟩
    · split
      · next c1 =>
        simp only [Bool.and_eq_true, beq_iff_eq, decide_eq_true_eq] at c1
        split
        · next c2 =>
          simp only [Bool.and_eq_true, decide_eq_true_eq] at c2
          refine ⟨fun j g1 g2 => ?_, c2.2⟩
          by_cases e : j = pos
          · subst e; exact ⟨h, ha⟩
          · by_cases e1 : j = pos + 1
            · subst e1; exact hc 1 c1.1.1.2.1 c1.1.1.2.2
            · by_cases e2 : j = pos + 2
              · subst e2; exact hc 2 c1.1.2.1 c1.1.2.2
              · obtain rfl : j = pos + 3 := by simp at g2; omega
                exact hc 3 c1.2.1 c1.2.2
        · exact ⟨hone, by decide⟩
      · exact ⟨hone, by decide⟩
/-- The bytes of a rune beyond ASCII. -/
theorem encode_high (r : Nat) (h : 128 ≤ r) (hv : Utf8.valid (r : Int) = true) : ∃ m, 1 ≤ m ∧ m ≤ 3 ∧ (Utf8.encode (r : Int)).size = m + 1 ∧ ∃ c : UInt8, (Utf8.encode (r : Int)).data.toList[m]? = some c ∧ 128 ≤ c.toNat := by
  have hr : r ≤ 1114111 := by
    simp only [Utf8.valid, Bool.or_eq_true, Bool.and_eq_true, decide_eq_true_eq] at hv
    omega
  simp only [Utf8.encode, hv, if_true, Int.toNat_natCast]
  rw [if_neg (by omega)]
  split
  · exact ⟨1, by omega, by omega, rfl, _, rfl, by simp only [UInt8.toNat_ofNat']; omega⟩
  · split
    · exact ⟨2, by omega, by omega, rfl, _, rfl, by simp only [UInt8.toNat_ofNat']; omega⟩
    · exact ⟨3, by omega, by omega, rfl, _, rfl, by simp only [UInt8.toNat_ofNat']; omega⟩
theorem sep_at (k : Nat) (hk : k < 4) : ∃ c : UInt8, seps.data.toList[k]? = some c ∧ c.toNat < 128 ∧ ∃ h : k < seps.size, seps[k]'h = c := by
  match k, hk with
  | 0, _ => exact ⟨32, rfl, by decide, by decide, rfl⟩
  | 1, _ => exact ⟨9, rfl, by decide, by decide, rfl⟩
  | 2, _ => exact ⟨10, rfl, by decide, by decide, rfl⟩
  | 3, _ => exact ⟨59, rfl, by decide, by decide, rfl⟩
theorem index_none {l : List UInt8} {c : UInt8} (h : ∀ x ∈ l, x ≠ c) : Lib.indexByte l c = -1 := by
  have h1 := Lib.contains_iff_indexByte l c
  have h2 := Lib.indexByte_ge l c
  have h3 : l.contains c = false := by
    rw [Bool.eq_false_iff]
    intro h4
    exact h c (by simpa using h4) rfl
  rw [h3] at h1
  have := of_decide_eq_false h1.symm
  omega
set_option maxRecDepth 1000000 in
set_option maxHeartbeats 4000000 in
/-- strings.IndexRune of a rune beyond ASCII, among the bytes that end a word: none. -/
theorem indexrune_err (w : World) : Calls Tryz.prog 71 #[.string ⟨#[32, 9, 10, 59]⟩, .int .i32 65533] w fun e w' => e = .returned (.int .i64 (-1)) ∧ Ext w w' := by
  obtain ⟨s, hs⟩ : ∃ s, seps = s := ⟨_, rfl⟩
  have hsz : s.size = 4 := by rw [← hs]; rfl
  have hat : Hid (∀ k, k < 4 → ∃ c : UInt8, c.toNat < 128 ∧ ∃ h : k < s.size, s[k]'h = c) := hidden (fun k hk => by
    obtain ⟨c, -, h1, h2⟩ := sep_at k hk
    rw [← hs]
    exact ⟨c, h1, h2⟩)
  rw [show (⟨#[32, 9, 10, 59]⟩ : ByteArray) = s from hs]
  replace hs := hidden hs
  replace hsz := hidden hsz
  go_enter Tryz.func71, Tryz.ntmps71
  go_wp2_with fail
  go_loopg [5, 6] 4 (fun g _ _ wx => ∃ i : Nat, i + g = 4 ∧ wx = w.iter s i)
  case atStart => exact ⟨0, by omega, rfl⟩
  case round =>
    obtain ⟨i, hig, rfl⟩ := hrel
    cases gk with
    | zero =>
      obtain rfl : i = 4 := by omega
      have hnx := fun ty => run_next_end (P := Tryz.prog) w s 4 ty (by rw [hsz.out]; omega)
      go_wp2_with fail
      go_ret
      exact ⟨rfl, (Ext.refl w).alloc _⟩
    | succ g =>
      obtain ⟨x, hx, hi, hxi⟩ := hat.out i (by omega)
      have hnx := fun ty => run_next_ascii (P := Tryz.prog) w s i ty hi (by rw [hxi]; exact hx)
      rw [hxi] at hnx
      have hne : ((x.toNat : Nat) : Int) ≠ 65533 := by omega
      have hxe : (((x.toNat : Nat) : Int) == 65533) = false := by simpa using hne
      replace hxi := hidden hxi
      go_wp2_with fail
      go_roundg g
      case measure => omega
      case rel => exact ⟨i + 1, by omega, rfl⟩
set_option maxRecDepth 1000000 in
set_option maxHeartbeats 4000000 in
theorem indexrune_high (r : Nat) (h : 128 ≤ r) (hv : Utf8.valid (r : Int) = true) (hne : r ≠ 65533) (w : World) : Calls Tryz.prog 71 #[.string ⟨#[32, 9, 10, 59]⟩, .int .i32 (r : Int)] w fun e w' => e = .returned (.int .i64 (-1)) ∧ Ext w w' := by
  obtain ⟨s, hs⟩ : ∃ s, seps = s := ⟨_, rfl⟩
  obtain ⟨m, m1, m3, hsz, c, hc, hc1⟩ := encode_high r h hv
  have hval := Tryz.utf8_ValidRune (r : Int)
  have hvr : Lib.validRune (r : Int) = true := by
    simp only [Utf8.valid, Bool.or_eq_true, Bool.and_eq_true, decide_eq_true_eq] at hv
    simp only [Lib.validRune, decide_eq_true_eq]
    omega
  rw [hvr] at hval
  have hconv : ∀ w, (convert 21 9 (.int .i32 (r : Int))).run Tryz.prog w = .ok (.string (Utf8.encode (r : Int))) w := fun w => run_convert_int_string w _ _ _ _ (by kernel_rfl) (by kernel_rfl)
  obtain ⟨t, ht⟩ : ∃ t, Utf8.encode (r : Int) = t := ⟨_, rfl⟩
  rw [ht] at hconv hsz hc
  have hlt : ∀ w, (Builtin.len_ #[9] 3 #[.string t]).run Tryz.prog w = .ok (.int .i64 ((m : Int) + 1)) w := by intro w; rw [run_len_string _ _ _ _ (by kernel_rfl), hsz]; rfl
  have hls : ∀ w, (Builtin.len_ #[9] 3 #[.string s]).run Tryz.prog w = .ok (.int .i64 4) w := by intro w; rw [run_len_string _ _ _ _ (by kernel_rfl), ← hs]; rfl
  have hti : ∀ w, (Instr.index 9 (.string t) (.int .i64 (m : Int))).run Tryz.prog w = .ok (.int .u8 ((c.toNat : Nat) : Int)) w := by
    obtain ⟨c', h1, h2⟩ := str_at (s := t) (k := m) (by omega)
    rw [hc] at h1
    obtain rfl := Option.some.inj h1
    exact h2
  obtain ⟨d, hd, hd1, hd2, hd3⟩ := sep_at m (by omega)
  have hsi : ∀ w, (Instr.index 9 (.string s) (.int .i64 (m : Int))).run Tryz.prog w = .ok (.int .u8 ((d.toNat : Nat) : Int)) w := by
    obtain ⟨c', h1, h2⟩ := str_at (s := seps) (k := m) hd2
    rw [hd] at h1
    obtain rfl := Option.some.inj h1
    rw [← hs]
    exact h2
  have hsl : ∀ w, (Instr.slice 9 (.string s) (some (.int .i64 ((m : Int) + 1))) none none).run Tryz.prog w = .ok (.string (s.extract (m + 1) 4)) w := by
    intro w
    rw [run_slice_string_from_if w 9 s .i64 _ (by kernel_rfl), if_pos ⟨by omega, by rw [← hs]; show (m : Int) + 1 ≤ 4; omega⟩]
    rw [← hs]
    rfl
  have hib := indexbyte_any (s.extract (m + 1) 4) ((c.toNat : Nat) : Int)
  have hin : Lib.indexByte (s.extract (m + 1) 4).data.toList c = -1 := by
    refine index_none fun x hx => ?_
    have hm : x ∈ seps.data.toList := by
      rw [← hs] at hx
      have e : (seps.extract (m + 1) 4).data.toList = (seps.data.toList.drop (m + 1)) := by
        match m, m1, m3 with
        | 1, _, _ => rfl
        | 2, _, _ => rfl
        | 3, _, _ => rfl
      rw [e] at hx
      exact List.mem_of_mem_drop hx
    intro e
    subst e
    have : ∀ y ∈ seps.data.toList, y.toNat < 128 := by decide
    have := this x hm
    omega
  rw [show (((c.toNat : Nat) : Int)).toNat.toUInt8 = c by simp, hin] at hib
  obtain ⟨u, hu⟩ : ∃ u, s.extract (m + 1) 4 = u := ⟨_, rfl⟩
  rw [hu] at hib hsl
  have hcd : (((d.toNat : Nat) : Int) == ((c.toNat : Nat) : Int)) = false := by simp; omega
  rw [show (⟨#[32, 9, 10, 59]⟩ : ByteArray) = s from hs]
  have r1 : ¬ (r : Int) < 128 := by omega
  have r2 : ((r : Int) == 65533) = false := by simp; omega
  have r3 : (0 : Int) ≤ (r : Int) := by omega
  have v1 : IntKind.i64.wrap ((m : Int) + 1) = (m : Int) + 1 := IntWalk.i64_in _ (by omega)
  have v2 : IntKind.i64.wrap ((m : Int) + 1 - 1) = (m : Int) := by rw [IntWalk.i64_in _ (by omega)]; omega
  have m4 : (m : Int) < 4 := by omega
  obtain ⟨cc, hcc⟩ : ∃ y, ((c.toNat : Nat) : Int) = y := ⟨_, rfl⟩
  obtain ⟨dd, hdd⟩ : ∃ y, ((d.toNat : Nat) : Int) = y := ⟨_, rfl⟩
  obtain ⟨R, hR⟩ : ∃ y, ((r : Nat) : Int) = y := ⟨_, rfl⟩
  rw [hcc] at hti hib hcd
  rw [hdd] at hsi hcd
  rw [hR] at hconv r1 r2 r3 hval ⊢
  replace hib := hidden hib
  replace hval := hidden hval
  clear hd hd1 hd2 hd3 hc hc1 hin hu ht hs hsz hcc hdd hR hv hvr
  go_enter Tryz.func71, Tryz.ntmps71
  go_wp2_with fail
  refine (hval.out _).mono ?_
  rintro e w1 ⟨rfl, rfl⟩
  go_wp2_with fail
  go_step3
  go_wp2_with fail
  go_loopg [9] 0 (fun g i wx => i = .int .i64 (m : Int) ∧ wx = w1)
  case atStart => exact ⟨rfl, rfl⟩
  case round =>
    obtain ⟨rfl, rfl⟩ := hrel
    go_wp2_with fail
    go_step3
    go_wp2_with fail
    go_quiet (fail)
    go_wp2_with fail
    go_quiet ((go_at_call 48; exact (hib.out _).mono (fun e w' h => ⟨h.1, _, h.2⟩)))
    go_wp2_with fail
    show bodyPost Tryz.prog Tryz.f71 (fun e w' => e = .returned (.int .i64 (-1)) ∧ Ext wr w') Exit.ret _ _
    refine bodyPost_ret (results_tmp rfl _ _ _) rfl ?_
    exact ⟨rfl, (Ext.refl _).drewN _⟩
end Go.Proofs.YthjnchjfmbblfaaGreatDoor

/- strings.IndexAny at the bytes that end a word. -/
namespace Go.Proofs.YthjnchjfmbblfaaGreatDoor
open Go.RowKit
set_option linter.unusedVariables false
set_option linter.unusedSimpArgs false
attribute [local go_sem ↓] Go.wp_at_zero Go.wp_at_succ

theorem sep_low (x : UInt8) (h : 128 ≤ x.toNat) : seps.data.toList.contains x = false := by
  rw [Bool.eq_false_iff]
  intro e
  have h1 : ∀ y ∈ seps.data.toList, y.toNat < 128 := by decide
  have := h1 x (by simpa using e)
  omega
theorem uses_set (n : Int) (w : World) : Calls Tryz.prog 72 #[.int .i64 n] w fun e w' => e = .returned (.bool (decide (8 < n))) ∧ w' = w := Tryz.strings_shouldUseASCIISet n w
set_option maxHeartbeats 8000000 in
set_option maxRecDepth 1000000 in
theorem indexany_short (s : ByteArray) (h8 : s.size ≤ 8) (w : World) :
    Calls Tryz.prog 49 #[.string s, .string ⟨#[32, 9, 10, 59]⟩] w fun e w' => e = .returned (.int .i64 (Lib.indexAny s.data.toList seps.data.toList)) ∧ Ext w w' := by
  have hu := uses_set
  have hir := fun (x : UInt8) (hx : x.toNat < 128) (W : World) => Tryz.strings_IndexRune_ascii seps ((x.toNat : Nat) : Int) W (by omega) (by omega)
  have hlo := fun (x : UInt8) => Lib.contains_iff_indexByte seps.data.toList x
  obtain ⟨n, hn⟩ : ∃ n, s.size = n := ⟨_, rfl⟩
  have hlen : s.data.toList.length = n := by simpa using hn
  have hls : ∀ w, (Builtin.len_ #[9] 3 #[.string s]).run Tryz.prog w = .ok (.int .i64 (n : Int)) w := by intro w; rw [run_len_string _ _ _ _ (by kernel_rfl), hn]; rfl
  obtain ⟨t, ht⟩ : ∃ t, seps = t := ⟨_, rfl⟩
  have hlt : ∀ w, (Builtin.len_ #[9] 3 #[.string t]).run Tryz.prog w = .ok (.int .i64 4) w := by intro w; rw [run_len_string _ _ _ _ (by kernel_rfl), ← ht]; rfl
  have hemp : t.toList.isEmpty = false := by rw [emp_iff, ← ht]; rfl
  have hra : Hid (∀ r : Nat, 128 ≤ r → Utf8.valid (r : Int) = true → ∀ w, Calls Tryz.prog 71 #[.string t, .int .i32 (r : Int)] w fun e w' => e = .returned (.int .i64 (-1)) ∧ Ext w w') := hidden (fun r h1 h2 w => by
    rw [← ht]
    by_cases e : r = 65533
    · subst e; exact indexrune_err w
    · exact indexrune_high r h1 h2 e w)
  have hsl := sep_low
  rw [show (⟨#[32, 9, 10, 59]⟩ : ByteArray) = t from ht]
  simp only [ht] at hir hlo hsl ⊢
  have h8z : decide ((8 : Int) < (n : Int)) = false := decide_eq_false (by omega)
  have hu8 := hu (n : Int)
  rw [h8z] at hu8
  replace hu8 := hidden hu8
  replace hir := hidden hir
  replace hlo := hidden hlo
  replace hsl := hidden hsl
  replace hn := hidden hn
  replace hlen := hidden hlen
  replace ht := hidden ht
  clear hu h8z h8
  obtain ⟨q, hq⟩ : ∃ q, w.heap.size = q := ⟨_, rfl⟩
  go_enter Tryz.func49, Tryz.ntmps49
  go_wp2_with fail
  refine (hu8.out _).mono ?_
  rintro e w1 ⟨rfl, rfl⟩
  go_wp2_with fail
  go_loopg [9, 10] n (fun g _ _ wx => ∃ i : Nat, i + g = n ∧ Hid (Ext w1 wx) ∧ Hid (wx.heap[q]? = some (.stringIter s i)) ∧ Hid (Lib.NoAny s.data.toList t.data.toList i))
  case atStart =>
    refine ⟨0, by omega, (Ext.refl w1).alloc _, ?_, Lib.NoAny.zero _ _⟩
    rw [← hq]
    exact World.iter_heap w1 s 0
  case round =>
    obtain ⟨i, hig, hX, hI, hno⟩ := hrel
    cases gk with
    | zero =>
      obtain rfl : i = n := by omega
      have hnx := fun ty => Lib.run_next_end_at (P := Tryz.prog) wr q s i ty hI.out (by rw [hn.out]; omega)
      have hfin : Hid (Lib.indexAny s.data.toList t.data.toList = -1) := hidden (Lib.indexAny_none (by rw [hlen.out]; exact hno.out))
      go_wp2_with fail
      go_ret
      exact ⟨by rw [hfin.out]; rfl, hX.out⟩
    | succ g =>
      have hi : i < s.size := by rw [hn.out]; omega
      obtain ⟨x, hx⟩ : ∃ x : UInt8, s[i]'hi = x := ⟨_, rfl⟩
      have hxl : s.data.toList[i]? = some x := by rw [← hx]; exact Lib.data_getElem? s i hi
      have hBe : Below w1.heap.size w1 wr := hX.out
      by_cases hx128 : x.toNat < 128
      · have hnx := fun ty => Lib.run_next_ascii_at (P := Tryz.prog) wr q s i ty hI.out hi (by rw [hx]; exact hx128)
        rw [hx] at hnx
        have hX2 : Hid (Ext w1 (wr.iterAt q s (i + 1))) := hidden (Lib.below_iterAt hBe (by omega) s (i + 1))
        have hI2 : Hid ((wr.iterAt q s (i + 1)).heap[q]? = some (.stringIter s (i + 1))) := hidden (Lib.iterAt_heap wr q s i (i + 1) hI.out)
        obtain ⟨W2, hW2⟩ : ∃ W, wr.iterAt q s (i + 1) = W := ⟨_, rfl⟩
        rw [hW2] at hX2 hI2
        simp only [hW2] at hnx
        have hc := fun W => hir.out x hx128 W
        rw [show (((x.toNat : Nat) : Int)).toNat.toUInt8 = x by simp] at hc
        obtain ⟨z, hz⟩ : ∃ z, Lib.indexByte t.data.toList x = z := ⟨_, rfl⟩
        rw [hz] at hc
        have hl := hlo.out x
        rw [hz] at hl
        have hnext : Hid (z < 0 → Lib.NoAny s.data.toList t.data.toList (i + 1)) := hidden (fun h0 => Lib.NoAny.succ hno.out hxl (by rw [hl]; exact decide_eq_false (by omega)))
        have hhit : Hid (0 ≤ z → Lib.indexAny s.data.toList t.data.toList = (i : Int)) := hidden (fun h0 => Lib.indexAny_hit hno.out hxl (by rw [hl]; exact decide_eq_true h0))
        obtain ⟨y, hy⟩ : ∃ y, ((x.toNat : Nat) : Int) = y := ⟨_, rfl⟩
        rw [hy] at hc
        simp only [hy] at hnx
        replace hc := hidden hc
        clear hl hz hy hx hxl hBe hx128 hI hX hW2 hno
        go_wp2_with fail
        refine (hc.out _).mono ?_
        rintro e w2 ⟨rfl, rfl⟩
        by_cases h0 : z < 0
        · have hd0 : decide (0 ≤ z) = false := decide_eq_false (by omega)
          have hN := hnext.out h0
          replace hN := hidden hN
          clear hnext hhit
          go_wp2_with fail
          go_roundg g
          case measure => omega
          case rel => exact ⟨i + 1, by omega, hX2, hI2, hN⟩
        · have hd0 : 0 ≤ z := by omega
          have hH := hhit.out hd0
          replace hH := hidden hH
          clear hnext hhit
          go_wp2_with fail
          go_ret
          exact ⟨by rw [hH.out]; rfl, hX2.out⟩
      · obtain ⟨k1, k2⟩ := decode_skip s i hi (by rw [hx]; omega)
        obtain ⟨k3, k4⟩ := decode_high s i hi (by rw [hx]; omega)
        have hnx := fun ty => Lib.run_next_any_at (P := Tryz.prog) wr q s i ty hI.out hi
        obtain ⟨r, hr⟩ : ∃ r, (Utf8.decode s i).1 = r := ⟨_, rfl⟩
        obtain ⟨m, hm⟩ : ∃ r, (Utf8.decode s i).2 = r := ⟨_, rfl⟩
        rw [hr] at k2 k3
        rw [hm] at k1 k4
        simp only [hr, hm] at hnx
        have hin : i + m ≤ n := by
          obtain ⟨hj, -⟩ := k1 (i + m - 1) (by omega) (by omega)
          rw [hn.out] at hj
          omega
        have hN : Hid (Lib.NoAny s.data.toList t.data.toList (i + m)) := hidden (by
          intro j b hj hb
          by_cases hji : j < i
          · exact hno.out j b hji hb
          · obtain ⟨g1, g2⟩ := k1 j (by omega) hj
            have : s.data.toList[j]? = some (s[j]'g1) := Lib.data_getElem? s j g1
            rw [this] at hb
            obtain rfl := Option.some.inj hb
            exact hsl.out _ g2)
        have hX2 : Hid (Ext w1 (wr.iterAt q s (i + m))) := hidden (Lib.below_iterAt hBe (by omega) s (i + m))
        have hI2 : Hid ((wr.iterAt q s (i + m)).heap[q]? = some (.stringIter s (i + m))) := hidden (Lib.iterAt_heap wr q s i (i + m) hI.out)
        obtain ⟨W2, hW2⟩ : ∃ W, wr.iterAt q s (i + m) = W := ⟨_, rfl⟩
        rw [hW2] at hX2 hI2
        simp only [hW2] at hnx
        have hc := hra.out r k3 k2
        obtain ⟨y, hy⟩ : ∃ y, ((r : Nat) : Int) = y := ⟨_, rfl⟩
        rw [hy] at hc
        simp only [hy] at hnx
        replace hc := hidden hc
        replace hin := hidden hin
        clear hx hxl hBe hx128 hI hX hW2 hno k1 k2 k3 hr hm hy
        go_wp2_with fail
        refine (hc.out _).mono ?_
        rintro e w2 ⟨rfl, hX3⟩
        have hI3 : Hid (w2.heap[q]? = some (.stringIter s (i + m))) := hidden (by
          have h1 : Below W2.heap.size W2 w2 := hX3
          rw [h1.block q ((Array.getElem?_eq_some_iff.1 hI2.out).1)]
          exact hI2.out)
        have hX4 : Hid (Ext w1 w2) := hidden (hX2.out.trans hX3)
        replace hX3 := hidden hX3
        go_wp2_with fail
        go_roundg (n - (i + m))
        case measure => have := hin.out; omega
        case rel => exact ⟨i + m, by have := hin.out; omega, hX4, hI3, hN⟩
theorem indexany_seps (s : ByteArray) (hs : s.size ≤ 1000000) (w : World) :
    Calls Tryz.prog 49 #[.string s, .string ⟨#[32, 9, 10, 59]⟩] w fun e w' => e = .returned (.int .i64 (Lib.indexAny s.data.toList seps.data.toList)) ∧ Ext w w' := by
  by_cases h8 : s.size ≤ 8
  · exact indexany_short s h8 w
  · have hz : ∀ w, (zeroValue 130).run Tryz.prog w = .ok (.agg (Array.replicate 256 (.bool false))) w := (zero_of_info (n := 256) (by kernel_rfl)).1
    refine (Tryz.strings_IndexAny_long hz s seps w (by decide) (by omega) (by omega) (by decide) (fun j b hb => ?_)).mono ?_
    · have h1 : ∀ y ∈ seps.data.toList, y.toNat < 128 := by decide
      exact h1 b (List.mem_of_getElem? hb)
    · rintro e w' ⟨rfl, rfl⟩
      exact ⟨rfl, ((Ext.refl w).alloc _).alloc _⟩
end Go.Proofs.YthjnchjfmbblfaaGreatDoor

/- split: the words of a text in memory. -/
namespace Go.Proofs.YthjnchjfmbblfaaGreatDoor
open Go.RowKit
set_option linter.unusedVariables false
set_option linter.unusedSimpArgs false
attribute [local go_sem ↓] Go.wp_at_zero Go.wp_at_succ

/-- A byte string as a value; a word's cells. -/
def sv (l : List UInt8) : Value := .string ⟨l.toArray⟩
def cW (p : List UInt8 × Nat) : List Value := [sv p.1, .int .i64 (p.2 : Int)]
def vW (p : List UInt8 × Nat) : Value := .agg #[sv p.1, .int .i64 (p.2 : Int)]
theorem sv_of {s : ByteArray} {l : List UInt8} (h : s.data.toList = l) : Value.string s = sv l := by
  subst h
  rfl
theorem sep_tab : (List.range 256).all (fun k => seps.data.toList.contains (UInt8.ofNat k) == Src.isSep (UInt8.ofNat k) && (decide (0 ≤ Lib.indexByte [32, 9, 10] (UInt8.ofNat k)) == Src.isSp (UInt8.ofNat k))) = true := by decide +kernel
theorem sep_is (c : UInt8) : seps.data.toList.contains c = Src.isSep c ∧ decide (0 ≤ Lib.indexByte [32, 9, 10] c) = Src.isSp c := by
  have := List.all_eq_true.1 sep_tab c.toNat (List.mem_range.2 c.toNat_lt)
  rw [UInt8.ofNat_toNat] at this
  simp only [Bool.and_eq_true, beq_iff_eq] at this
  exact this
theorem drop_while (p : UInt8 → Bool) (l : List UInt8) : l.dropWhile p = l.drop (l.takeWhile p).length := by
  induction l with
  | nil => rfl
  | cons c l ih =>
    by_cases h : p c = true
    · simp [h, ih]
    · simp [h]
theorem take_while (p : UInt8 → Bool) (l : List UInt8) : l.takeWhile p = l.take (l.takeWhile p).length := by
  induction l with
  | nil => rfl
  | cons c l ih =>
    by_cases h : p c = true
    · simp [h]; exact ih
    · simp [h]
theorem ixany_spec : ∀ l : List UInt8, (0 ≤ Lib.indexAny l seps.data.toList → Lib.indexAny l seps.data.toList = ((l.takeWhile (! Src.isSep ·)).length : Int)) ∧ (Lib.indexAny l seps.data.toList < 0 → (l.takeWhile (! Src.isSep ·)).length = l.length)
  | [] => ⟨fun h => absurd h (by decide), fun _ => rfl⟩
  | c :: l => by
    obtain ⟨i1, i2⟩ := ixany_spec l
    have hg := Lib.indexAny_ge seps.data.toList l
    rw [Lib.indexAny, (sep_is c).1]
    cases h : Src.isSep c with
    | true => simp [h]
    | false =>
      simp only [Bool.false_eq_true, if_false]
      by_cases hm : Lib.indexAny l seps.data.toList = -1
      · rw [if_pos (by simpa using hm)]
        have := i2 (by omega)
        refine ⟨fun e => absurd e (by decide), fun _ => ?_⟩
        simp [h, this]
      · rw [if_neg (by simpa using hm)]
        have := i1 (by omega)
        refine ⟨fun _ => ?_, fun e => by omega⟩
        simp [h, this]
theorem ixbyte_spec : ∀ l : List UInt8, (0 ≤ Lib.indexByte l 10 → Lib.indexByte l 10 = ((l.takeWhile (· != 10)).length : Int)) ∧ (Lib.indexByte l 10 < 0 → (l.takeWhile (· != 10)).length = l.length)
  | [] => ⟨fun h => absurd h (by decide), fun _ => rfl⟩
  | c :: l => by
    obtain ⟨i1, i2⟩ := ixbyte_spec l
    have hg := Lib.indexByte_ge l 10
    rw [Lib.indexByte]
    by_cases h : c = 10
    · subst h; simp
    · have h1 : (c == 10) = false := by simpa using h
      rw [h1]
      simp only [Bool.false_eq_true, if_false]
      by_cases hm : Lib.indexByte l 10 = -1
      · rw [if_pos (by simpa using hm)]
        have := i2 (by omega)
        refine ⟨fun e => absurd e (by decide), fun _ => ?_⟩
        simp [h, this]
      · rw [if_neg (by simpa using hm)]
        have := i1 (by omega)
        refine ⟨fun _ => ?_, fun e => by omega⟩
        simp [h, this]
theorem word_info : (Tryz.prog.info? 86).map (fun i => (i.zero, i.size, i.bytes)) = some (some (.agg #[.string ⟨#[]⟩, .int .i64 0]), 2, 24) := by kernel_rfl
theorem slice_str {s : ByteArray} {n i j : Nat} (hn : s.size = n) (hij : i ≤ j) (hj : j ≤ n) : ∀ w, (Instr.slice 9 (.string s) (some (.int .i64 (i : Int))) (some (.int .i64 (j : Int))) none).run Tryz.prog w = .ok (.string (s.extract i j)) w := by
  intro w
  rw [run_slice_string_if w 9 s .i64 .i64 _ _ (by kernel_rfl), if_pos ⟨by omega, by omega⟩, if_pos ⟨by omega, by omega⟩]
  rfl
theorem slice_tail {s : ByteArray} {n i : Nat} (hn : s.size = n) (hi : i ≤ n) : ∀ w, (Instr.slice 9 (.string s) (some (.int .i64 (i : Int))) none none).run Tryz.prog w = .ok (.string (s.extract i s.size)) w := by
  intro w
  rw [run_slice_string_from_if w 9 s .i64 _ (by kernel_rfl), if_pos ⟨by omega, by omega⟩]
  rfl
theorem drop_at8 (L : List UInt8) (k : Nat) (c : UInt8) (h : L[k]? = some c) : L.drop k = c :: L.drop (k + 1) := by
  obtain ⟨hk, e⟩ := List.getElem?_eq_some_iff.1 h
  rw [← e]
  exact List.drop_eq_getElem_cons hk
set_option maxHeartbeats 8000000 in
set_option maxRecDepth 100000 in
theorem split_any (s : ByteArray) (hs : s.size ≤ 8192) (w : World) :
    Calls Tryz.prog 29 #[.string s] w fun e w' => ∃ v, e = .returned v ∧ w'.ownsRow w.heap.size 86 2 v (Src.wds s.data.toList 0).length ((Src.wds s.data.toList 0).flatMap cW) ∧ Ext w w' := by
  obtain ⟨n, hn⟩ : ∃ n, s.size = n := ⟨_, rfl⟩
  obtain ⟨L, hL⟩ : ∃ L, s.data.toList = L := ⟨_, rfl⟩
  have hlen : L.length = n := by rw [← hL]; simpa using hn
  have hls : ∀ w, (Builtin.len_ #[9] 3 #[.string s]).run Tryz.prog w = .ok (.int .i64 (n : Int)) w := by intro w; rw [run_len_string _ _ _ _ (by kernel_rfl), hn]; rfl
  have hat : Hid (∀ k, k < n → ∃ c : UInt8, L[k]? = some c ∧ ∀ w, (Instr.index 9 (.string s) (.int .i64 (k : Int))).run Tryz.prog w = .ok (.int .u8 ((c.toNat : Nat) : Int)) w) := hidden (fun k hk => by rw [← hL]; exact str_at (by omega))
  have hsl : Hid (∀ i j : Nat, i ≤ j → j ≤ n → ∀ w, (Instr.slice 9 (.string s) (some (.int .i64 (i : Int))) (some (.int .i64 (j : Int))) none).run Tryz.prog w = .ok (.string (s.extract i j)) w) := hidden (fun i j h1 h2 => slice_str hn h1 h2)
  have hst : Hid (∀ i : Nat, i ≤ n → ∀ w, (Instr.slice 9 (.string s) (some (.int .i64 (i : Int))) none none).run Tryz.prog w = .ok (.string (s.extract i s.size)) w) := hidden (fun i h => slice_tail hn h)
  have hex : Hid (∀ i, (s.extract i s.size).data.toList = L.drop i) := hidden (fun i => by rw [extract_tail, hL])
  have hex2 : Hid (∀ i j, Value.string (s.extract i j) = sv ((L.drop i).take (j - i))) := hidden (fun i j => sv_of (by rw [extract_list, hL]))
  have hsz : Hid (∀ i, (s.extract i s.size).size ≤ 1000000) := hidden (fun i => by rw [ByteArray.size_extract]; omega)
  have hib := indexbyte_any
  have hia := indexany_seps
  obtain ⟨i0, ii, iz0, iz1, iz2⟩ := info_parts word_info
  replace hn := hidden hn
  replace hlen := hidden hlen
  replace hib := hidden hib
  replace hia := hidden hia
  have hn8 : n ≤ 8192 := by rw [← hn.out]; exact hs
  clear hs
  go_enter Tryz.func29, Tryz.ntmps29
  go_wp2_with fail
  go_loopg [3, 4] n (fun g o i wr => ∃ (k : Nat) (v : Value) (C : List (List UInt8 × Nat)), o = v ∧ i = .int .i64 (k : Int) ∧ k + g = n ∧ C.length ≤ k ∧ Hid (Src.wds L 0 = C ++ Src.wds (L.drop k) k) ∧ Hid (wr.ownsRow w.heap.size 86 2 v C.length (C.flatMap cW)) ∧ Hid (Ext w wr))
  case atStart => exact ⟨0, _, [], rfl, rfl, by omega, Nat.le_refl _, rfl, World.ownsRow_nil _ _ _ _, Ext.refl _⟩
  case round =>
    obtain ⟨k, o, C, ho, rfl, hk, hCk, hW, hO, hX⟩ := hrel
    have ho' := ho.symm
    subst ho'
    have v0 : IntKind.i64.wrap (k : Int) = (k : Int) := IntWalk.i64_in _ (by omega)
    cases gk with
    | zero =>
      obtain rfl : k = n := by omega
      have hfin : Hid (wr.ownsRow w.heap.size 86 2 o (Src.wds L 0).length ((Src.wds L 0).flatMap cW)) := hidden (by
        have e : Src.wds L 0 = C := by
          have h := hW.out
          rw [List.drop_eq_nil_of_le (by rw [hlen.out]; exact Nat.le_refl _), Src.wds_nil, List.append_nil] at h
          exact h
        rw [e]
        exact hO.out)
      clear hW hO
      go_wp2_with fail
      go_ret
      exact ⟨o, rfl, hfin.out, hX.out⟩
    | succ g =>
      have hkn : k < n := by omega
      obtain ⟨c, hc, hix⟩ := hat.out k hkn
      have hdr := drop_at8 L k c hc
      have htl := hst.out k (by omega)
      have hlk : (L.drop k).length = n - k := by rw [List.length_drop, hlen.out]
      obtain ⟨y, hy⟩ : ∃ y, ((c.toNat : Nat) : Int) = y := ⟨_, rfl⟩
      rw [hy] at hix
      obtain ⟨u, hu⟩ : ∃ u, s.extract k s.size = u := ⟨_, rfl⟩
      have hul := hex.out k
      have husz := hsz.out k
      rw [hu] at hul husz
      simp only [hu] at htl
      by_cases h59 : c = 59
      · subst h59
        have hyb : (y == 59) = true := by rw [← hy]; decide
        have hcall := hib.out u 10
        obtain ⟨z, hz⟩ : ∃ z, Lib.indexByte u.data.toList (10 : Int).toNat.toUInt8 = z := ⟨_, rfl⟩
        simp only [hz] at hcall
        rw [hul] at hz
        obtain ⟨s1, s2⟩ := ixbyte_spec (L.drop k)
        rw [show (10 : Int).toNat.toUInt8 = (10 : UInt8) from rfl] at hz
        rw [hz] at s1 s2
        have hnote := Src.wds_note (L.drop (k + 1)) k
        rw [← hdr, drop_while] at hnote
        have ht1 : 1 ≤ ((L.drop k).takeWhile (· != 10)).length := by rw [hdr]; simp
        have ht2 : ((L.drop k).takeWhile (· != 10)).length ≤ n - k := by rw [← hlk]; exact (List.takeWhile_sublist _).length_le
        obtain ⟨t, ht⟩ : ∃ t, ((L.drop k).takeWhile (· != 10)).length = t := ⟨_, rfl⟩
        rw [ht] at s1 s2 hnote ht1 ht2
        rw [List.drop_drop] at hnote
        have hW2 : Hid (Src.wds L 0 = C ++ Src.wds (L.drop (k + t)) (k + t)) := hidden (by rw [hW.out, hnote])
        rw [hlk] at s2
        replace hcall := hidden hcall
        clear hz hnote hdr hc hul hu ht hW
        by_cases hz0 : z < 0
        · have ht3 := s2 hz0
          have hkt : k + t = n := by omega
          rw [hkt] at hW2
          clear s1 s2 ht3 ht1 ht2 hkt
          go_wp2_with fail
          refine (hcall.out _).mono ?_
          rintro e w2 ⟨rfl, rfl⟩
          go_wp2_with fail
          go_roundg 0
          case measure => omega
          case rel => exact ⟨n, _, C, rfl, rfl, by omega, by omega, hW2, hO, hX⟩
        · have ht3 := s1 (by omega)
          have hzp : (0 : Int) ≤ z := by omega
          have v1 : IntKind.i64.wrap ((k : Int) + z) = ((k + t : Nat) : Int) := by rw [IntWalk.i64_in _ (by omega)]; omega
          clear s1 s2
          replace ht3 := hidden ht3
          go_wp2_with fail
          refine (hcall.out _).mono ?_
          rintro e w2 ⟨rfl, rfl⟩
          go_wp2_with fail
          go_roundg (n - (k + t))
          case measure => omega
          case rel => exact ⟨k + t, _, C, rfl, rfl, by omega, by omega, hW2, hO, hX⟩
      · have hyb : (y == 59) = false := by
          rw [← hy]
          simp only [beq_eq_false_iff_ne, ne_eq]
          intro e
          apply h59
          apply UInt8.toNat_inj.1
          show c.toNat = 59
          omega
        have hcall := hib.out ⟨#[32, 9, 10]⟩ y
        rw [show y.toNat.toUInt8 = c by rw [← hy]; simp, show (⟨#[32, 9, 10]⟩ : ByteArray).data.toList = [32, 9, 10] from rfl] at hcall
        have hsp := (sep_is c).2
        obtain ⟨z, hz⟩ : ∃ z, Lib.indexByte [32, 9, 10] c = z := ⟨_, rfl⟩
        rw [hz] at hcall hsp
        replace hcall := hidden hcall
        by_cases hz0' : z < 0
        · have hns : Src.isSp c = false := by rw [← hsp]; exact decide_eq_false (by omega)
          have hsep : Src.isSep c = false := by simp [Src.isSep, hns, h59]
          have hword := Src.wds_word c (L.drop (k + 1)) k hsep
          rw [← hdr, drop_while] at hword
          have ht1 : 1 ≤ ((L.drop k).takeWhile (! Src.isSep ·)).length := by rw [hdr]; simp [hsep]
          have ht2 : ((L.drop k).takeWhile (! Src.isSep ·)).length ≤ n - k := by rw [← hlk]; exact (List.takeWhile_sublist _).length_le
          have htk := take_while (! Src.isSep ·) (L.drop k)
          have hcall2 := hia.out u husz
          obtain ⟨s1, s2⟩ := ixany_spec (L.drop k)
          rw [hul] at hcall2
          obtain ⟨z2, hz2'⟩ : ∃ z, Lib.indexAny (L.drop k) seps.data.toList = z := ⟨_, rfl⟩
          rw [hz2'] at hcall2 s1 s2
          obtain ⟨t, ht⟩ : ∃ t, ((L.drop k).takeWhile (! Src.isSep ·)).length = t := ⟨_, rfl⟩
          rw [ht] at s1 s2 hword ht1 ht2 htk
          rw [htk, List.drop_drop] at hword
          rw [hlk] at s2
          have hsub := hsl.out k (k + t) (by omega) (by omega)
          have hse := hex2.out k (k + t)
          rw [show k + t - k = t by omega] at hse
          simp only [hse] at hsub
          obtain ⟨x, hx⟩ : ∃ x, (L.drop k).take t = x := ⟨_, rfl⟩
          simp only [hx] at hsub hword
          have hW2 : Hid (Src.wds L 0 = (C ++ [(x, k)]) ++ Src.wds (L.drop (k + t)) (k + t)) := hidden (by rw [hW.out, hword, List.append_assoc]; rfl)
          have hfm : Hid ((C ++ [(x, k)]).flatMap cW = C.flatMap cW ++ [sv x, .int .i64 (k : Int)]) := hidden (by rw [List.flatMap_append]; rfl)
          have hbl : (n : Int) - (k : Int) = ((n - k : Nat) : Int) := by omega
          have v1 : IntKind.i64.wrap ((k : Int) + (t : Int)) = ((k + t : Nat) : Int) := by rw [IntWalk.i64_in _ (by omega)]; omega
          replace hcall2 := hidden hcall2
          replace hsub := hidden hsub
          obtain ⟨X, hXv⟩ : ∃ X : ByteArray, (⟨x.toArray⟩ : ByteArray) = X := ⟨_, rfl⟩
          have hsx : sv x = .string X := by rw [← hXv]; rfl
          rw [hsx] at hsub hfm
          clear hz hword hdr hc hul hu ht hW htk hse hx hsp hns hsep hz2' hXv hsx
          by_cases hz2 : z2 < 0
          · have ht3 := s2 hz2
            have hkt : k + t = n := by omega
            rw [hkt] at hW2 hsub v1
            have vnk : IntKind.i64.wrap ((n : Int) - (k : Int)) = (t : Int) := by rw [IntWalk.i64_in _ (by omega)]; omega
            have hsub' := hsub.out
            clear s1 s2 ht3 hbl
            replace hkt := hidden hkt
            go_wp2_with fail
            refine (hcall.out _).mono ?_
            rintro e w2 ⟨rfl, rfl⟩
            go_wp2_with fail
            refine (hcall2.out _).mono ?_
            rintro e w4 ⟨rfl, hX4⟩
            have hX5 := hX.out.trans hX4
            go_wp2_with (at_builtin; refine wpList_append_own_at _ rfl _ _ 47 rfl w.heap.size 86 i0 (.agg #[.string ⟨#[]⟩, .int .i64 0]) 2 24 Tryz.underlying47 ii iz0 iz1 iz2 rfl (by decide) o C.length (C.flatMap cW) rfl (World.ownsRow.alloc (own_ext hO.out hX4) _) ⟨w4.heap.size, 0, none⟩ 1 1 [.string X, .int .i64 (k : Int)] rfl rfl (World.news_of_block (cs := #[.string X, .int .i64 (k : Int)]) (t := 86) (fr := (0, 0)) (heap_alloc_new w4 _)) (by simp [Value.oneCell']) (by unfold maxLen; omega) (by omega) (by have := hX5.size; simp; omega) ?_; intro v3 w3 hown3 hgrow3 _ hb3)
            have hO3 : Hid (w3.ownsRow w.heap.size 86 2 v3 (C ++ [(x, k)]).length ((C ++ [(x, k)]).flatMap cW)) := hidden (by
              rw [hfm.out, List.length_append]
              exact hown3)
            have hX3 : Hid (Ext w w3) := hidden (((Chg.of_ext [] hX5).alloc _).grown hgrow3 (fun b hb => Or.inr (own_lt hO.out hb).1)).ext
            clear hown3 hgrow3 hb3
            go_wp2_with fail
            go_roundg 0
            case measure => omega
            case rel => exact ⟨n, _, C ++ [(x, k)], rfl, rfl, by omega, by rw [List.length_append, List.length_singleton]; omega, hW2, hO3, hX3⟩
          · have ht3 := s1 (by omega)
            subst ht3
            have hsub' := hsub.out
            obtain ⟨KT, hKT⟩ : ∃ y, (((k + t : Nat)) : Int) = y := ⟨_, rfl⟩
            rw [hKT] at v1
            simp only [hKT] at hsub'
            replace hKT := hidden hKT
            have hkt : k + t ≤ n := by omega
            clear s1 s2 hbl
            go_wp2_with fail
            refine (hcall.out _).mono ?_
            rintro e w2 ⟨rfl, rfl⟩
            go_wp2_with fail
            refine (hcall2.out _).mono ?_
            rintro e w4 ⟨rfl, hX4⟩
            have hX5 := hX.out.trans hX4
            go_wp2_with (at_builtin; refine wpList_append_own_at _ rfl _ _ 47 rfl w.heap.size 86 i0 (.agg #[.string ⟨#[]⟩, .int .i64 0]) 2 24 Tryz.underlying47 ii iz0 iz1 iz2 rfl (by decide) o C.length (C.flatMap cW) rfl (World.ownsRow.alloc (own_ext hO.out hX4) _) ⟨w4.heap.size, 0, none⟩ 1 1 [.string X, .int .i64 (k : Int)] rfl rfl (World.news_of_block (cs := #[.string X, .int .i64 (k : Int)]) (t := 86) (fr := (0, 0)) (heap_alloc_new w4 _)) (by simp [Value.oneCell']) (by unfold maxLen; omega) (by omega) (by have := hX5.size; simp; omega) ?_; intro v3 w3 hown3 hgrow3 _ hb3)
            have hO3 : Hid (w3.ownsRow w.heap.size 86 2 v3 (C ++ [(x, k)]).length ((C ++ [(x, k)]).flatMap cW)) := hidden (by
              rw [hfm.out, List.length_append]
              exact hown3)
            have hX3 : Hid (Ext w w3) := hidden (((Chg.of_ext [] hX5).alloc _).grown hgrow3 (fun b hb => Or.inr (own_lt hO.out hb).1)).ext
            clear hown3 hgrow3 hb3
            go_wp2_with fail
            go_roundg (n - (k + t))
            case measure => omega
            case rel => exact ⟨k + t, _, C ++ [(x, k)], rfl, (by rw [hKT.out]), by omega, by rw [List.length_append, List.length_singleton]; omega, hW2, hO3, hX3⟩
        · have hzp : (0 : Int) ≤ z := by omega
          have hns : Src.isSp c = true := by rw [← hsp]; exact decide_eq_true (by omega)
          have hstep := Src.wds_sp c (L.drop (k + 1)) k hns
          rw [← hdr] at hstep
          have hW2 : Hid (Src.wds L 0 = C ++ Src.wds (L.drop (k + 1)) (k + 1)) := hidden (by rw [hW.out, hstep])
          have v1 : IntKind.i64.wrap ((k : Int) + 1) = (k : Int) + 1 := IntWalk.i64_in _ (by omega)
          clear hz hstep hdr hc hul hu hW hsp hns
          go_wp2_with fail
          refine (hcall.out _).mono ?_
          rintro e w2 ⟨rfl, rfl⟩
          go_wp2_with fail
          go_roundg g
          case measure => omega
          case rel => exact ⟨k + 1, _, C, rfl, rfl, by omega, by omega, hW2, hO, hX⟩
end Go.Proofs.YthjnchjfmbblfaaGreatDoor

/- The reader of the assembler in memory; next. -/
namespace Go.Proofs.YthjnchjfmbblfaaGreatDoor
open Go.RowKit Go.ChangeMaps
set_option linter.unusedVariables false
set_option linter.unusedSimpArgs false
attribute [local go_sem ↓] Go.wp_at_zero Go.wp_at_succ

/-- The constants in a map. -/
def ConM (w : World) (m : Nat) (con : List (List UInt8 × Nat)) : Prop := ∃ l, w.heap[m]? = some (tblS l) ∧ ∀ k : List UInt8, lookS ⟨k.toArray⟩ l = (Src.conF con k).map fun n : Nat => Value.int .i64 (n : Int)
/-- The reader in block r, its map in block m; its rows lie in blocks from B on, its words below. -/
structure RV (w : World) (B r m e : Nat) (s : Src.RS) (vw vA vC va vl : Value) : Prop where
  blk : Blk w r 50 [vw, .int .i64 (e : Int), vA, .int .i64 (s.loc.length : Int), vC, va, vl, .map (some m)]
  ws : Rd w 2 vw s.ws.length (s.ws.flatMap cW)
  wlo : ∀ x, vw.ownBlock = some x → x < B ∧ x ≠ r
  oA : w.ownsRow B 63 2 vA s.A.length (s.A.flatMap cA)
  oC : w.ownsRow B 56 2 vC s.C.length (s.C.flatMap cI)
  oa : w.ownsRow B 9 1 va s.arr.length (s.arr.map sv)
  ol : w.ownsRow B 9 1 vl s.loc.length (s.loc.map sv)
  dis : ∀ x, va.ownBlock = some x → vl.ownBlock ≠ some x
  map : ConM w m s.con
  rB : r < B
  mB : m < B
  BS : B ≤ w.heap.size
def RMem (w : World) (B r m e : Nat) (s : Src.RS) : Prop := ∃ vw vA vC va vl, RV w B r m e s vw vA vC va vl
theorem ConM.chg {w w' : World} {S : List Nat} {m : Nat} {con : List (List UInt8 × Nat)} (h : ConM w m con) (k : Chg S w w') (hm : m ∉ S) : ConM w' m con := by
  obtain ⟨l, h1, h2⟩ := h
  exact ⟨l, k.heap hm h1, h2⟩
section
variable {w w' : World} {B r m e : Nat} {s : Src.RS} {vw vA vC va vl : Value}
theorem RV.mr (h : RV w B r m e s vw vA vC va vl) : m ≠ r := by
  intro e1
  obtain ⟨l, h1, -⟩ := h.map
  have h2 := h.blk
  unfold Blk at h2
  rw [e1, h2] at h1
  cases h1
/-- What writes none of the reader's blocks keeps it. -/
theorem RV.chg (h : RV w B r m e s vw vA vC va vl) {S : List Nat} (k : Chg S w w') (hS : ∀ x ∈ S, x ≠ r ∧ x ≠ m ∧ vw.ownBlock ≠ some x ∧ vA.ownBlock ≠ some x ∧ vC.ownBlock ≠ some x ∧ va.ownBlock ≠ some x ∧ vl.ownBlock ≠ some x) : RV w' B r m e s vw vA vC va vl where
  blk := h.blk.chg k (fun hm => (hS _ hm).1 rfl)
  ws := Rd.chg h.ws k (fun x hx _ => (hS x hx).2.2.1)
  wlo := h.wlo
  oA := own_chg h.oA k (fun x hx => (hS x hx).2.2.2.1)
  oC := own_chg h.oC k (fun x hx => (hS x hx).2.2.2.2.1)
  oa := own_chg h.oa k (fun x hx => (hS x hx).2.2.2.2.2.1)
  ol := own_chg h.ol k (fun x hx => (hS x hx).2.2.2.2.2.2)
  dis := h.dis
  map := h.map.chg k (fun hm => (hS _ hm).2.1 rfl)
  rB := h.rB
  mB := h.mB
  BS := Nat.le_trans h.BS k.size
theorem RV.ext (h : RV w B r m e s vw vA vC va vl) (k : Ext w w') : RV w' B r m e s vw vA vC va vl := h.chg (Chg.of_ext [] k) (by simp)
theorem own_base {w : World} {B : Nat} {e : TypeId} {sz n : Nat} {v : Value} {cs : List Value} (h : w.ownsRow B e sz v n cs) {x : Nat} (hx : x < B) : v.ownBlock ≠ some x := fun hv => by have := (own_lt h hv).1; omega
/-- A block that lies above what was there is none of the reader's. -/
theorem RV.new (h : RV w B r m e s vw vA vC va vl) {W : World} (hW : w.heap.size ≤ W.heap.size) {x : Nat} (hx : w.heap.size ≤ x) : x ≠ r ∧ x ≠ m ∧ vw.ownBlock ≠ some x ∧ vA.ownBlock ≠ some x ∧ vC.ownBlock ≠ some x ∧ va.ownBlock ≠ some x ∧ vl.ownBlock ≠ some x := by
  have h1 := h.rB
  have h2 := h.mB
  have h3 := h.BS
  refine ⟨by omega, by omega, fun hv => ?_, fun hv => ?_, fun hv => ?_, fun hv => ?_, fun hv => ?_⟩
  · have := (h.wlo x hv).1; omega
  · have := (own_lt h.oA hv).2; omega
  · have := (own_lt h.oC hv).2; omega
  · have := (own_lt h.oa hv).2; omega
  · have := (own_lt h.ol hv).2; omega
/-- The words go on. -/
theorem RV.setW (h : RV w B r m e s vw vA vC va vl) {v' : Value} {ws' : List (List UInt8 × Nat)} (hr : Rd w 2 v' ws'.length (ws'.flatMap cW)) (hb : ∀ x, v'.ownBlock = some x → x < B ∧ x ≠ r) : RV (w.setCell ⟨r, 0, none⟩ v') B r m e { s with ws := ws' } v' vA vC va vl := by
  have hC := (Chg.refl [r] w).setCell (p := ⟨r, 0, none⟩) (Or.inl (by simp)) v'
  exact {
    blk := h.blk.set 0 v'
    ws := Rd.chg hr hC (fun x hx _ hv => by simp at hx; exact (hb x hv).2 hx)
    wlo := hb
    oA := own_chg h.oA hC (fun x hx => by simp at hx; subst hx; exact own_base h.oA h.rB)
    oC := own_chg h.oC hC (fun x hx => by simp at hx; subst hx; exact own_base h.oC h.rB)
    oa := own_chg h.oa hC (fun x hx => by simp at hx; subst hx; exact own_base h.oa h.rB)
    ol := own_chg h.ol hC (fun x hx => by simp at hx; subst hx; exact own_base h.ol h.rB)
    dis := h.dis
    map := h.map.chg hC (by simp; exact h.mr)
    rB := h.rB
    mB := h.mB
    BS := by have := hC.size; have := h.BS; omega }
end
/-- What a method that only reads words leaves. -/
def ReadP (B r m e : Nat) (s' : Src.RS) (w w' : World) : Prop := RMem w' B r m e s' ∧ Chg [r] w w'
set_option maxHeartbeats 4000000 in
set_option maxRecDepth 100000 in
theorem next_any (B r m e : Nat) (s : Src.RS) (w : World) (hR : RMem w B r m e s) :
    Calls Tryz.prog 31 #[.pointer (some ⟨r, 0, none⟩)] w fun x w' => x = .returned (vW (Src.nextF e s).1) ∧ ReadP B r m e (Src.nextF e s).2 w w' := by
  obtain ⟨vw, vA, vC, va, vl, h⟩ := hR
  cases hs : s.ws with
  | nil =>
    have hws := h.ws
    rw [hs] at hws
    obtain ⟨a, cap, hv, c1, c2, c3⟩ := Rd.shape hws
    have hv' : vw = .slice a 0 cap := hv
    subst hv'
    have hnf : Src.nextF e s = (([], e), s) := by unfold Src.nextF; rw [hs]
    rw [hnf]
    have X0 := (Ext.refl w).alloc (.cells #[.string ⟨#[]⟩, .int .i64 0] 86)
    have p0 := (h.ext X0).blk.cell 0 _ rfl
    have p1 := (h.ext X0).blk.cell 1 _ rfl
    replace h := hidden h
    clear hws hs hnf
    go_enter Tryz.func31, Tryz.ntmps31
    go_wp2_with fail
    have hrow := Blk.new w [.string ⟨#[]⟩, .int .i64 (e : Int)] 86
    have hX : Ext w (w.alloc (.cells #[.string ⟨#[]⟩, .int .i64 (e : Int)] 86)) := (Ext.refl w).alloc _
    exact bodyPost_ret (v := vW ([], e)) (results_cell_row (p := 2) (ty := 86) (by kernel_rfl) _ _ w.heap.size 86 #[.string ⟨#[]⟩, .int .i64 (e : Int)] (0, 0) _ rfl hrow Tryz.underlying86 rfl (by kernel_rfl)) rfl ⟨rfl, ⟨_, _, _, _, _, h.out.ext hX⟩, Chg.of_ext _ hX⟩
  | cons p rest =>
    have hws := h.ws
    rw [hs] at hws
    obtain ⟨a, cap, hv, c1, c2, c3⟩ := Rd.shape hws
    subst hv
    obtain ⟨b, off, rfl, hbs, -⟩ := hws.cells (by simp)
    have hnf : Src.nextF e s = (p, { s with ws := rest }) := by unfold Src.nextF; rw [hs]
    rw [hnf]
    obtain ⟨n, hn⟩ : ∃ n, rest.length = n := ⟨_, rfl⟩
    have hln : (p :: rest).length = n + 1 := by simp [hn]
    rw [hln] at hws h c1
    obtain ⟨x0, x1⟩ := rd2_at (E := cW) (fun _ => rfl) hws 0 p rfl _ _ rfl
    obtain ⟨tx, pl⟩ := p
    have hsv : sv (tx, pl).1 = .string ⟨tx.toArray⟩ := rfl
    rw [hsv] at x0
    obtain ⟨T, hT⟩ : ∃ T : ByteArray, ⟨tx.toArray⟩ = T := ⟨_, rfl⟩
    have hTv : vW (tx, pl) = .agg #[.string T, .int .i64 (pl : Int)] := by rw [← hT]; rfl
    rw [hT] at x0
    rw [hTv]
    rw [Nat.zero_mul, Nat.add_zero] at x0 x1
    obtain ⟨a', cap', hcut, hRc, hbc⟩ := cut_l (P := Tryz.prog) (t := 47) Tryz.underlying47 (fun w => by kernel_rfl) hws 1 1 rfl (by omega)
    rw [show n + 1 - 1 = n by omega] at hRc hbc
    simp only [show n + 1 - 1 = n by omega] at hcut
    rw [show List.drop (1 * 2) (((tx, pl) :: rest).flatMap cW) = rest.flatMap cW from rfl] at hRc
    have hbn : ∀ x, (Value.slice a' n cap').ownBlock = some x → x < B ∧ x ≠ r := fun x hx => by
      by_cases hg : (Value.slice (some ⟨b, off, none⟩) (n + 1) cap).ownBlock = some x
      · exact h.wlo x hg
      · exact absurd hx (hbc x hg)
    have hb' := h.wlo b rfl
    have hrl := h.blk.lt
    obtain ⟨q, hq⟩ : ∃ q, w.heap.size = q := ⟨_, rfl⟩
    have X0 := (Ext.refl w).alloc (.cells #[.string ⟨#[]⟩, .int .i64 0] 86)
    have p0 := h.blk.cell 0 _ rfl
    have f0 := h.blk.frozen 0
    have hp1 : ((n + 1 : Nat) : Int) = (n : Int) + 1 := by omega
    have hn0 : (((n : Int) + 1) == 0) = false := by simp; omega
    replace h := hidden h
    replace hws := hidden hws
    replace hRc := hidden hRc
    replace hbn := hidden hbn
    replace hn := hidden hn
    rw [hq] at hbs hrl
    clear hbc hln hs hnf hsv hT hTv c2 c3
    go_enter Tryz.func31, Tryz.ntmps31
    go_wp2_with fail
    have hsz : (w.setCell ⟨r, 0, none⟩ (.slice a' n cap')).heap.size = q := by simp [World.setCell, hq]
    have hrow := (Blk.new (w.setCell ⟨r, 0, none⟩ (.slice a' n cap')) [.string T, .int .i64 (pl : Int)] 86).alloc (.cells #[.string T, .int .i64 (pl : Int)] 86)
    rw [hsz] at hrow
    have hRV : RV (w.setCell ⟨r, 0, none⟩ (.slice a' n cap')) B r m e { s with ws := rest } (.slice a' n cap') vA vC va vl := h.out.setW (by rw [hn.out]; exact hRc.out) hbn.out
    have hX : Ext (w.setCell ⟨r, 0, none⟩ (.slice a' n cap')) (((w.setCell ⟨r, 0, none⟩ (.slice a' n cap')).alloc (.cells #[.string T, .int .i64 (pl : Int)] 86)).alloc (.cells #[.string T, .int .i64 (pl : Int)] 86)) := ((Ext.refl _).alloc _).alloc _
    have hC : Chg [r] w (((w.setCell ⟨r, 0, none⟩ (.slice a' n cap')).alloc (.cells #[.string T, .int .i64 (pl : Int)] 86)).alloc (.cells #[.string T, .int .i64 (pl : Int)] 86)) := (((Chg.refl [r] w).setCell (p := ⟨r, 0, none⟩) (Or.inl (by simp)) _).alloc _).alloc _
    exact bodyPost_ret (v := .agg #[.string T, .int .i64 (pl : Int)]) (results_cell_row (p := 2) (ty := 86) (by kernel_rfl) _ _ q 86 #[.string T, .int .i64 (pl : Int)] (0, 0) _ rfl hrow Tryz.underlying86 rfl (by kernel_rfl)) rfl ⟨rfl, ⟨_, _, _, _, _, hRV.ext hX⟩, hC⟩
end Go.Proofs.YthjnchjfmbblfaaGreatDoor
