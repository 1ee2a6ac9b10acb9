/- Layer 53: the tables of the field: field, mul, inv, Mul. -/
import Derived.Test.YtpfelklhejpnnaaGa
import Derived.Test.YtpfelklhejpnnaaMz
import Derived.Test.YtpfelklhejpnnaaHbd
import Derived.Test.YtpfelklhejpnnaaT
import Derived.Laws.Rows
import Derived.BigQuiet
import Derived.Deep.Cut
import Derived.Deep.QuietTactic
import Derived.Outline
namespace Go.Proofs.Ytpfelklhejpnnaa
open Go.RowKit
set_option linter.unusedVariables false
set_option linter.unusedSimpArgs false
attribute [local go_sem ↓] Go.wp_at_zero Go.wp_at_succ

theorem ofInt64g (a : Int) (h0 : 0 ≤ a) (h1 : a < 18446744073709551616) : (BitVec.ofInt 64 a).toNat = a.toNat := by
  rw [BitVec.toNat_ofInt]
  have : a % ((2 ^ 64 : Nat) : Int) = a := Int.emod_eq_of_lt h0 (by simp; omega)
  rw [this]
theorem bits_xor64g (a b : Int) (a0 : 0 ≤ a) (a1 : a ≤ 65535) (b0 : 0 ≤ b) (b1 : b ≤ 65535) : bits .xor .i64 a b = ((a.toNat ^^^ b.toNat : Nat) : Int) := by
  show IntKind.i64.wrap (((BitVec.ofInt 64 a) ^^^ (BitVec.ofInt 64 b)).toNat : Int) = _
  rw [BitVec.toNat_xor, ofInt64g a a0 (by omega), ofInt64g b b0 (by omega)]
  have := Nat.xor_lt_two_pow (n := 16) (x := a.toNat) (y := b.toNat) (by omega) (by omega)
  exact IntWalk.i64_in _ (by omega)
theorem ofInt8g (a : Int) (h0 : 0 ≤ a) (h1 : a < 256) : (BitVec.ofInt 8 a).toNat = a.toNat := by
  rw [BitVec.toNat_ofInt]
  have : a % ((2 ^ 8 : Nat) : Int) = a := Int.emod_eq_of_lt h0 (by simp; omega)
  rw [this]
theorem bits_xor8 (a b : Nat) (a1 : a < 256) (b1 : b < 256) : bits .xor .u8 (a : Int) (b : Int) = ((a ^^^ b : Nat) : Int) := by
  show IntKind.u8.wrap (((BitVec.ofInt 8 a) ^^^ (BitVec.ofInt 8 b)).toNat : Int) = _
  rw [BitVec.toNat_xor, ofInt8g a (by omega) (by omega), ofInt8g b (by omega) (by omega)]
  have := Gf.xor_lt a1 b1
  exact IntWalk.u8_in _ (by simp; omega)
/-- The tables behind k rounds. -/
def tabA (k i : Nat) : Int := if i < k then (Gf.pw i : Int) else 0
def tabB (k a : Nat) : Int := if 0 < a ∧ Gf.lg a < k then (Gf.lg a : Int) else 0
def tabK (k : Nat) : List Value := (List.range 255).map (fun i => Value.int .u8 (tabA k i)) ++ (List.range 256).map (fun a => Value.int .i64 (tabB k a))
theorem tabK_len (k : Nat) : (tabK k).length = 511 := by simp [tabK]
theorem tabK_lo (k i : Nat) (h : i < 255) : (tabK k)[i]? = some (.int .u8 (tabA k i)) := by
  unfold tabK
  rw [List.getElem?_append_left (by simpa using h), List.getElem?_map, List.getElem?_range h]; rfl
theorem tabK_hi (k a : Nat) (h : a < 256) : (tabK k)[255 + a]? = some (.int .i64 (tabB k a)) := by
  unfold tabK
  rw [List.getElem?_append_right (by simp), List.length_map, List.length_range, Nat.add_sub_cancel_left, List.getElem?_map, List.getElem?_range h]; rfl
theorem tabK_zero : tabK 0 = List.replicate 255 (Value.int .u8 0) ++ List.replicate 256 (Value.int .i64 0) := by
  have e1 : (fun i => Value.int .u8 (tabA 0 i)) = fun _ => Value.int .u8 0 := by funext i; unfold tabA; rw [if_neg (by omega)]
  have e2 : (fun a => Value.int .i64 (tabB 0 a)) = fun _ => Value.int .i64 0 := by funext i; unfold tabB; rw [if_neg (by omega)]
  unfold tabK
  rw [e1, e2, List.map_const', List.map_const', List.length_range, List.length_range]
theorem tabK_step {k : Nat} (h : k < 255) : ((tabK k).set k (.int .u8 (Gf.pw k : Int))).set (255 + Gf.pw k) (.int .i64 (k : Int)) = tabK (k + 1) := by
  have hp := Gf.pw_lt k
  have hp0 := Gf.pw_pos h
  have hl := Gf.lg_pw h
  refine List.ext_getElem? fun j => ?_
  by_cases hj : j < 255
  · rw [List.getElem?_set_ne (by omega), tabK_lo _ _ hj]
    by_cases e : k = j
    · subst e
      rw [List.getElem?_set_self (by rw [tabK_len]; omega)]
      unfold tabA; rw [if_pos (by omega)]
    · rw [List.getElem?_set_ne e, tabK_lo _ _ hj]
      unfold tabA
      by_cases h2 : j < k
      · rw [if_pos h2, if_pos (by omega)]
      · rw [if_neg h2, if_neg (by omega)]
  · by_cases hj2 : j < 511
    · obtain ⟨a, rfl⟩ : ∃ a, j = 255 + a := ⟨j - 255, by omega⟩
      have ha : a < 256 := by omega
      rw [tabK_hi _ _ ha]
      by_cases e : Gf.pw k = a
      · subst e
        rw [List.getElem?_set_self (by rw [List.length_set, tabK_len]; omega)]
        unfold tabB
        rw [hl, if_pos ⟨hp0, by omega⟩]
      · rw [List.getElem?_set_ne (by omega), List.getElem?_set_ne (by omega), tabK_hi _ _ ha]
        unfold tabB
        by_cases h0 : 0 < a
        · have hne : Gf.lg a ≠ k := fun e2 => e (by rw [← e2, Gf.pw_lg h0 ha])
          by_cases h2 : Gf.lg a < k
          · rw [if_pos ⟨h0, h2⟩, if_pos ⟨h0, by omega⟩]
          · rw [if_neg (by omega), if_neg (by omega)]
        · rw [if_neg (by omega), if_neg (by omega)]
    · rw [List.getElem?_eq_none (by simp [tabK_len]; omega), List.getElem?_eq_none (by rw [tabK_len]; omega)]
theorem tabA_all {i : Nat} (h : i < 255) : tabA 255 i = (Gf.pw i : Int) := if_pos h
theorem tabB_all {a : Nat} (h : a < 256) : tabB 255 a = (Gf.lg a : Int) := by
  unfold tabB
  by_cases h0 : 0 < a
  · rw [if_pos ⟨h0, Gf.lg_lt h⟩]
  · rw [if_neg (by omega), show a = 0 by omega, Gf.lg_zero]; rfl
/-- The tables lie in a block. -/
def Tab (w : World) (g : Nat) : Prop := Blk w g 111 (tabK 255)
theorem Tab.ext {w w' : World} {g : Nat} (h : Tab w g) (k : Ext w w') : Tab w' g := Blk.ext h k
def FieldP (w : World) (e : Ending) (w' : World) : Prop := ∃ g, e = .returned (.pointer (some ⟨g, 0, none⟩)) ∧ Tab w' g ∧ w.heap.size ≤ g ∧ Ext w w'
theorem zero511 : Try.zeroCells111 = (tabK 0).toArray := by
  rw [tabK_zero]
  kernel_rfl
set_option maxRecDepth 100000 in
set_option maxHeartbeats 2000000 in
theorem field_any (w : World) : Calls Try.prog 55 #[] w (FieldP w) := by
  have hb0 : Blk (w.alloc (.cells Try.zeroCells111 111)) w.heap.size 111 (tabK 0) := by
    rw [zero511]; exact Blk.new w _ _
  have hX0 := (Ext.refl w).alloc (.cells Try.zeroCells111 111)
  replace hb0 := hidden hb0
  replace hX0 := hidden hX0
  go_enter Try.func55, Try.ntmps55
  go_wp2_with fail
  obtain ⟨g, hg⟩ : ∃ g, w.heap.size = g := ⟨_, rfl⟩
  rw [hg] at hb0 ⊢
  replace hg := hidden hg
  go_loopw [2, 6] (fun u i wr => ∃ k : Nat, i = .int .i64 (k : Int) ∧ k ≤ 255 ∧ u = .int .i64 (Gf.pw k : Int) ∧ Hid (Blk wr g 111 (tabK k)) ∧ Hid (Ext w wr)) (fun _ i _ => 255 - (intOf i).toNat)
  case atStart => exact ⟨0, rfl, by omega, rfl, hb0, hX0⟩
  case round =>
    clear hb0 hX0
    obtain ⟨k, rfl, hk, rfl, hB, hX⟩ := hrel
    have v1 : IntKind.i64.wrap ((k : Int) + 1) = (k : Int) + 1 := IntWalk.i64_in _ (by omega)
    obtain ⟨w2, hWW⟩ : ∃ X, X = wr := ⟨_, rfl⟩
    subst hWW
    by_cases hlt : k < 255
    · have hlt2 : (k : Int) < 255 := by omega
      have hst := tabK_step hlt
      have hps := Gf.pw_succ hlt
      have hp := Gf.pw_lt k
      unfold Gf.xt at hps
      obtain ⟨n, hn⟩ : ∃ n, Gf.pw k = n := ⟨_, rfl⟩
      rw [hn] at hst hps hp ⊢
      have v2 : IntKind.u8.wrap (n : Int) = (n : Int) := IntWalk.u8_in _ (by omega)
      have c1 := hB.out.cell k _ (tabK_lo k k hlt)
      have f1 := hB.out.frozen k
      have hB2 := hB.out.set k (.int .u8 (n : Int))
      have c2 := hB2.cell (255 + n) _ (by rw [List.getElem?_set_ne (by omega)]; exact tabK_hi k n hp)
      have f2 := hB2.frozen (255 + n)
      have hB3 := hB2.set (255 + n) (.int .i64 (k : Int))
      rw [hst] at hB3
      have n1 : (n : Int) < 256 := by omega
      have hX3 := (hX.out.setCell (p := ⟨g, k, none⟩) (by rw [hg.out]; exact Nat.le_refl _) (.int .u8 (n : Int))).setCell (p := ⟨g, 255 + n, none⟩) (by rw [hg.out]; exact Nat.le_refl _) (.int .i64 (k : Int))
      replace hps := hidden hps
      replace hB3 := hidden hB3
      replace hX3 := hidden hX3
      clear hst hn hB2 hB hX
      by_cases h2 : 255 < 2 * n
      · have e2 : (255 : Int) < (n : Int) * 2 := by omega
        have hps2 := hps.out
        rw [if_pos h2] at hps2
        have hxx := bits_xor64g ((n : Int) * 2) 285 (by omega) (by omega) (by omega) (by omega)
        rw [show ((n : Int) * 2).toNat = 2 * n by omega, show (285 : Int).toNat = 285 from rfl, ← hps2] at hxx
        replace hxx := hidden hxx
        clear hps2
        go_wp2_with fail
        exact ⟨⟨k + 1, by go_num, by omega, by rw [hxx.out], hB3, hX3⟩, by simp [intOf]; omega⟩
      · have e2 : ¬ (255 : Int) < (n : Int) * 2 := by omega
        have hps2 := hps.out
        rw [if_neg h2] at hps2
        replace hps2 := hidden hps2
        go_wp2_with fail
        exact ⟨⟨k + 1, by go_num, by omega, by rw [hps2.out]; congr 1; omega, hB3, hX3⟩, by simp [intOf]; omega⟩
    · obtain rfl : k = 255 := by omega
      go_wp2_with fail
      go_ret
      exact ⟨g, rfl, hB.out, by rw [hg.out]; exact Nat.le_refl _, hX.out⟩

set_option maxRecDepth 100000 in
theorem tmul_any (g a b : Nat) (ha : a < 256) (hb : b < 256) (w : World) (h : Tab w g) :
    Calls Try.prog 56 #[.pointer (some ⟨g, 0, none⟩), .int .u8 (a : Int), .int .u8 (b : Int)] w fun e w' => e = .returned (.int .u8 (Gf.mul a b : Int)) ∧ ∃ k, w' = w.drewN k := by
  by_cases h0 : a = 0 ∨ b = 0
  · rw [show Gf.mul a b = 0 from if_pos h0]
    clear h
    by_cases h1 : a = 0
    · subst h1
      go_enter Try.func56, Try.ntmps56
      go_wp2_with fail
      go_ret
      exact ⟨rfl, 0, rfl⟩
    · obtain rfl : b = 0 := by omega
      have e1 : decide ((a : Int) = 0) = false := decide_eq_false (by omega)
      go_enter Try.func56, Try.ntmps56
      go_wp2_with fail
      go_ret
      exact ⟨rfl, 0, rfl⟩
  · have hm : Gf.mul a b = Gf.pw ((Gf.lg a + Gf.lg b) % 255) := if_neg h0
    have ca := Blk.cell h (255 + a) _ (tabK_hi 255 a ha)
    have cb := Blk.cell h (255 + b) _ (tabK_hi 255 b hb)
    rw [tabB_all ha] at ca
    rw [tabB_all hb] at cb
    have la := Gf.lg_lt ha
    have lb := Gf.lg_lt hb
    have hl : (Gf.lg a + Gf.lg b) % 255 < 255 := Nat.mod_lt _ (by omega)
    have cp := Blk.cell h _ _ (tabK_lo 255 _ hl)
    rw [tabA_all hl, ← hm] at cp
    have e1 : ((a : Int) == 0) = false := by simp; omega
    have e2 : ((b : Int) == 0) = false := by simp; omega
    have a1 : (a : Int) < 256 := by omega
    have b1 : (b : Int) < 256 := by omega
    obtain ⟨y, hy⟩ : ∃ y, Gf.mul a b = y := ⟨_, rfl⟩
    obtain ⟨p, hp⟩ : ∃ y, (Gf.lg a + Gf.lg b) % 255 = y := ⟨_, rfl⟩
    rw [hy] at cp ⊢
    rw [hp] at cp hl
    obtain ⟨x1, hx1⟩ : ∃ y, Gf.lg a = y := ⟨_, rfl⟩
    obtain ⟨x2, hx2⟩ : ∃ y, Gf.lg b = y := ⟨_, rfl⟩
    rw [hx1] at ca hp la
    rw [hx2] at cb hp lb
    have v1 : IntKind.i64.wrap ((x1 : Int) + (x2 : Int)) = (x1 : Int) + (x2 : Int) := IntWalk.i64_in _ (by omega)
    have v2 : ((x1 : Int) + (x2 : Int)).tmod 255 = (p : Int) := by rw [Int.tmod_eq_emod_of_nonneg (by omega)]; omega
    have p1 : (p : Int) < 255 := by omega
    clear hm hy hp hx1 hx2 h h0
    go_enter Try.func56, Try.ntmps56
    go_upto_region 3 with fail
    go_quiet (fail)
    go_wp2_with fail
    go_ret
    exact ⟨rfl, _, rfl⟩
set_option maxRecDepth 100000 in
theorem tinv_any (g a : Nat) (ha : a < 256) (w : World) (h : Tab w g) :
    Calls Try.prog 57 #[.pointer (some ⟨g, 0, none⟩), .int .u8 (a : Int)] w fun e w' => e = .returned (.int .u8 (Gf.inv a : Int)) ∧ ∃ k, w' = w.drewN k := by
  have hm : Gf.inv a = Gf.pw ((255 - Gf.lg a) % 255) := rfl
  have ca := Blk.cell h (255 + a) _ (tabK_hi 255 a ha)
  rw [tabB_all ha] at ca
  have la := Gf.lg_lt ha
  have hl : (255 - Gf.lg a) % 255 < 255 := Nat.mod_lt _ (by omega)
  have cp := Blk.cell h _ _ (tabK_lo 255 _ hl)
  rw [tabA_all hl, ← hm] at cp
  have a1 : (a : Int) < 256 := by omega
  obtain ⟨y, hy⟩ : ∃ y, Gf.inv a = y := ⟨_, rfl⟩
  obtain ⟨p, hp⟩ : ∃ y, (255 - Gf.lg a) % 255 = y := ⟨_, rfl⟩
  rw [hy] at cp ⊢
  rw [hp] at cp hl
  obtain ⟨x1, hx1⟩ : ∃ y, Gf.lg a = y := ⟨_, rfl⟩
  rw [hx1] at ca hp la
  have v1 : IntKind.i64.wrap ((255 : Int) - (x1 : Int)) = (255 : Int) - (x1 : Int) := IntWalk.i64_in _ (by omega)
  have v2 : ((255 : Int) - (x1 : Int)).tmod 255 = (p : Int) := by rw [Int.tmod_eq_emod_of_nonneg (by omega)]; omega
  have p1 : (p : Int) < 255 := by omega
  clear hm hy hp hx1 h
  go_enter Try.func57, Try.ntmps57
  go_upto_region 1 with fail
  go_quiet (fail)
  go_wp2_with fail
  go_ret
  exact ⟨rfl, _, rfl⟩
theorem gmul_any (a b : Nat) (ha : a < 256) (hb : b < 256) (w : World) :
    Calls Try.prog 41 #[.int .u8 (a : Int), .int .u8 (b : Int)] w fun e w' => e = .returned (.int .u8 (Gf.mul a b : Int)) ∧ Ext w w' := by
  have hf := field_any w
  have hm := fun g W (h : Tab W g) => tmul_any g a b ha hb W h
  replace hf := hidden hf
  replace hm := hidden hm
  go_enter Try.func41, Try.ntmps41
  go_wp2_with fail
  refine hf.out.mono ?_
  rintro e w1 ⟨g, rfl, hT, -, hX⟩
  go_wp2_with fail
  refine (hm.out g w1 hT).mono ?_
  rintro e w2 ⟨rfl, k, rfl⟩
  go_wp2_with fail
  go_ret
  exact ⟨rfl, hX.drewN k⟩
end Go.Proofs.Ytpfelklhejpnnaa

/- Layer 3: shifted, table. -/
namespace Go.Proofs.Ytpfelklhejpnnaa
open Go.RowKit
set_option linter.unusedVariables false
set_option linter.unusedSimpArgs false
attribute [local go_sem ↓] Go.wp_at_zero Go.wp_at_succ

theorem xor32 (a b : Nat) (ha : a < 4294967296) (hb : b < 4294967296) : bits .xor .u32 (a : Int) (b : Int) = ((a ^^^ b : Nat) : Int) := bits_xor32 _ _ (by omega) (by omega) (by omega) (by omega)
theorem and32_1 (a : Nat) (ha : a < 4294967296) : bits .and .u32 (a : Int) 1 = ((a % 2 : Nat) : Int) := by
  rw [bits_and32 _ _ (by omega) (by omega) (by omega) (by omega), Int.toNat_natCast, show (1 : Int).toNat = 1 from rfl, Nat.and_one_is_mod]
set_option maxRecDepth 100000 in
theorem shifted_any (r : Nat) (hr : r < 4294967296) (w : World) : Calls Try.prog 71 #[.int .u32 (r : Int)] w fun e w' => e = .returned (.int .u32 (Crc.csN 8 r : Int)) ∧ w' = w := by
  go_enter Try.func71, Try.ntmps71
  go_wp2_with fail
  go_loopw [0, 4] (fun u i wr => ∃ k : Nat, i = .int .i64 (k : Int) ∧ k ≤ 8 ∧ u = .int .u32 (Crc.csN k r : Int) ∧ wr = w) (fun _ i _ => 8 - (intOf i).toNat)
  case atStart => exact ⟨0, rfl, by omega, rfl, rfl⟩
  case round =>
    obtain ⟨k, rfl, hk, rfl, rfl⟩ := hrel
    have v1 : IntKind.i64.wrap ((k : Int) + 1) = (k : Int) + 1 := IntWalk.i64_in _ (by omega)
    by_cases hlt : k < 8
    · have hlt2 : (k : Int) < 8 := by omega
      have hst : Hid (Crc.csN (k + 1) r = Crc.cs (Crc.csN k r)) := hidden rfl
      have hq := Crc.csN_lt k hr
      obtain ⟨q, hqe⟩ : ∃ q, Crc.csN k r = q := ⟨_, rfl⟩
      rw [hqe] at hst hq ⊢
      have a1 := and32_1 q hq
      have x1 := xor32 (q / 2) Crc.poly (by omega) (by decide)
      rw [show ((Crc.poly : Nat) : Int) = 3988292384 from rfl] at x1
      clear hqe
      by_cases hb : q % 2 = 1
      · have hc : Crc.cs q = (q / 2) ^^^ Crc.poly := if_pos hb
        rw [hb] at a1
        rw [← hc, ← hst.out] at x1
        clear hc
        have e2 : (q : Int).tdiv 2 = ((q / 2 : Nat) : Int) := by rw [Int.tdiv_eq_ediv_of_nonneg (by omega)]; omega
        have e3 : (q : Int) / 2 = ((q / 2 : Nat) : Int) := by omega
        obtain ⟨q2, hq2⟩ : ∃ x, q / 2 = x := ⟨_, rfl⟩
        rw [hq2] at e2 e3 x1
        go_wp2_with fail
        exact ⟨⟨k + 1, by go_num, by omega, rfl, trivial⟩, by simp [intOf]; omega⟩
      · have hc : Crc.cs q = q / 2 := if_neg hb
        rw [show q % 2 = 0 by omega] at a1
        have e2 : (q : Int).tdiv 2 = ((q / 2 : Nat) : Int) := by rw [Int.tdiv_eq_ediv_of_nonneg (by omega)]; omega
        have e3 : (q : Int) / 2 = ((q / 2 : Nat) : Int) := by omega
        obtain ⟨q2, hq2⟩ : ∃ x, q / 2 = x := ⟨_, rfl⟩
        have hst2 := hst.out
        rw [hc, hq2] at hst2
        rw [hq2] at e2 e3
        replace hst2 := hidden hst2
        clear hc hst x1
        go_wp2_with fail
        exact ⟨⟨k + 1, by go_num, by omega, by rw [hst2.out], trivial⟩, by simp [intOf]; omega⟩
    · obtain rfl : k = 8 := by omega
      go_wp2_with fail
      go_ret
      exact ⟨rfl, rfl⟩

/-- The table behind k rounds. -/
def tcK (k i : Nat) : Int := if i < k then (Crc.csN 8 i : Int) else 0
def uv (l : List Int) : List Value := l.map (Value.int .u32)
theorem uv_len (l : List Int) : (uv l).length = l.length := by simp [uv]
theorem uv_get (l : List Int) (i : Nat) (h : i < l.length) : (uv l)[i]? = some (.int .u32 (l.getD i 0)) := by simp [uv, h]
theorem uv_set (l : List Int) (i : Nat) (x : Int) : (uv l).set i (.int .u32 x) = uv (l.set i x) := by simp [uv, List.map_set]
def tcL (k : Nat) : List Int := (List.range 256).map (tcK k)
theorem tcL_len (k : Nat) : (tcL k).length = 256 := by simp [tcL]
theorem tcL_get (k i : Nat) (h : i < 256) : (tcL k).getD i 0 = tcK k i := by
  unfold tcL; rw [List.getD_eq_getElem?_getD, List.getElem?_map, List.getElem?_range h]; rfl
theorem tcL_at (k i : Nat) (h : i < (tcL k).length) : (tcL k)[i] = tcK k i := by simp only [tcL, List.getElem_map, List.getElem_range]
theorem tcL_zero : tcL 0 = List.replicate 256 0 := by
  refine List.ext_getElem (by rw [tcL_len, List.length_replicate]) fun i h1 h2 => ?_
  rw [tcL_at, List.getElem_replicate]
  exact if_neg (by omega)
theorem tcL_step {k : Nat} (h : k < 256) : (tcL k).set k (Crc.csN 8 k : Int) = tcL (k + 1) := by
  refine List.ext_getElem (by simp [tcL]) fun i h1 h2 => ?_
  rw [List.getElem_set, tcL_at, tcL_at]
  unfold tcK
  by_cases e : k = i
  · subst e; rw [if_pos rfl, if_pos (by omega)]
  · rw [if_neg e]
    by_cases e2 : i < k
    · rw [if_pos e2, if_pos (by omega)]
    · rw [if_neg e2, if_neg (by omega)]
theorem zeroU256 : Try.zeroCells101 = (uv (List.replicate 256 0)).toArray := by kernel_rfl
def TableP (w : World) (e : Ending) (w' : World) : Prop := e = .returned (.agg (uv (tcL 256)).toArray) ∧ Ext w w'
set_option maxRecDepth 100000 in
set_option maxHeartbeats 2000000 in
theorem table_any (w : World) : Calls Try.prog 58 #[] w (TableP w) := by
  have hB2 : Blk ((w.alloc (.cells Try.zeroCells101 101)).alloc (.cells Try.zeroCells101 101)) w.heap.size 101 (uv (List.replicate 256 0)) := by
    rw [zeroU256]
    exact (Blk.new w (uv (List.replicate 256 0)) 101).alloc (.cells (uv (List.replicate 256 0)).toArray 101)
  have hB3 : Blk ((w.alloc (.cells Try.zeroCells101 101)).alloc (.cells Try.zeroCells101 101)) (w.heap.size + 1) 101 (uv (tcL 0)) := by
    rw [tcL_zero, zeroU256]
    have := Blk.new (w.alloc (.cells (uv (List.replicate 256 0)).toArray 101)) (uv (List.replicate 256 0)) 101
    rw [World.size_alloc] at this
    exact this
  have hX0 := ((Ext.refl w).alloc (.cells Try.zeroCells101 101)).alloc (.cells Try.zeroCells101 101)
  have hsh := fun k (hk : k < 256) W => shifted_any k (by omega) W
  replace hsh := hidden hsh
  replace hB2 := hidden hB2
  replace hB3 := hidden hB3
  replace hX0 := hidden hX0
  go_enter Try.func58, Try.ntmps58
  go_wp2_with fail
  obtain ⟨g, hg⟩ : ∃ g, w.heap.size = g := ⟨_, rfl⟩
  obtain ⟨W1, hW1⟩ : ∃ X, (w.alloc (.cells Try.zeroCells101 101)).alloc (.cells Try.zeroCells101 101) = X := ⟨_, rfl⟩
  rw [hW1] at hB2 hB3 hX0 ⊢
  rw [hg] at hB2 hB3 ⊢
  replace hg := hidden hg
  clear hW1
  go_loopw [3] (fun i wr => ∃ k : Nat, i = .int .i64 (k : Int) ∧ k ≤ 256 ∧ Hid (Blk wr g 101 (uv (List.replicate 256 0))) ∧ Hid (Blk wr (g + 1) 101 (uv (tcL k))) ∧ Hid (Ext w wr)) (fun i _ => 256 - (intOf i).toNat)
  case atStart => exact ⟨0, rfl, by omega, hB2, hB3, hX0⟩
  case round =>
    clear hB2 hB3 hX0
    obtain ⟨k, rfl, hk, hB2, hB3, hX⟩ := hrel
    have v1 : IntKind.i64.wrap ((k : Int) + 1) = (k : Int) + 1 := IntWalk.i64_in _ (by omega)
    obtain ⟨w2, hWW⟩ : ∃ X, X = wr := ⟨_, rfl⟩
    subst hWW
    by_cases hlt : k < 256
    · have hlt2 : (k : Int) < 256 := by omega
      have v2 : IntKind.u32.wrap (k : Int) = (k : Int) := IntWalk.u32_in _ (by omega)
      have cX := hB3.out.cell k _ (uv_get _ k (by rw [tcL_len]; exact hlt))
      have fX := hB3.out.frozen k
      have hB3' := hB3.out.set k (.int .u32 (Crc.csN 8 k : Int))
      rw [uv_set, tcL_step hlt] at hB3'
      have hB2' := hB2.out.set_other (i := k) (c := g + 1) (by omega) (.int .u32 (Crc.csN 8 k : Int))
      have hX' := Ext.setCell hX.out (p := ⟨g + 1, k, none⟩) (by show w.heap.size ≤ g + 1; rw [hg.out]; omega) (.int .u32 (Crc.csN 8 k : Int))
      have hc := hsh.out k hlt w2
      obtain ⟨y, hy⟩ : ∃ y, Crc.csN 8 k = y := ⟨_, rfl⟩
      rw [hy] at hc hB3' hB2' hX'
      replace hB3' := hidden hB3'
      replace hB2' := hidden hB2'
      replace hX' := hidden hX'
      replace hc := hidden hc
      clear hy
      go_wp2_with fail
      refine hc.out.mono ?_
      rintro e w3 ⟨rfl, rfl⟩
      go_wp2_with fail
      go_roundw
      case rel => exact ⟨k + 1, by go_num, by omega, hB2', hB3', hX'⟩
      case measure => simp [intOf]; omega
    · have hce : k = 256 := by omega
      have hlt4 : decide ((k : Int) < 256) = false := decide_eq_false (by omega)
      have hr3 := hB3.out
      rw [hce] at hr3
      have hr2 := hB2.out
      have hsz : (uv (tcL 256)).toArray.size = 256 := by rw [List.size_toArray, uv_len, tcL_len]
      have hi55 : (Try.prog.info? 101).map (·.size) = some 256 := by kernel_rfl
      clear hB3
      go_upto_region 7 with fail
      go_wp2_with (first | (refine wpList_load_row rfl 101 (.tmp 1) rfl (g + 1) rfl 101 (uv (tcL 256)).toArray (0, 0) _ hr3 Try.underlying101 rfl (by rw [hsz]; exact hi55) ?_) | (refine wpList_store_row rfl 101 (.tmp 0) (.tmp 12) rfl g (uv (tcL 256)).toArray rfl rfl 101 _ hr2 (by rw [hsz]; exact hi55) (by rw [hsz, List.size_toArray, uv_len, List.length_replicate]) (by simp [uv, Value.oneCell']) ?_))
      have hrow := setRow_heap w2 g _ (uv (tcL 256)).toArray 101 _ hr2
      have hXr : Ext w (w2.setRow g (uv (tcL 256)).toArray) := below_setRow hX.out (by rw [hg.out]; omega) _
      exact bodyPost_ret (v := .agg (uv (tcL 256)).toArray) (results_cell_row (p := 0) (ty := 101) (by kernel_rfl) _ _ g 101 (uv (tcL 256)).toArray (0, 0) _ rfl hrow Try.underlying101 rfl (by rw [hsz]; exact hi55)) rfl ⟨rfl, hXr⟩
end Go.Proofs.Ytpfelklhejpnnaa
