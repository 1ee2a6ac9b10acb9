/- Layer 3: Seal, Open; the reference. -/
import Derived.Test.YtpfelklhejpnnaaGs
import Derived.Test.YtpfelklhejpnnaaSe
import Derived.Test.YtpfelklhejpnnaaHbd
import Derived.Test.YtpfelklhejpnnaaJk
namespace Go.Proofs.Ytpfelklhejpnnaa
open Go.RowKit
set_option linter.unusedVariables false
set_option linter.unusedSimpArgs false
attribute [local go_sem ↓] Go.wp_at_zero Go.wp_at_succ

theorem tail4_rd (W : World) (s : Nat) : Rd (W.alloc (.cells #[.int .u8 ((s % 256 : Nat) : Int), .int .u8 ((s / 256 % 256 : Nat) : Int), .int .u8 ((s / 65536 % 256 : Nat) : Int), .int .u8 ((s / 16777216 % 256 : Nat) : Int)] 5)) 1 (.slice (some ⟨W.heap.size, 0, none⟩) 4 4) 4 (bs (tail4 s)) := rd_of_blkS (Blk.new W (bs (tail4 s)) 5) rfl (by omega)
theorem tail4_eqs (s : Nat) (h : s < 4294967296) : IntKind.u8.wrap (s : Int) = ((s % 256 : Nat) : Int) ∧ IntKind.u8.wrap ((s : Int) / 256) = ((s / 256 % 256 : Nat) : Int) ∧ IntKind.u8.wrap ((s : Int) / 65536) = ((s / 65536 % 256 : Nat) : Int) ∧ IntKind.u8.wrap ((s : Int) / 16777216) = ((s / 16777216 % 256 : Nat) : Int) := by
  refine ⟨?_, ?_, ?_, ?_⟩ <;> rw [IntKind.wrap_u8] <;> omega
def SealP (w : World) (l : List Int) (e : Ending) (w' : World) : Prop := ∃ v, e = .returned v ∧ Own8 w' w.heap.size v l ∧ Ext w w'
set_option maxRecDepth 100000 in
set_option maxHeartbeats 1000000 in
theorem seal_any (v : Value) (D : List Int) (hb : Bytes D) (hn : D.length ≤ 100000) (w : World) (hr : Rd8 w v D) :
    Calls Try.prog 32 #[v] w (SealP w (sealF D)) := by
  obtain ⟨ad, cap, rfl, q1, q2, q3⟩ := Rd.shape hr
  have hs := sum_any _ D hb hn w hr
  have hc := fun W (hX : Ext w W) => clone_any _ D (by omega) W (Rd.ext hr hX)
  obtain ⟨n, hne⟩ : ∃ n, D.length = n := ⟨_, rfl⟩
  rw [hne] at hs hc q1 hn ⊢
  have hsl := sumI_lt D
  unfold sealF
  obtain ⟨s, hse⟩ : ∃ s, sumI D = s := ⟨_, rfl⟩
  rw [hse] at hs hsl ⊢
  obtain ⟨e1, e2, e3, e4⟩ := tail4_eqs s hsl
  obtain ⟨i0, hi, hz0, hz1, hz2⟩ := info_parts u8info
  replace hs := hidden hs
  replace hc := hidden hc
  replace hne := hidden hne
  replace hi := hidden hi
  clear hr hb hse
  go_enter Try.func32, Try.ntmps32
  go_wp2_with fail
  refine hs.out.mono ?_
  rintro e w1 ⟨rfl, hX1⟩
  have hc1 := hc.out w1 hX1
  replace hc1 := hidden hc1
  clear hs hc
  go_wp2_with fail
  refine hc1.out.mono ?_
  rintro e w2 ⟨v2, rfl, hO, hX2⟩
  have hX3 := hX1.trans hX2
  have hs12 := hX2.size
  clear hc1 hX2
  obtain ⟨t1, ht1⟩ : ∃ x, s % 256 = x := ⟨_, rfl⟩
  obtain ⟨t2, ht2⟩ : ∃ x, s / 256 % 256 = x := ⟨_, rfl⟩
  obtain ⟨t3, ht3⟩ : ∃ x, s / 65536 % 256 = x := ⟨_, rfl⟩
  obtain ⟨t4, ht4⟩ : ∃ x, s / 16777216 % 256 = x := ⟨_, rfl⟩
  have hT : tail4 s = [(t1 : Int), (t2 : Int), (t3 : Int), (t4 : Int)] := by unfold tail4; rw [ht1, ht2, ht3, ht4]
  have hrd := tail4_rd w2 s
  rw [hT] at hrd ⊢
  rw [ht1] at e1
  rw [ht2] at e2
  rw [ht3] at e3
  rw [ht4] at e4
  rw [ht1, ht2, ht3, ht4] at hrd
  have hO2 := own_ext hO ((Ext.refl w2).alloc (.cells #[.int .u8 (t1 : Int), .int .u8 (t2 : Int), .int .u8 (t3 : Int), .int .u8 (t4 : Int)] 5))
  rw [hne.out] at hO2
  replace hrd := hidden hrd
  replace hO2 := hidden hO2
  replace hT := hidden hT
  clear ht1 ht2 ht3 ht4 hO
  have hX1s := hX1.size
  have hX3s := hX3.size
  go_wp2_with (at_builtin; refine wpList_append_rd rfl _ _ 22 rfl w1.heap.size 5 i0 (.int .u8 0) 1 1 Try.underlying22 hi.out hz0 hz1 hz2 rfl (by decide) v2 n (bs D) rfl hO2.out (some ⟨w2.heap.size, 0, none⟩) 4 4 (bs [(t1 : Int), (t2 : Int), (t3 : Int), (t4 : Int)]) rfl hrd.out (bs_one _) (by unfold maxLen; omega) (by omega) (by simp; omega) ?_; intro v3 w3 hown hgrow hb3)
  go_ret
  refine ⟨v3, rfl, ?_, ?_⟩
  · rw [hT.out]
    refine own_mono (b := w1.heap.size) ?_ hX1s
    rw [List.length_append, bs_app, hne.out]
    exact hown
  · exact Chg.ext ((Chg.of_ext [] (hX3.alloc (.cells #[.int .u8 (t1 : Int), .int .u8 (t2 : Int), .int .u8 (t3 : Int), .int .u8 (t4 : Int)] 5))).grown hgrow (fun k hk => Or.inr (by have := (own_lt hO2.out hk).1; omega)))

def OpenP (w : World) (D : List Int) (e : Ending) (w' : World) : Prop := ∃ v, e = .returned (.tuple #[v, .int .i64 ((openF D).1 : Int)]) ∧ Own8 w' w.heap.size v (openF D).2 ∧ Ext w w'
theorem take4_rd {W : World} {ad : Option Addr} {n cap : Nat} {D : List Int} (hr : Rd8 W (.slice ad n cap) D) (hne : D.length = n) (k : Nat) (hk : k ≤ n) : ∃ a' cap', (∀ w, (Instr.sliceAt 22 (.slice ad n cap) none (some (.int .i64 (k : Int))) none).run Try.prog w = .ok (.slice a' k cap') w) ∧ Rd8 W (.slice a' k cap') (D.take k) := by
  obtain ⟨a2, c2, hrun, Rr⟩ := cut_h (P := Try.prog) (t := 22) Try.underlying22 Try.sizeOf5 (show Rd W 1 (.slice ad n cap) n (bs D) from by have := hr; unfold Rd8 at this; rw [hne] at this; exact this) k (k : Int) rfl hk
  refine ⟨a2, c2, hrun, ?_⟩
  unfold Rd8
  rw [List.length_take, hne, Nat.min_eq_left hk, show bs (D.take k) = (bs D).take (k * 1) by rw [Nat.mul_one]; simp [bs, List.map_take]]
  exact Rr
set_option maxRecDepth 100000 in
set_option maxHeartbeats 1000000 in
theorem open_any (v : Value) (D : List Int) (hb : Bytes D) (hn : D.length ≤ 900000) (w : World) (hr : Rd8 w v D) :
    Calls Try.prog 50 #[v] w (OpenP w D) := by
  obtain ⟨ad, cap, rfl, q1, q2, q3⟩ := Rd.shape hr
  obtain ⟨n, hne⟩ : ∃ n, D.length = n := ⟨_, rfl⟩
  have v0 : IntKind.i64.wrap ((n : Int) - 4) = (n : Int) - 4 := IntWalk.i64_in _ (by omega)
  by_cases h1 : 65536 < n
  · have ho : openF D = (5, []) := if_pos (by omega)
    rw [hne] at q1 ⊢
    have e1 : (65536 : Int) < (n : Int) := by omega
    go_enter Try.func50, Try.ntmps50
    go_wp2_with fail
    refine bodyPost_ret (results_tmp2 rfl _ _ _) rfl ?_
    exact ⟨_, by rw [ho]; rfl, by rw [ho]; exact World.ownsRow_nil _ _ _ _, Ext.refl _⟩
  have e1 : decide ((65536 : Int) < (n : Int)) = false := decide_eq_false (by omega)
  by_cases h2 : n < 4
  · have ho : openF D = (9, []) := by unfold openF; rw [if_neg (by omega), if_pos (by omega)]
    rw [hne] at q1 ⊢
    have e2 : (n : Int) - 4 < 0 := by omega
    go_enter Try.func50, Try.ntmps50
    go_wp2_with fail
    refine bodyPost_ret (results_tmp2 rfl _ _ _) rfl ?_
    exact ⟨_, by rw [ho]; rfl, by rw [ho]; exact World.ownsRow_nil _ _ _ _, Ext.refl _⟩
  obtain ⟨m, hm⟩ : ∃ m, n = m + 4 := ⟨n - 4, by omega⟩
  have e2 : (n : Int) - 4 = (m : Int) := by omega
  have e3 : decide ((m : Int) < 0) = false := decide_eq_false (by omega)
  have ho : openF D = if sealF (D.take m) = D then (0, D.take m) else (10, []) := by unfold openF; rw [if_neg (by omega), if_neg (by omega), hne, hm, Nat.add_sub_cancel]
  rw [hne] at q1 hr ⊢
  obtain ⟨a2, c2, hrun, R2⟩ := take4_rd hr hne m (by omega)
  have hbt : Bytes (D.take m) := fun x hx => hb x (List.mem_of_mem_take hx)
  have hlt : (D.take m).length = m := by rw [List.length_take]; omega
  have hse := seal_any _ (D.take m) hbt (by omega) w R2
  have hcl := fun W (hX : Ext w W) => clone_any (.slice a2 m c2) (D.take m) (by omega) W (Rd.ext R2 hX)
  have heq := fun v W (hX : Ext w W) (hv : Rd8 W v (sealF (D.take m))) => eq8_any v (.slice ad n cap) (sealF (D.take m)) D W hv (Rd.ext hr hX)
  replace hse := hidden hse
  replace hcl := hidden hcl
  replace heq := hidden heq
  replace hne := hidden hne
  clear hr R2 hb hbt
  rw [e2] at v0
  replace hm := hidden hm
  go_enter Try.func50, Try.ntmps50
  go_wp2_with fail
  refine hse.out.mono ?_
  rintro e w1 ⟨v1, rfl, hO1, hX1⟩
  have he1 := heq.out v1 w1 hX1 (Own8.rd hO1)
  replace he1 := hidden he1
  clear hse heq
  go_wp2_with fail
  refine he1.out.mono ?_
  rintro e w2 ⟨rfl, hX2⟩
  have hX3 := hX1.trans hX2
  clear he1 hO1 hX1 hX2
  by_cases hc : sealF (D.take m) = D
  · rw [if_pos hc] at ho
    rw [decide_eq_true hc]
    have hcl1 := hcl.out w2 hX3
    replace hcl1 := hidden hcl1
    clear hcl
    replace hc := hidden hc
    replace ho := hidden ho
    go_wp2_with fail
    refine hcl1.out.mono ?_
    rintro e w4 ⟨v4, rfl, hO4, hX4⟩
    go_wp2_with fail
    refine bodyPost_ret (results_tmp2 rfl _ _ _) rfl ?_
    exact ⟨v4, by rw [ho.out]; rfl, by rw [ho.out]; exact own_mono hO4 hX3.size, hX3.trans hX4⟩
  · rw [if_neg hc] at ho
    rw [decide_eq_false hc]
    replace ho := hidden ho
    go_wp2_with fail
    refine bodyPost_ret (results_tmp2 rfl _ _ _) rfl ?_
    exact ⟨_, by rw [ho.out]; rfl, by rw [ho.out]; exact World.ownsRow_nil _ _ _ _, hX3⟩

/-! ### The reference. -/
set_option maxRecDepth 100000 in
theorem rreg_any (r b : Nat) (hr : r < 4294967296) (hb : b < 256) (w : World) : Calls Try.prog 80 #[.int .u32 (r : Int), .int .u8 (b : Int)] w fun e w' => e = .returned (.int .u32 (Crc.reg r b : Int)) ∧ w' = w := by
  have hx := xor32 r b hr (by omega)
  have hx2 := Crc.xor_lt32 hr (show b < 4294967296 by omega)
  have hd : Crc.reg r b = Crc.csN 8 (r ^^^ b) := rfl
  have v0 : IntKind.u32.wrap (b : Int) = (b : Int) := IntWalk.u32_in _ (by omega)
  obtain ⟨r1, hr1⟩ : ∃ x, r ^^^ b = x := ⟨_, rfl⟩
  rw [hr1] at hx hx2 hd
  rw [hd]
  clear hd hr1
  go_enter Try.func80, Try.ntmps80
  go_wp2_with fail
  go_loopw [0, 5] (fun u i wr => ∃ k : Nat, i = .int .i64 (k : Int) ∧ k ≤ 8 ∧ u = .int .u32 (Crc.csN k r1 : Int) ∧ wr = w) (fun _ i _ => 8 - (intOf i).toNat)
  case atStart => exact ⟨0, rfl, by omega, rfl, rfl⟩
  case round =>
    obtain ⟨k, rfl, hk, rfl, rfl⟩ := hrel
    have v1 : IntKind.i64.wrap ((k : Int) + 1) = (k : Int) + 1 := IntWalk.i64_in _ (by omega)
    by_cases hlt : k < 8
    · have hlt2 : (k : Int) < 8 := by omega
      have hst : Hid (Crc.csN (k + 1) r1 = Crc.cs (Crc.csN k r1)) := hidden rfl
      have hq := Crc.csN_lt k hx2
      obtain ⟨q, hqe⟩ : ∃ q, Crc.csN k r1 = q := ⟨_, rfl⟩
      rw [hqe] at hst hq ⊢
      have x1 := xor32 (q / 2) Crc.poly (by omega) (by decide)
      rw [show ((Crc.poly : Nat) : Int) = 3988292384 from rfl] at x1
      have e2 : (q : Int).tdiv 2 = ((q / 2 : Nat) : Int) := by rw [Int.tdiv_eq_ediv_of_nonneg (by omega)]; omega
      have e3 : (q : Int) / 2 = ((q / 2 : Nat) : Int) := by omega
      have e4 : (q : Int).tmod 2 = ((q % 2 : Nat) : Int) := by rw [Int.tmod_eq_emod_of_nonneg (by omega)]; omega
      obtain ⟨q2, hq2⟩ : ∃ x, q / 2 = x := ⟨_, rfl⟩
      rw [hq2] at e2 e3 x1
      clear hqe
      by_cases hb : q % 2 = 1
      · have hc : Crc.cs q = (q / 2) ^^^ Crc.poly := if_pos hb
        rw [hb] at e4
        rw [hq2] at hc
        rw [← hc, ← hst.out] at x1
        clear hc
        go_wp2_with fail
        exact ⟨⟨k + 1, by go_num, by omega, rfl, trivial⟩, by simp [intOf]; omega⟩
      · have hc : Crc.cs q = q / 2 := if_neg hb
        rw [show q % 2 = 0 by omega] at e4
        have hst2 := hst.out
        rw [hc, hq2] at hst2
        replace hst2 := hidden hst2
        clear hc hst x1
        go_wp2_with fail
        exact ⟨⟨k + 1, by go_num, by omega, by rw [hst2.out], trivial⟩, by simp [intOf]; omega⟩
    · obtain rfl : k = 8 := by omega
      go_wp2_with fail
      go_ret
      exact ⟨rfl, rfl⟩
theorem nl_take (D : List Int) (k : Nat) (h : k < D.length) : (nl D).take (k + 1) = (nl D).take k ++ [(D.getD k 0).toNat] := by
  unfold nl
  rw [List.take_add_one, List.getElem?_map, List.getElem?_eq_getElem h]
  simp [List.getD, h]
set_option maxRecDepth 100000 in
theorem rsum_any (v : Value) (D : List Int) (hb : Bytes D) (hn : D.length ≤ 900000) (w : World) (hr : Rd8 w v D) :
    Calls Try.prog 62 #[v] w fun e w' => e = .returned (.int .u32 (sumI D : Int)) ∧ w' = w := by
  have hup : Calls Try.prog 73 #[.int .u32 0, v] w fun e w' => e = .returned (.int .u32 (sumI D : Int)) ∧ w' = w := by
    obtain ⟨ad, cap, rfl, q1, q2, q3⟩ := Rd.shape hr
    obtain ⟨n, hne⟩ : ∃ n, D.length = n := ⟨_, rfl⟩
    have hR : Hid (Rd8 w (.slice ad n cap) D) := hidden (by rw [← hne]; exact hr)
    rw [hne] at q1 hn ⊢
    have n1 := not32 0 (by decide)
    have hnl : ∀ x ∈ nl D, x < 256 := fun x hx => by
      obtain ⟨y, hy, rfl⟩ := List.mem_map.1 hx
      have := hb y hy
      omega
    have hrl : ∀ k, Crc.run (Crc.nt 0) ((nl D).take k) < 4294967296 := fun k => Crc.run_lt _ (Crc.nt_lt 0) (fun x hx => hnl x (List.mem_of_mem_take hx))
    have hreg := hidden rreg_any
    replace hne := hidden hne
    replace hrl := hidden hrl
    replace hb := hidden hb
    clear hr hnl
    go_enter Try.func73, Try.ntmps73
    go_wp2_with fail
    go_loopw [5, 6] (fun u i wr => ∃ k : Nat, i = .int .i64 (k : Int) ∧ k ≤ n ∧ u = .int .u32 (Crc.run (Crc.nt 0) ((nl D).take k) : Int) ∧ wr = w) (fun _ i _ => n - (intOf i).toNat)
    case atStart => exact ⟨0, rfl, by omega, rfl, rfl⟩
    case round =>
      obtain ⟨k, rfl, hk, rfl, rfl⟩ := hrel
      have v1 : IntKind.i64.wrap ((k : Int) + 1) = (k : Int) + 1 := IntWalk.i64_in _ (by omega)
      have hq := hrl.out k
      by_cases hlt : k < n
      · have hlt2 : (k : Int) < (n : Int) := by omega
        obtain ⟨bb, off, rfl, hbb⟩ := Rd8.some hR.out (by rw [hne.out]; omega)
        have cB := hR.out.at k (by rw [hne.out]; omega)
        have hyb := hb.out.get k (by rw [hne.out]; omega)
        have hst := Crc.run_snoc (Crc.nt 0) ((nl D).take k) (D.getD k 0).toNat
        rw [← nl_take D k (by rw [hne.out]; omega)] at hst
        obtain ⟨z, hz⟩ : ∃ z : Nat, D.getD k 0 = (z : Int) := ⟨_, (Int.eq_ofNat_of_zero_le hyb.1).choose_spec⟩
        rw [hz, Int.toNat_natCast] at hst
        rw [hz] at cB hyb
        obtain ⟨q, hqe⟩ : ∃ q, Crc.run (Crc.nt 0) ((nl D).take k) = q := ⟨_, rfl⟩
        rw [hqe] at hst hq ⊢
        have hc := hreg.out q z hq (by omega) wr
        rw [← hst] at hc
        replace hc := hidden hc
        clear hz hst hqe hbb hreg
        go_wp2_with fail
        refine hc.out.mono ?_
        rintro e w2 ⟨rfl, rfl⟩
        go_wp2_with fail
        go_roundw
        case rel => exact ⟨k + 1, by go_num, by omega, rfl, by trivial⟩
        case measure => simp [intOf]; omega
      · obtain rfl : k = n := by omega
        have hfin : sumI D = Crc.nt (Crc.run (Crc.nt 0) ((nl D).take k)) := by
          rw [List.take_of_length_le (by unfold nl; rw [List.length_map, hne.out]; exact Nat.le_refl _)]; rfl
        have n2 := not32 _ hq
        rw [← hfin] at n2
        clear hfin
        go_wp2_with fail
        go_ret
        exact ⟨rfl, rfl⟩
  obtain ⟨ad, cap, rfl, q1, q2, q3⟩ := Rd.shape hr
  obtain ⟨n, hne⟩ : ∃ n, D.length = n := ⟨_, rfl⟩
  rw [hne] at hup q1 ⊢
  replace hup := hidden hup
  clear hr
  go_enter Try.func62, Try.ntmps62
  go_wp2_with fail
  refine hup.out.mono ?_
  rintro e w3 ⟨rfl, rfl⟩
  go_wp2_with fail
  go_ret
  exact ⟨rfl, rfl⟩
set_option maxRecDepth 100000 in
set_option maxHeartbeats 1000000 in
theorem rseal_any (v : Value) (D : List Int) (hb : Bytes D) (hn : D.length ≤ 100000) (w : World) (hr : Rd8 w v D) :
    Calls Try.prog 48 #[v] w (SealP w (sealF D)) := by
  obtain ⟨ad, cap, rfl, q1, q2, q3⟩ := Rd.shape hr
  have hs := fun W (hX : Ext w W) => rsum_any _ D hb (by omega) W (Rd.ext hr hX)
  obtain ⟨n, hne⟩ : ∃ n, D.length = n := ⟨_, rfl⟩
  have hR : Hid (Rd w 1 (.slice ad n cap) n (bs D)) := hidden (by have := hr; unfold Rd8 at this; rw [hne] at this; exact this)
  rw [hne] at hs q1 hn ⊢
  have hsl := sumI_lt D
  unfold sealF
  obtain ⟨s, hse⟩ : ∃ s, sumI D = s := ⟨_, rfl⟩
  simp only [hse] at hs hsl ⊢
  obtain ⟨e1, e2, e3, e4⟩ := tail4_eqs s hsl
  obtain ⟨i0, hi, hz0, hz1, hz2⟩ := info_parts u8info
  have hnil := hidden (World.ownsRow_nil w w.heap.size 5 1)
  replace hs := hidden hs
  replace hne := hidden hne
  replace hi := hidden hi
  clear hr hb hse
  go_enter Try.func48, Try.ntmps48
  go_upto_region 3 with (at_builtin; refine wpList_append_rd rfl _ _ 22 rfl w.heap.size 5 i0 (.int .u8 0) 1 1 Try.underlying22 hi.out hz0 hz1 hz2 rfl (by decide) (.slice none 0 0) 0 [] rfl hnil.out ad n cap (bs D) rfl hR.out (bs_one D) (by unfold maxLen; omega) (by omega) (by simp) ?_; intro v2 w1 hO hgr hb3)
  rw [Nat.zero_add, List.nil_append] at hO
  have hX1 : Ext w w1 := ((Chg.refl [] w).grown hgr (fun k hk => by simp [Value.ownBlock] at hk)).ext
  have hs1 := hs.out w1 hX1
  replace hs1 := hidden hs1
  clear hs hgr hb3 hnil
  go_wp2_with fail
  refine hs1.out.mono ?_
  rintro e w2 ⟨rfl, hw2⟩
  subst hw2
  clear hs1
  obtain ⟨t1, ht1⟩ : ∃ x, s % 256 = x := ⟨_, rfl⟩
  obtain ⟨t2, ht2⟩ : ∃ x, s / 256 % 256 = x := ⟨_, rfl⟩
  obtain ⟨t3, ht3⟩ : ∃ x, s / 65536 % 256 = x := ⟨_, rfl⟩
  obtain ⟨t4, ht4⟩ : ∃ x, s / 16777216 % 256 = x := ⟨_, rfl⟩
  have hT : tail4 s = [(t1 : Int), (t2 : Int), (t3 : Int), (t4 : Int)] := by unfold tail4; rw [ht1, ht2, ht3, ht4]
  have hrd := tail4_rd w2 s
  rw [hT] at hrd ⊢
  rw [ht1] at e1
  rw [ht2] at e2
  rw [ht3] at e3
  rw [ht4] at e4
  rw [ht1, ht2, ht3, ht4] at hrd
  have hO2 := own_ext hO ((Ext.refl w2).alloc (.cells #[.int .u8 (t1 : Int), .int .u8 (t2 : Int), .int .u8 (t3 : Int), .int .u8 (t4 : Int)] 5))
  replace hrd := hidden hrd
  replace hO2 := hidden hO2
  replace hT := hidden hT
  clear ht1 ht2 ht3 ht4 hO
  have hX1s := hX1.size
  go_wp2_with (at_builtin; refine wpList_append_rd rfl _ _ 22 rfl w.heap.size 5 i0 (.int .u8 0) 1 1 Try.underlying22 hi.out hz0 hz1 hz2 rfl (by decide) v2 n (bs D) rfl hO2.out (some ⟨w2.heap.size, 0, none⟩) 4 4 (bs [(t1 : Int), (t2 : Int), (t3 : Int), (t4 : Int)]) rfl hrd.out (bs_one _) (by unfold maxLen; omega) (by omega) (by simp; omega) ?_; intro v3 w3 hown hgrow hb3)
  go_ret
  refine ⟨v3, rfl, ?_, ?_⟩
  · rw [hT.out]
    refine own_mono (b := w.heap.size) ?_ (Nat.le_refl _)
    rw [List.length_append, bs_app, hne.out]
    exact hown
  · exact Chg.ext ((Chg.of_ext [] (hX1.alloc (.cells #[.int .u8 (t1 : Int), .int .u8 (t2 : Int), .int .u8 (t3 : Int), .int .u8 (t4 : Int)] 5))).grown hgrow (fun k hk => Or.inr (by have := (own_lt hO2.out hk).1; omega)))
set_option maxRecDepth 100000 in
set_option maxHeartbeats 1000000 in
theorem ropen_any (v : Value) (D : List Int) (hb : Bytes D) (hn : D.length ≤ 900000) (w : World) (hr : Rd8 w v D) :
    Calls Try.prog 33 #[v] w (OpenP w D) := by
  obtain ⟨ad, cap, rfl, q1, q2, q3⟩ := Rd.shape hr
  obtain ⟨n, hne⟩ : ∃ n, D.length = n := ⟨_, rfl⟩
  have v0 : IntKind.i64.wrap ((n : Int) - 4) = (n : Int) - 4 := IntWalk.i64_in _ (by omega)
  by_cases h1 : 65536 < n
  · have ho : openF D = (5, []) := if_pos (by omega)
    rw [hne] at q1 ⊢
    have e1 : (65536 : Int) < (n : Int) := by omega
    go_enter Try.func33, Try.ntmps33
    go_wp2_with fail
    refine bodyPost_ret (results_tmp2 rfl _ _ _) rfl ?_
    exact ⟨_, by rw [ho]; rfl, by rw [ho]; exact World.ownsRow_nil _ _ _ _, Ext.refl _⟩
  have e1 : decide ((65536 : Int) < (n : Int)) = false := decide_eq_false (by omega)
  by_cases h2 : n < 4
  · have ho : openF D = (9, []) := by unfold openF; rw [if_neg (by omega), if_pos (by omega)]
    rw [hne] at q1 ⊢
    have e2 : (n : Int) - 4 < 0 := by omega
    go_enter Try.func33, Try.ntmps33
    go_wp2_with fail
    refine bodyPost_ret (results_tmp2 rfl _ _ _) rfl ?_
    exact ⟨_, by rw [ho]; rfl, by rw [ho]; exact World.ownsRow_nil _ _ _ _, Ext.refl _⟩
  obtain ⟨m, hm⟩ : ∃ m, n = m + 4 := ⟨n - 4, by omega⟩
  have e2 : (n : Int) - 4 = (m : Int) := by omega
  have e3 : decide ((m : Int) < 0) = false := decide_eq_false (by omega)
  have ho : openF D = if sealF (D.take m) = D then (0, D.take m) else (10, []) := by unfold openF; rw [if_neg (by omega), if_neg (by omega), hne, hm, Nat.add_sub_cancel]
  rw [hne] at q1 hr ⊢
  obtain ⟨a2, c2, hrun, R2⟩ := take4_rd hr hne m (by omega)
  have hbt : Bytes (D.take m) := fun x hx => hb x (List.mem_of_mem_take hx)
  have hlt : (D.take m).length = m := by rw [List.length_take]; omega
  have hse := rseal_any _ (D.take m) hbt (by omega) w R2
  have hR2 : Hid (Rd w 1 (.slice a2 m c2) m (bs (D.take m))) := hidden (by have := R2; unfold Rd8 at this; rw [hlt] at this; exact this)
  have heq := fun v W (hX : Ext w W) (hv : Rd8 W v (sealF (D.take m))) => rsame_any v (.slice ad n cap) (sealF (D.take m)) D W hv (Rd.ext hr hX)
  replace hse := hidden hse
  obtain ⟨i0, hi, hz0, hz1, hz2⟩ := info_parts u8info
  replace hi := hidden hi
  replace heq := hidden heq
  replace hne := hidden hne
  clear hr R2 hb hbt
  rw [e2] at v0
  replace hm := hidden hm
  go_enter Try.func33, Try.ntmps33
  go_wp2_with fail
  refine hse.out.mono ?_
  rintro e w1 ⟨v1, rfl, hO1, hX1⟩
  have he1 := heq.out v1 w1 hX1 (Own8.rd hO1)
  replace he1 := hidden he1
  clear hse heq
  go_wp2_with fail
  refine he1.out.mono ?_
  rintro e w2 ⟨rfl, hX2⟩
  have hX3 := hX1.trans hX2
  clear he1 hO1 hX1 hX2
  by_cases hc : sealF (D.take m) = D
  · rw [if_pos hc] at ho
    rw [decide_eq_true hc]
    have hnil := hidden (World.ownsRow_nil w2 w2.heap.size 5 1)
    have hR3 := hidden (hR2.out.ext hX3)
    replace hc := hidden hc
    replace ho := hidden ho
    go_wp2_with (at_builtin; refine wpList_append_rd rfl _ _ 22 rfl w2.heap.size 5 i0 (.int .u8 0) 1 1 Try.underlying22 hi.out hz0 hz1 hz2 rfl (by decide) (.slice none 0 0) 0 [] rfl hnil.out a2 m c2 (bs (D.take m)) rfl hR3.out (bs_one _) (by unfold maxLen; omega) (by omega) (by simp) ?_; intro v4 w4 hO hgr hb3)
    rw [Nat.zero_add, List.nil_append] at hO
    have hX4 : Ext w2 w4 := ((Chg.refl [] w2).grown hgr (fun k hk => by simp [Value.ownBlock] at hk)).ext
    refine bodyPost_ret (results_tmp2 rfl _ _ _) rfl ?_
    refine ⟨v4, by rw [ho.out]; rfl, ?_, hX3.trans hX4⟩
    rw [ho.out]
    refine own_mono (b := w2.heap.size) ?_ hX3.size
    show w4.ownsRow _ _ _ _ _ _
    rw [hlt]
    exact hO
  · rw [if_neg hc] at ho
    rw [decide_eq_false hc]
    replace ho := hidden ho
    go_wp2_with fail
    refine bodyPost_ret (results_tmp2 rfl _ _ _) rfl ?_
    exact ⟨_, by rw [ho.out]; rfl, by rw [ho.out]; exact World.ownsRow_nil _ _ _ _, hX3⟩

end Go.Proofs.Ytpfelklhejpnnaa
