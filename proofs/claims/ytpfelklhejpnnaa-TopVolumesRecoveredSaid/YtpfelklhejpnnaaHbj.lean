/- volume.Join, Repair. -/
import Derived.Test.YtpfelklhejpnnaaHbh
namespace Go.Proofs.Ytpfelklhejpnnaa
open Go.RowKit Go.MapKept Go.ChangeMaps
set_option linter.unusedVariables false
set_option linter.unusedSimpArgs false
attribute [local go_sem ↓] Go.wp_at_zero Go.wp_at_succ

/-- What is known of some byte strings: collect finds the volumes of one set. -/
structure LeftOK (b : List Int) (d r : Nat) (X : List (List Int)) : Prop where
  few : X.length ≤ 128
  byt : ∀ l ∈ X, Bytes l
  len : ∀ l ∈ X, l.length ≤ 900000
  set : (colF X).2 ≠ [] → (colF X).1 = headF b d r ∧ SetOK b d r (colF X).2
def VJ (w : World) (b : List Int) (d r : Nat) (X : List (List Int)) (e : Ending) (w' : World) : Prop :=
  ((colF X).2 = [] ∧ e = .returned (.tuple #[.slice none 0 0, .int .i64 7]) ∧ Ext w w') ∨ ((colF X).2 ≠ [] ∧ JoinP w b d r (colF X).2 e w')
theorem JoinP.past {w w1 w' : World} {b : List Int} {d r : Nat} {es : List (Int × List Int)} {e : Ending} (h : JoinP w1 b d r es e w') (hX : Ext w w1) : JoinP w b d r es e w' := by
  rcases h with ⟨h1, h2, h3⟩ | ⟨h1, v, h2, h3, h4⟩
  · exact Or.inl ⟨h1, h2, hX.trans h3⟩
  · exact Or.inr ⟨h1, v, h2, h3, hX.trans h4⟩
set_option maxRecDepth 100000 in
set_option maxHeartbeats 4000000 in
theorem vjoin_any (b : List Int) (d r : Nat) (h1d : 1 ≤ d) (hdr : d + r ≤ 64) (hb : Bytes b) (hbl : b.length ≤ 1000) (v : Value) (X : List (List Int)) (hL : LeftOK b d r X) (w : World) (hr : RL w v X) :
    Calls Try.prog 8 #[v] w (VJ w b d r X) := by
  obtain ⟨ad, cap, rfl, -⟩ := hr.shape
  have hcol := collect_any _ X hL.few hL.byt hL.len w hr
  have hj := fun hS mb B W h => join_any b d r h1d hdr hb hbl (colF X).2 hS mb B W h
  have hlit : ∀ mb, (setC (headF b d r) mb).toArray = #[.int .u32 (sumI b : Int), .int .i64 0, .int .i64 (d : Int), .int .i64 (r : Int), .int .i64 (b.length : Int), .map (some mb)] := fun mb => rfl
  obtain ⟨n, hn⟩ : ∃ n, X.length = n := ⟨_, rfl⟩
  rw [hn] at hcol ⊢
  replace hcol := hidden hcol
  replace hj := hidden hj
  replace hL := hidden hL
  go_enter Try.func8, Try.ntmps8
  go_wp2_with fail
  refine hcol.out.mono ?_
  rintro e w1 (⟨h0, rfl, hX1⟩ | ⟨h0, mb, B, rfl, hmb, hmB, hM, hX1⟩)
  · have hfin : Hid (VJ w b d r X (.returned (.tuple #[.slice none 0 0, .int .i64 7])) (w1.alloc (.cells #[.int .u32 0, .int .i64 0, .int .i64 0, .int .i64 0, .int .i64 0, .map none] 58))) := hidden (Or.inl ⟨h0, rfl, hX1.alloc _⟩)
    clear h0 hX1 hcol
    go_wp2_with fail
    refine bodyPost_ret (results_tmp2 rfl _ _ _) rfl ?_
    exact hfin.out
  · obtain ⟨hhd, hS⟩ := hL.out.set h0
    rw [hhd, hlit]
    have hj1 := hj.out hS mb B
    rw [hlit] at hj1
    obtain ⟨S, hSe⟩ : ∃ y, sumI b = y := ⟨_, rfl⟩
    obtain ⟨m, hm⟩ : ∃ y, b.length = y := ⟨_, rfl⟩
    rw [hSe, hm] at hj1 ⊢
    have hXa : Ext w1 (w1.alloc (.cells #[.int .u32 (S : Int), .int .i64 0, .int .i64 (d : Int), .int .i64 (r : Int), .int .i64 (m : Int), .map (some mb)] 58)) := (Ext.refl w1).alloc _
    have hj2 := hj1 _ (hM.chg (Chg.of_ext [] hXa) (by simp))
    have hX2 : Hid (Ext w (w1.alloc (.cells #[.int .u32 (S : Int), .int .i64 0, .int .i64 (d : Int), .int .i64 (r : Int), .int .i64 (m : Int), .map (some mb)] 58))) := hidden (hX1.trans hXa)
    have hb4 := Blk.new w1 [.int .u32 (S : Int), .int .i64 0, .int .i64 (d : Int), .int .i64 (r : Int), .int .i64 (m : Int), .map (some mb)] 58
    have hi58 : (Try.prog.info? 58).map (·.size) = some 6 := by kernel_rfl
    replace hj2 := hidden hj2
    replace h0 := hidden h0
    clear hj hj1 hM hX1 hXa hcol hhd hS hmb hmB hlit
    go_wp2_with (refine wpList_load_row rfl 58 (.tmp 4) rfl w1.heap.size rfl 58 #[.int .u32 (S : Int), .int .i64 0, .int .i64 (d : Int), .int .i64 (r : Int), .int .i64 (m : Int), .map (some mb)] (0, 0) _ hb4 Try.underlying58 rfl hi58 ?_)
    refine hj2.out.mono ?_
    rintro e w2 hJ
    have hJ2 := hJ.past hX2.out
    rcases hJ with ⟨y1, rfl, y3⟩ | ⟨y1, v2, rfl, y3, y4⟩
    · have hfin : Hid (VJ w b d r X (.returned (.tuple #[.slice none 0 0, .int .i64 26])) w2) := hidden (Or.inr ⟨h0.out, hJ2⟩)
      clear hJ2 y1 y3
      go_wp2_with fail
      refine bodyPost_ret (results_tmp2 rfl _ _ _) rfl ?_
      exact hfin.out
    · have hfin : Hid (VJ w b d r X (.returned (.tuple #[v2, .int .i64 0])) w2) := hidden (Or.inr ⟨h0.out, hJ2⟩)
      clear hJ2 y1 y3 y4
      go_wp2_with fail
      refine bodyPost_ret (results_tmp2 rfl _ _ _) rfl ?_
      exact hfin.out
def VR (w : World) (b : List Int) (d r : Nat) (X : List (List Int)) (e : Ending) (w' : World) : Prop :=
  ((colF X).2 = [] ∧ e = .returned (.tuple #[.slice none 0 0, .int .i64 7]) ∧ Ext w w') ∨ ((colF X).2 ≠ [] ∧ pres (colF X).2 (d + r) < d ∧ e = .returned (.tuple #[.slice none 0 0, .int .i64 26]) ∧ Ext w w') ∨
  ((colF X).2 ≠ [] ∧ d ≤ pres (colF X).2 (d + r) ∧ ∃ v, e = .returned (.tuple #[v, .int .i64 0]) ∧ RL w' v (splitF b d r) ∧ Ext w w')
set_option maxRecDepth 100000 in
set_option maxHeartbeats 4000000 in
theorem vrepair_any (b : List Int) (d r : Nat) (h1d : 1 ≤ d) (hdr : d + r ≤ 64) (hb : Bytes b) (hbl : b.length ≤ 1000) (v : Value) (X : List (List Int)) (hL : LeftOK b d r X) (w : World) (hr : RL w v X) :
    Calls Try.prog 9 #[v] w (VR w b d r X) := by
  obtain ⟨ad, cap, rfl, -⟩ := hr.shape
  have hcol := collect_any _ X hL.few hL.byt hL.len w hr
  have hj := fun hS mb B W h => join_any b d r h1d hdr hb hbl (colF X).2 hS mb B W h
  have hsp := fun v W (h : Rd8 W v b) => split_any d r h1d hdr v b hb hbl W h
  have hlit : ∀ mb, (setC (headF b d r) mb).toArray = #[.int .u32 (sumI b : Int), .int .i64 0, .int .i64 (d : Int), .int .i64 (r : Int), .int .i64 (b.length : Int), .map (some mb)] := fun mb => rfl
  obtain ⟨n, hn⟩ : ∃ n, X.length = n := ⟨_, rfl⟩
  rw [hn] at hcol ⊢
  replace hcol := hidden hcol
  replace hj := hidden hj
  replace hL := hidden hL
  replace hsp := hidden hsp
  go_enter Try.func9, Try.ntmps9
  go_wp2_with fail
  refine hcol.out.mono ?_
  rintro e w1 (⟨h0, rfl, hX1⟩ | ⟨h0, mb, B, rfl, hmb, hmB, hM, hX1⟩)
  · have hfin : Hid (VR w b d r X (.returned (.tuple #[.slice none 0 0, .int .i64 7])) (w1.alloc (.cells #[.int .u32 0, .int .i64 0, .int .i64 0, .int .i64 0, .int .i64 0, .map none] 58))) := hidden (Or.inl ⟨h0, rfl, hX1.alloc _⟩)
    clear h0 hX1 hcol
    go_wp2_with fail
    refine bodyPost_ret (results_tmp2 rfl _ _ _) rfl ?_
    exact hfin.out
  · obtain ⟨hhd, hS⟩ := hL.out.set h0
    rw [hhd, hlit]
    have hj1 := hj.out hS mb B
    rw [hlit] at hj1
    obtain ⟨S, hSe⟩ : ∃ y, sumI b = y := ⟨_, rfl⟩
    obtain ⟨m, hm⟩ : ∃ y, b.length = y := ⟨_, rfl⟩
    rw [hSe, hm] at hj1 ⊢
    have hXa : Ext w1 (w1.alloc (.cells #[.int .u32 (S : Int), .int .i64 0, .int .i64 (d : Int), .int .i64 (r : Int), .int .i64 (m : Int), .map (some mb)] 58)) := (Ext.refl w1).alloc _
    have hj2 := hj1 _ (hM.chg (Chg.of_ext [] hXa) (by simp))
    have hX2 : Hid (Ext w (w1.alloc (.cells #[.int .u32 (S : Int), .int .i64 0, .int .i64 (d : Int), .int .i64 (r : Int), .int .i64 (m : Int), .map (some mb)] 58))) := hidden (hX1.trans hXa)
    have hb4 := Blk.new w1 [.int .u32 (S : Int), .int .i64 0, .int .i64 (d : Int), .int .i64 (r : Int), .int .i64 (m : Int), .map (some mb)] 58
    have hi58 : (Try.prog.info? 58).map (·.size) = some 6 := by kernel_rfl
    replace hj2 := hidden hj2
    replace h0 := hidden h0
    clear hj hj1 hM hX1 hXa hcol hhd hS hmb hmB hlit
    go_wp2_with (refine wpList_load_row rfl 58 (.tmp 4) rfl w1.heap.size rfl 58 #[.int .u32 (S : Int), .int .i64 0, .int .i64 (d : Int), .int .i64 (r : Int), .int .i64 (m : Int), .map (some mb)] (0, 0) _ hb4 Try.underlying58 rfl hi58 ?_)
    refine hj2.out.mono ?_
    rintro e w2 (⟨y1, rfl, y3⟩ | ⟨y1, v2, rfl, y3, y4⟩)
    · have hfin : Hid (VR w b d r X (.returned (.tuple #[.slice none 0 0, .int .i64 26])) w2) := hidden (Or.inr (Or.inl ⟨h0.out, y1, rfl, hX2.out.trans y3⟩))
      clear y1 y3
      go_wp2_with fail
      refine bodyPost_ret (results_tmp2 rfl _ _ _) rfl ?_
      exact hfin.out
    · have hb5 := Blk.ext hb4 y4
      obtain ⟨p4, hp4⟩ : ∃ y, w1.heap.size = y := ⟨_, rfl⟩
      rw [hp4] at hb5
      have c2 := hb5.cell 2 _ rfl
      have c3 := hb5.cell 3 _ rfl
      have hs2 := hsp.out v2 w2 y3
      have hX3 : Hid (Ext w w2) := hidden (hX2.out.trans y4)
      replace hs2 := hidden hs2
      replace y1 := hidden y1
      clear y3 y4 hX2 hb4 hb5 hj2 hsp
      go_wp2_with fail
      refine hs2.out.mono ?_
      rintro e w3 ⟨v3, rfl, hO3, hX4⟩
      have hfin : Hid (VR w b d r X (.returned (.tuple #[v3, .int .i64 0])) w3) := hidden (Or.inr (Or.inr ⟨h0.out, y1.out, v3, rfl, hO3.rl, hX3.out.trans hX4⟩))
      clear hO3 hX4 hs2
      go_wp2_with fail
      refine bodyPost_ret (results_tmp2 rfl _ _ _) rfl ?_
      exact hfin.out
end Go.Proofs.Ytpfelklhejpnnaa

/- volume.Missing. -/
namespace Go.Proofs.Ytpfelklhejpnnaa
open Go.RowKit Go.MapKept Go.ChangeMaps
set_option linter.unusedVariables false
set_option linter.unusedSimpArgs false
attribute [local go_sem ↓] Go.wp_at_zero Go.wp_at_succ

theorem intinfo : (Try.prog.info? 3).map (fun i => (i.zero, i.size, i.bytes)) = some (some (.int .i64 0), 1, 8) := by kernel_rfl
/-- The indices of the parts that are not there, among the first. -/
def MI (P : List (List Int)) (k : Nat) : List Nat := (List.range k).filter fun i => decide (ln P i = 0)
def iv (l : List Nat) : List Value := l.map fun (i : Nat) => .int .i64 (i : Int)
theorem MI_yes {P : List (List Int)} {k : Nat} (h : ln P k = 0) : MI P (k + 1) = MI P k ++ [k] := by unfold MI; rw [List.range_succ, List.filter_append]; simp [h]
theorem MI_no {P : List (List Int)} {k : Nat} (h : ¬ ln P k = 0) : MI P (k + 1) = MI P k := by unfold MI; rw [List.range_succ, List.filter_append]; simp [h]
theorem MI_len (P : List (List Int)) (k : Nat) : (MI P k).length ≤ k := by
  have := List.length_filter_le (fun i => decide (ln P i = 0)) (List.range k)
  simpa [MI] using this
theorem iv_one (l : List Nat) : ∀ u ∈ iv l, u.oneCell' = true := fun u hu => by
  obtain ⟨i, -, rfl⟩ := List.mem_map.1 hu
  rfl
def VM (w : World) (b : List Int) (d r : Nat) (X : List (List Int)) (e : Ending) (w' : World) : Prop :=
  ((colF X).2 = [] ∧ e = .returned (.tuple #[.slice none 0 0, .int .i64 7]) ∧ Ext w w') ∨ ((colF X).2 ≠ [] ∧ ∃ v, e = .returned (.tuple #[v, .int .i64 0]) ∧ Rd w' 1 v (MI (allF (colF X).2 (d + r)) (d + r)).length (iv (MI (allF (colF X).2 (d + r)) (d + r))) ∧ Ext w w')
set_option maxRecDepth 100000 in
set_option maxHeartbeats 4000000 in
theorem vmissing_any (b : List Int) (d r : Nat) (h1d : 1 ≤ d) (hdr : d + r ≤ 64) (hb : Bytes b) (hbl : b.length ≤ 1000) (v : Value) (X : List (List Int)) (hL : LeftOK b d r X) (w : World) (hr : RL w v X) :
    Calls Try.prog 10 #[v] w (VM w b d r X) := by
  obtain ⟨ad, cap, rfl, -⟩ := hr.shape
  have hcol := collect_any _ X hL.few hL.byt hL.len w hr
  have hal := fun (hS : SetOK b d r (colF X).2) mb B W (h : MapM W mb B (colF X).2) => all_any (headF b d r) d r (d + r) rfl rfl rfl (by omega) hdr mb B (colF X).2 hS.keys hS.pw W h
  have hlit : ∀ mb, (setC (headF b d r) mb).toArray = #[.int .u32 (sumI b : Int), .int .i64 0, .int .i64 (d : Int), .int .i64 (r : Int), .int .i64 (b.length : Int), .map (some mb)] := fun mb => rfl
  obtain ⟨n, hn⟩ : ∃ n, X.length = n := ⟨_, rfl⟩
  rw [hn] at hcol ⊢
  replace hcol := hidden hcol
  replace hal := hidden hal
  replace hL := hidden hL
  go_enter Try.func10, Try.ntmps10
  go_wp2_with fail
  refine hcol.out.mono ?_
  rintro e w1 (⟨h0, rfl, hX1⟩ | ⟨h0, mb, B, rfl, hmb, hmB, hM, hX1⟩)
  · have hfin : Hid (VM w b d r X (.returned (.tuple #[.slice none 0 0, .int .i64 7])) (w1.alloc (.cells #[.int .u32 0, .int .i64 0, .int .i64 0, .int .i64 0, .int .i64 0, .map none] 58))) := hidden (Or.inl ⟨h0, rfl, hX1.alloc _⟩)
    clear h0 hX1 hcol
    go_wp2_with fail
    refine bodyPost_ret (results_tmp2 rfl _ _ _) rfl ?_
    exact hfin.out
  · obtain ⟨hhd, hS⟩ := hL.out.set h0
    rw [hhd, hlit]
    have hj1 := hal.out hS mb B
    rw [hlit] at hj1
    obtain ⟨S, hSe⟩ : ∃ y, sumI b = y := ⟨_, rfl⟩
    obtain ⟨m, hm⟩ : ∃ y, b.length = y := ⟨_, rfl⟩
    rw [hSe, hm] at hj1 ⊢
    have hXa : Ext w1 (w1.alloc (.cells #[.int .u32 (S : Int), .int .i64 0, .int .i64 (d : Int), .int .i64 (r : Int), .int .i64 (m : Int), .map (some mb)] 58)) := (Ext.refl w1).alloc _
    have hj2 := hj1 _ (hM.chg (Chg.of_ext [] hXa) (by simp))
    have hX2 : Hid (Ext w (w1.alloc (.cells #[.int .u32 (S : Int), .int .i64 0, .int .i64 (d : Int), .int .i64 (r : Int), .int .i64 (m : Int), .map (some mb)] 58))) := hidden (hX1.trans hXa)
    have hb4 := Blk.new w1 [.int .u32 (S : Int), .int .i64 0, .int .i64 (d : Int), .int .i64 (r : Int), .int .i64 (m : Int), .map (some mb)] 58
    have hi58 : (Try.prog.info? 58).map (·.size) = some 6 := by kernel_rfl
    have hLN : (allF (colF X).2 (d + r)).length = d + r := allF_len _ _
    have hVM : ∀ e w', (∃ v, e = .returned (.tuple #[v, .int .i64 0]) ∧ Rd w' 1 v (MI (allF (colF X).2 (d + r)) (d + r)).length (iv (MI (allF (colF X).2 (d + r)) (d + r))) ∧ Ext w w') → VM w b d r X e w' := fun e w' h => Or.inr ⟨h0, h⟩
    obtain ⟨N, hN⟩ : ∃ y, d + r = y := ⟨_, rfl⟩
    simp only [hN] at hVM hj2 hLN
    obtain ⟨P, hP⟩ : ∃ y, allF (colF X).2 N = y := ⟨_, rfl⟩
    simp only [hP] at hVM hj2 hLN
    rw [hN] at hdr
    replace hj2 := hidden hj2
    replace hVM := hidden hVM
    clear hal hj1 hM hX1 hXa hcol hhd hS hmb hmB hlit h0 hP
    go_wp2_with (refine wpList_load_row rfl 58 (.tmp 4) rfl w1.heap.size rfl 58 #[.int .u32 (S : Int), .int .i64 0, .int .i64 (d : Int), .int .i64 (r : Int), .int .i64 (m : Int), .map (some mb)] (0, 0) _ hb4 Try.underlying58 rfl hi58 ?_)
    refine hj2.out.mono ?_
    rintro e w2 ⟨v2, rfl, hO2, hX3⟩
    obtain ⟨a2, c2, hve, -, -⟩ := hO2.shape
    rw [hLN] at hve
    subst hve
    have hR2 : Hid (RL w2 (.slice a2 N c2) P) := hidden hO2.rl
    have hX02 : Hid (Ext w w2) := hidden (hX2.out.trans hX3)
    clear hO2 hX3 hb4 hj2
    go_upto_region 6 with fail
    go_loopw [6, 20] (fun u i wr => ∃ k : Nat, i = .int .i64 (k : Int) ∧ k ≤ N ∧ Hid (wr.ownsRow w2.heap.size 3 1 u (MI P k).length (iv (MI P k))) ∧ Hid (Ext w2 wr)) (fun _ i _ => N - (intOf i).toNat)
    case atStart => exact ⟨0, rfl, by omega, hidden (World.ownsRow_nil _ _ _ _), hidden (Ext.refl w2)⟩
    case round =>
      obtain ⟨k, rfl, hk, hO, hX⟩ := hrel
      have v1 : IntKind.i64.wrap ((k : Int) + 1) = (k : Int) + 1 := IntWalk.i64_in _ (by omega)
      obtain ⟨w3, hWW⟩ : ∃ X, X = wr := ⟨_, rfl⟩
      subst hWW
      by_cases hlt : k < N
      · have hlt2 : (k : Int) < (N : Int) := by omega
        obtain ⟨b', off', a1, c1, rfl, cR, -⟩ := (hR2.out.ext hX.out).row k hlt
        have hln : ln P k = (P.getD k []).length := rfl
        obtain ⟨x, hx⟩ : ∃ y, (P.getD k []).length = y := ⟨_, rfl⟩
        rw [hx] at cR hln
        have hml := MI_len P k
        by_cases hx0 : x = 0
        · have hst := MI_yes (P := P) (k := k) (by omega)
          obtain ⟨L, hLe⟩ : ∃ y, MI P k = y := ⟨_, rfl⟩
          rw [hLe] at hst hml
          have hO3 : Hid (w3.ownsRow w2.heap.size 3 1 u6 L.length (iv L)) := hidden (hLe ▸ hO.out)
          obtain ⟨i0, hi, hz0, hz1, hz2⟩ := info_parts intinfo
          have hrd : Hid (Rd (w3.alloc (.cells #[.int .i64 (k : Int)] 3)) 1 (.slice (some ⟨w3.heap.size, 0, none⟩) 1 1) 1 (iv [k])) := hidden (rd_of_blkS (Blk.new w3 (iv [k]) 3) rfl (by omega))
          have hO4 : Hid ((w3.alloc (.cells #[.int .i64 (k : Int)] 3)).ownsRow w2.heap.size 3 1 u6 L.length (iv L)) := hidden (own_ext hO3.out ((Ext.refl w3).alloc _))
          have hbz : w2.heap.size ≤ (w3.alloc (.cells #[.int .i64 (k : Int)] 3)).heap.size := (hX.out.alloc _).size
          have hlt9 : Hid (∀ y, u6.ownBlock = some y → w2.heap.size ≤ y) := hidden (fun y hy => (own_lt hO3.out hy).1)
          subst hx0
          replace hi := hidden hi
          replace hst := hidden hst
          clear hO hLe hO3 hx hln
          go_wp2_with (at_builtin; refine wpList_append_rd rfl _ _ 36 rfl w2.heap.size 3 i0 (.int .i64 0) 1 8 Try.underlying36 hi.out hz0 hz1 hz2 rfl (by decide) u6 L.length (iv L) rfl hO4.out (some ⟨w3.heap.size, 0, none⟩) 1 1 (iv [k]) rfl hrd.out (iv_one _) (by unfold maxLen; omega) (by omega) hbz ?_; intro v3 w5 hown hgrow hat)
          have hX5 : Ext w2 w5 := Chg.ext ((Chg.of_ext [] (hX.out.alloc (.cells #[.int .i64 (k : Int)] 3))).grown hgrow (fun y hy => Or.inr (hlt9.out y hy)))
          exact ⟨⟨k + 1, by go_num, by omega, hidden (by rw [hst.out, List.length_append]; unfold iv at hown ⊢; rw [List.map_append]; exact hown), hidden hX5⟩, by simp [intOf]; omega⟩
        · have hst := MI_no (P := P) (k := k) (by omega)
          have hx1 : ((x : Int) == 0) = false := by
            simp only [beq_eq_false_iff_ne, ne_eq]
            exact fun h => hx0 (by simpa using h)
          have hO4 : Hid (w3.ownsRow w2.heap.size 3 1 u6 (MI P (k + 1)).length (iv (MI P (k + 1)))) := hidden (by rw [hst]; exact hO.out)
          replace hx0 := hidden hx0
          clear hO hst hml hx hln
          go_wp2_with fail
          exact ⟨⟨k + 1, by go_num, by omega, hO4, hX⟩, by simp [intOf]; omega⟩
      · have hke : k = N := by omega
        have hk8 : decide ((k : Int) < (N : Int)) = false := decide_eq_false (by omega)
        have hO2 := hO.out
        rw [hke] at hO2
        have hXf : Hid (Ext w w3) := hidden (hX02.out.trans hX.out)
        have hO3 : Hid (Rd w3 1 u6 (MI P N).length (iv (MI P N))) := hidden (Rd.of_own hO2)
        clear hO hke hO2
        go_wp2_with fail
        refine bodyPost_ret (results_tmp2 rfl _ _ _) rfl ?_
        exact hVM.out _ _ ⟨_, rfl, hO3.out, hXf.out⟩
end Go.Proofs.Ytpfelklhejpnnaa
