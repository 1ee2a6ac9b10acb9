/- Layer 18, the reference: tree. -/
import Derived.Test.YtcnbljohhajkhaaXg
namespace Go.Proofs.Ytcnbljohhajkhaa
open Go.RowKit
set_option linter.unusedVariables false
set_option linter.unusedSimpArgs false
attribute [local go_sem ↓] Go.wp_at_zero Go.wp_at_succ

def TreeOK (S : Sy) : Prop := ∀ (w : World) (vc vP : Value) (C : List (Int × Int)) (P : List Int) (i : Nat), Code18 w vc C → RdI w vP P → P.length = C.length → C.length ≤ 1024 → AtS C P i S → i ≤ C.length →
  Calls Try.prog 31 #[vc, vP, .int .i64 (i : Int), .int .i64 ((i + S.len : Nat) : Int)] w fun x w' => ∃ v, x = .returned v ∧ SubAt w' (fun k => w.heap.size ≤ k) v (S.tr i .nil) ∧ Ext w w'
set_option maxHeartbeats 8000000 in
set_option maxRecDepth 100000 in
theorem tree_any (S : Sy) (ih : ∀ S' : Sy, S'.len < S.len → TreeOK S') : TreeOK S := by
  intro w vc vP C P i hc hp hpl hC hS hi
  have hle := at_len S hS hi
  obtain ⟨n, hn⟩ : ∃ n, C.length = n := ⟨_, rfl⟩
  obtain ⟨t, ht⟩ : ∃ t, i + S.len = t := ⟨_, rfl⟩
  obtain ⟨a, cap, rfl, hcap, hcap2, -⟩ := Rd.shape hc
  obtain ⟨aP, cP, rfl, hcP, hcP2, -⟩ := Rd.shape hp
  have hCd : Hid (∀ W, Ext w W → Code18 W (.slice a C.length cap) C) := hidden fun W c => hc.ext c
  have hPd : Hid (∀ W, Ext w W → RdI W (.slice aP P.length cP) P) := hidden fun W c => Rd.ext hp c
  rw [hpl] at hPd hcP
  rw [hpl]
  rw [hn] at hpl hCd hPd hcap hcP hC hi hle ⊢
  rw [ht] at hle ⊢
  have hsl : Hid (∀ r : Sy, r.len < S.len → TreeOK r) := hidden ih
  have hti : i ≤ t := by omega
  replace hn := hidden hn
  replace hpl := hidden hpl
  replace hS := hidden hS
  have htI := hidden ht
  obtain ⟨R, hR⟩ : ∃ R, S.tr i .nil = R := ⟨_, rfl⟩
  rw [hR]
  replace hR := hidden hR
  obtain ⟨i0, hia, hz0, hz1, hz2⟩ := info_parts blkinfo
  replace hia := hidden hia
  clear hc hp ih ht
  go_enter Try.func31, Try.ntmps31
  go_wp2_with fail
  go_loopw [9, 10] (fun ov ix wr => ∃ (k m : Nat) (r : Sy) (ou : T) (v1 : Value), k ≤ t ∧ ix = .int .i64 (k : Int) ∧ v1 = ov ∧ m ≤ k ∧ Hid (k + r.len = t) ∧ Hid (AtS C P k r) ∧ Hid (r.len ≤ S.len) ∧ Hid (r.tr k ou = R) ∧ Hid (ou.lastOp = some (-1) → r.ops = 0) ∧ Hid (MV w wr v1 m ou)) (fun _ ix _ => (t - intOf ix).toNat)
  case atStart => exact ⟨i, 0, S, .nil, _, hti, rfl, rfl, Nat.zero_le _, htI, hS, Nat.le_refl _, hR, hidden (fun h => by simp [T.lastOp] at h), MV.start w⟩
  case round =>
    obtain ⟨k, m, r, ou, v1, hk, rfl, rfl, hmk, hrl, hA, hrs, htr, hla, hM⟩ := hrel
    obtain ⟨W, hWW⟩ : ∃ Z, Z = wr := ⟨_, rfl⟩
    subst hWW
    have hX := hidden hM.out.X
    have hws := hX.out.size
    by_cases hlt : k < t
    · have hlt' : (k : Int) < (t : Int) := by omega
      have hkn : k < n := by omega
      have hcode := hCd.out W hX.out
      obtain ⟨b, off, rfl, -, -⟩ := Rd.cells (cs := C.flatMap icell) (w := W) (sz := 2) (by have := hcode; unfold Code18 at this; rw [hn.out] at this; exact this) (show 0 < n by omega)
      have hprt := hPd.out W hX.out
      obtain ⟨bP, oP, rfl, -, -⟩ := (show Rd W 1 (.slice aP n cP) n (P.map (Value.int .i64)) by have := hprt; unfold RdI at this; rw [hpl.out] at this; exact this).cells (by omega)
      have hcd : Hid (∀ j, j < n → W.cell? ⟨b, off + j * 2, none⟩ = some (.int .i64 (opAt C j))) := hidden (fun j hj => (code_at hcode j (by rw [hn.out]; exact hj)).1)
      have hpd : Hid (∀ j, j < n → W.cell? ⟨bP, oP + j, none⟩ = some (.int .i64 (P.getD j 0))) := hidden (fun j hj => RdI.at hprt j (by rw [hpl.out]; exact hj))
      clear hcode hprt
      obtain ⟨cs, hO, hF⟩ := hM.out.ex
      have hml := hidden hM.out.len
      replace hO := hidden hO
      replace hF := hidden hF
      obtain ⟨q, hq⟩ : ∃ q, r.ops = q := ⟨_, rfl⟩
      by_cases hq0 : 0 < q
      · have hao := at_ops r k hA.out
        have hst := at_stop hao.2 (Sy.aft_ops r)
        have hoa := Sy.ops_aft r
        have htf := Sy.tr_first r k ou (by omega) (fun h => by have := hla.out h; omega)
        rw [hq] at hao hst hoa htf
        rw [hn.out] at hst
        have hop : Hid (∀ j, j < q → opAt C (k + j) ≠ 27 ∧ opAt C (k + j) ≠ 29) := hidden (fun j hj => (hao.1 j hj).2)
        have hA2 := hidden hao.2
        have hrl2 : Hid (k + q + r.aft.len = t) := by show _ = _; have := hrl.out; omega
        have hkq : k + q ≤ t := by have := hrl2.out; omega
        have htr2 : Hid (r.aft.tr (k + q) (ou.app (.cons (-1) k ((k + q : Nat) : Int) .nil .nil .nil)) = R) := by show _ = _; rw [← htf]; exact htr.out
        have hrs2 : Hid (r.aft.len ≤ S.len) := by show _ ≤ _; have := hrs.out; omega
        have hst2 : Hid (k + q < t → opAt C (k + q) = 27 ∨ opAt C (k + q) = 29) := hidden (fun h => by
          rcases hst with h1 | ⟨h1, h2, h3⟩
          · have := hrl2.out; omega
          · exact h3)
        obtain ⟨x0, hx0⟩ : ∃ x0, opAt C k = x0 := ⟨_, rfl⟩
        obtain ⟨hn27, hn29⟩ := hop.out 0 hq0
        rw [Nat.add_zero, hx0] at hn27 hn29
        have c0 := hcd.out k hkn
        rw [hx0] at c0
        have hq27 : (x0 != 27) = true := by simp; exact hn27
        have hq29 : (x0 != 29) = true := by simp; exact hn29
        replace hx0 := hidden hx0
        replace hq := hidden hq
        clear hao hst hoa htf hn27 hn29
        go_wp2_with fail
        clear hq27 hq29 c0
        go_loopw [11] (fun jx wr => ∃ j : Nat, j ≤ q ∧ jx = .int .i64 ((k + j : Nat) : Int) ∧ wr = W) (fun jx _ => (t - intOf jx).toNat)
        case atStart => exact ⟨0, Nat.zero_le _, rfl, rfl⟩
        case round =>
          obtain ⟨j, hj, rfl, hwr⟩ := hrel
          subst hwr
          obtain ⟨y, hy⟩ : ∃ y, k + j = y := ⟨_, rfl⟩
          rw [hy]
          by_cases hjq : j < q
          · have hyt : y < t := by omega
            have hyt' : (y : Int) < (t : Int) := by omega
            have c0 := hcd.out y (by omega)
            obtain ⟨h27, h29⟩ := hop.out j hjq
            rw [hy] at h27 h29
            obtain ⟨x0, hx0⟩ : ∃ x0, opAt C y = x0 := ⟨_, rfl⟩
            rw [hx0] at c0 h27 h29
            have hyn : y < n := by omega
            have hyn' : (y : Int) < (n : Int) := by omega
            have hq27 : (x0 != 27) = true := by simp; exact h27
            have hq29 : (x0 != 29) = true := by simp; exact h29
            have hyw : IntKind.i64.wrap ((y : Int) + 1) = (y : Int) + 1 := IntWalk.i64_in _ (by omega)
            replace hx0 := hidden hx0
            replace hy := hidden hy
            clear h27 h29
            go_wp2_with fail
            go_roundw
            case rel => exact ⟨j + 1, by omega, by rw [← Nat.add_assoc, hy.out]; go_num, trivial⟩
            case measure => simp [intOf] <;> omega
          · obtain rfl : j = q := by omega
            have hky : k < y := by omega
            have hyle : y ≤ t := by omega
            have hyn0 : y ≤ n := by omega
            have HO := hidden (show (wr.alloc (.cells #[.int .i64 (-1), .int .i64 (k : Int), .int .i64 (y : Int), .slice none 0 0, .slice none 0 0] 47)).ownsRow w.heap.size 47 5 v1 m cs from own_ext hO.out ((Ext.refl wr).alloc _))
            have hnw := hidden (rd_new5 wr (.int .i64 (-1)) (.int .i64 (k : Int)) (.int .i64 (y : Int)) (.slice none 0 0) (.slice none 0 0) 47)
            by_cases hyt : y < t
            · have hyt' : (y : Int) < (t : Int) := by omega
              have c0 := hcd.out y (by omega)
              have h2729 := hst2.out (by omega)
              rw [hy] at h2729
              obtain ⟨x0, hx0⟩ : ∃ x0, opAt C y = x0 := ⟨_, rfl⟩
              rw [hx0] at c0 h2729
              have hyn : y < n := by omega
              have hyn' : (y : Int) < (n : Int) := by omega
              replace hx0 := hidden hx0
              replace hy := hidden hy
              rcases h2729 with rfl | rfl
              · 
                go_wp2_with (at_builtin; refine wpList_append_rd (by rfl) _ _ 25 (by rfl) w.heap.size 47 i0 (.agg #[.int .i64 0, .int .i64 0, .int .i64 0, .slice none 0 0, .slice none 0 0]) 5 72 Try.underlying25 hia.out hz0 hz1 hz2 rfl (by decide) v1 m cs (by rfl) HO.out (some ⟨wr.heap.size, 0, none⟩) 1 1 [.int .i64 (-1), .int .i64 (k : Int), .int .i64 (y : Int), .slice none 0 0, .slice none 0 0] (by rfl) hnw.out (by simp [Value.oneCell']) (by unfold maxLen; omega) (by omega) (by simp; omega) ?_; intro v' w4 hown4 hgrow4 hat4)
                have hM2 := MV.push (tb := .cons (-1) k (y : Int) .nil .nil .nil) hO.out hF.out hX.out hml.out ((Ext.refl wr).alloc (.cells #[.int .i64 (-1), .int .i64 (k : Int), .int .i64 (y : Int), .slice none 0 0, .slice none 0 0] 47)) (Fr.plain _ _ _ _) rfl hown4 hgrow4 hat4
                go_roundw
                case rel => exact ⟨y, m + 1, r.aft, _, _, by omega, rfl, rfl, by omega, by rw [← hy.out]; exact hrl2, by rw [← hy.out]; exact hA2, hrs2, by rw [← hy.out]; rw [hy.out]; have := htr2; rw [hy.out] at this; exact this, hidden (fun _ => Sy.aft_ops r), hM2⟩
                case measure => simp [intOf] <;> omega
              · 
                go_wp2_with (at_builtin; refine wpList_append_rd (by rfl) _ _ 25 (by rfl) w.heap.size 47 i0 (.agg #[.int .i64 0, .int .i64 0, .int .i64 0, .slice none 0 0, .slice none 0 0]) 5 72 Try.underlying25 hia.out hz0 hz1 hz2 rfl (by decide) v1 m cs (by rfl) HO.out (some ⟨wr.heap.size, 0, none⟩) 1 1 [.int .i64 (-1), .int .i64 (k : Int), .int .i64 (y : Int), .slice none 0 0, .slice none 0 0] (by rfl) hnw.out (by simp [Value.oneCell']) (by unfold maxLen; omega) (by omega) (by simp; omega) ?_; intro v' w4 hown4 hgrow4 hat4)
                have hM2 := MV.push (tb := .cons (-1) k (y : Int) .nil .nil .nil) hO.out hF.out hX.out hml.out ((Ext.refl wr).alloc (.cells #[.int .i64 (-1), .int .i64 (k : Int), .int .i64 (y : Int), .slice none 0 0, .slice none 0 0] 47)) (Fr.plain _ _ _ _) rfl hown4 hgrow4 hat4
                go_roundw
                case rel => exact ⟨y, m + 1, r.aft, _, _, by omega, rfl, rfl, by omega, by rw [← hy.out]; exact hrl2, by rw [← hy.out]; exact hA2, hrs2, by rw [← hy.out]; rw [hy.out]; have := htr2; rw [hy.out] at this; exact this, hidden (fun _ => Sy.aft_ops r), hM2⟩
                case measure => simp [intOf] <;> omega
            · have hyt' : ¬ (y : Int) < (t : Int) := by omega
              replace hy := hidden hy
              go_wp2_with (at_builtin; refine wpList_append_rd (by rfl) _ _ 25 (by rfl) w.heap.size 47 i0 (.agg #[.int .i64 0, .int .i64 0, .int .i64 0, .slice none 0 0, .slice none 0 0]) 5 72 Try.underlying25 hia.out hz0 hz1 hz2 rfl (by decide) v1 m cs (by rfl) HO.out (some ⟨wr.heap.size, 0, none⟩) 1 1 [.int .i64 (-1), .int .i64 (k : Int), .int .i64 (y : Int), .slice none 0 0, .slice none 0 0] (by rfl) hnw.out (by simp [Value.oneCell']) (by unfold maxLen; omega) (by omega) (by simp; omega) ?_; intro v' w4 hown4 hgrow4 hat4)
              have hM2 := MV.push (tb := .cons (-1) k (y : Int) .nil .nil .nil) hO.out hF.out hX.out hml.out ((Ext.refl wr).alloc (.cells #[.int .i64 (-1), .int .i64 (k : Int), .int .i64 (y : Int), .slice none 0 0, .slice none 0 0] 47)) (Fr.plain _ _ _ _) rfl hown4 hgrow4 hat4
              go_roundw
              case rel => exact ⟨y, m + 1, r.aft, _, _, by omega, rfl, rfl, by omega, by rw [← hy.out]; exact hrl2, by rw [← hy.out]; exact hA2, hrs2, by rw [← hy.out]; rw [hy.out]; have := htr2; rw [hy.out] at this; exact this, hidden (fun _ => Sy.aft_ops r), hM2⟩
              case measure => simp [intOf] <;> omega
      · obtain rfl : q = 0 := by omega
        cases r with
        | nil => have := hrl.out; simp [Sy.len] at this; omega
        | op x r => simp [Sy.ops] at hq
        | blk x bb z r =>
          obtain ⟨a1, a2, a3, a4, a5, a6, a7⟩ := hA.out
          obtain ⟨M, hMM⟩ : ∃ M, k + bb.len + 1 = M := ⟨_, rfl⟩
          obtain ⟨N, hNN⟩ : ∃ N, M + 1 = N := ⟨_, rfl⟩
          have hkN : k + bb.len + 2 = N := by omega
          rw [hMM] at a1 a4 a5
          rw [hkN] at a7
          rw [hn.out] at a1
          have c0 := hcd.out k hkn
          have p0 := hpd.out k hkn
          have c1 := hcd.out M a1
          rw [a2] at c0
          rw [a4] at p0
          obtain ⟨v, hv⟩ : ∃ v, opAt C M = v := ⟨_, rfl⟩
          rw [hv] at c1 a5
          have hrl2 : Hid (N + r.len = t) := by show _ = _; have := hrl.out; simp only [Sy.len] at this; omega
          have hNt : N ≤ t := by have := hrl2.out; omega
          have hrs2 : Hid (r.len ≤ S.len) := by show _ ≤ _; have := hrs.out; simp only [Sy.len] at this; omega
          have htr2 : Hid (r.tr N (ou.app (.cons x.1 k (N : Int) (bb.tr (k + 1) .nil) .nil .nil)) = R) := by show _ = _; rw [← hkN]; exact htr.out
          have hA2 := hidden a7
          obtain ⟨u, hu⟩ : ∃ u, x.1 = u := ⟨_, rfl⟩
          rw [hu] at c0 a3 htr2
          have hkM : k < M := by omega
          have hMn : (M : Int) < (n : Int) := by omega
          have hkn' : (k : Int) < (n : Int) := by omega
          have hkw : IntKind.i64.wrap ((k : Int) + 1) = (k : Int) + 1 := IntWalk.i64_in _ (by omega)
          have hMw : IntKind.i64.wrap ((M : Int) + 1) = (N : Int) := by rw [IntWalk.i64_in _ (by omega)]; omega
          replace a2 := hidden a2
          replace a4 := hidden a4
          replace hv := hidden hv
          replace hu := hidden hu
          have hMN : M < N := by omega
          replace hMM := hidden hMM
          replace hNN := hidden hNN
          replace hkN := hidden hkN
          rcases a3 with rfl | rfl
          ·
            go_upto_region 11 with fail
            have XV := (Ext.refl W).alloc (.cells #[.int .i64 27, .int .i64 (k : Int), .int .i64 0, .slice none 0 0, .slice none 0 0] 47)
            have BV := Blk.new W [.int .i64 27, .int .i64 (k : Int), .int .i64 0, .slice none 0 0, .slice none 0 0] 47
            obtain ⟨s, hs⟩ : ∃ s, W.heap.size = s := ⟨_, rfl⟩
            rw [hs] at BV ⊢
            obtain ⟨V, hV⟩ : ∃ V, W.alloc (.cells #[.int .i64 27, .int .i64 (k : Int), .int .i64 0, .slice none 0 0, .slice none 0 0] 47) = V := ⟨_, rfl⟩
            rw [hV] at XV BV ⊢
            have hsV := BV.lt
            replace hV := hidden hV
            have p1 := XV.cell p0
            have hcall := hsl.out bb (by have := hrs.out; simp only [Sy.len] at this; omega) V _ _ C P (k + 1) (hCd.out V (hX.out.trans XV)) (hPd.out V (hX.out.trans XV)) (by rw [hpl.out, hn.out]) (by rw [hn.out]; exact hC) a6 (by rw [hn.out]; omega)
            rw [show k + 1 + bb.len = M by have := hMM.out; omega, show ((k + 1 : Nat) : Int) = (k : Int) + 1 by omega] at hcall
            replace hcall := hidden hcall
            clear p0 c0
            go_wp2_with fail
            refine hcall.out.mono ?_
            clear hcall
            rintro e w1 ⟨vb, rfl, hSb, hX1⟩
            obtain ⟨ab, cb, rfl, -⟩ := Rd.shape hSb.choose_spec.1
            have B1 := BV.ext hX1
            have d2 := B1.cell 2 _ rfl
            have d3 := B1.cell 3 _ rfl
            have f2 := B1.frozen 2
            have f3 := B1.frozen 3
            obtain ⟨lb, hlb⟩ : ∃ lb, (bb.tr (k + 1) .nil).len = lb := ⟨_, rfl⟩
            rw [hlb] at hSb ⊢
            replace hSb := hidden hSb
            replace B1 := hidden B1
            replace hlb := hidden hlb
            clear p1
            go_upto_region 14 with fail
            clear d2 d3 f2 f3
            have B2 := (B1.out.set 3 (.slice ab lb cb)).set 2 (.int .i64 (N : Int))
            have CV2 : Chg [s] w1 ((w1.setCell ⟨s, 3, none⟩ (.slice ab lb cb)).setCell ⟨s, 2, none⟩ (.int .i64 (N : Int))) := ((Chg.refl _ w1).setCell (Or.inl (by simp)) _).setCell (Or.inl (by simp)) _
            have XV2 := ((XV.trans hX1).setCell (p := ⟨s, 3, none⟩) (by rw [hs]; exact Nat.le_refl s) (.slice ab lb cb)).setCell (p := ⟨s, 2, none⟩) (by rw [hs]; exact Nat.le_refl s) (.int .i64 (N : Int))
            simp only [List.set_cons_zero, List.set_cons_succ] at B2
            obtain ⟨V2, hV2⟩ : ∃ V2, (w1.setCell ⟨s, 3, none⟩ (.slice ab lb cb)).setCell ⟨s, 2, none⟩ (.int .i64 (N : Int)) = V2 := ⟨_, rfl⟩
            rw [hV2] at B2 XV2 CV2 ⊢
            replace hV2 := hidden hV2
            have Sb2 := hSb.out.chg CV2 (fun x hx hq => by simp at hx; omega) (fun k _ h => h)
            clear hSb B1 CV2 BV hX1
            have c2 := XV2.cell c1
            have Bf := hidden B2
            have XF := XV2
            have Sf := hidden Sb2
            clear B2 Sb2 c1
            have hv28 : (v == 28) = false := by simp; exact a5
            have g0 := Bf.out.cell 0 _ rfl
            have g1 := Bf.out.cell 1 _ rfl
            have g2 := Bf.out.cell 2 _ rfl
            have g3 := Bf.out.cell 3 _ rfl
            have g4 := Bf.out.cell 4 _ rfl
            have XA := (Ext.refl V2).alloc (.cells #[.int .i64 27, .int .i64 (k : Int), .int .i64 (N : Int), .slice ab lb cb, .slice none 0 0] 47)
            have HO := hidden (show (V2.alloc (.cells #[.int .i64 27, .int .i64 (k : Int), .int .i64 (N : Int), .slice ab lb cb, .slice none 0 0] 47)).ownsRow w.heap.size 47 5 v1 m cs from own_ext hO.out (XF.alloc _))
            have hnw := hidden (rd_new5 V2 (.int .i64 27) (.int .i64 (k : Int)) (.int .i64 (N : Int)) (.slice ab lb cb) (.slice none 0 0) 47)
            have hv1 : some s ≠ v1.ownBlock := fun e => by have := (own_lt hO.out e.symm).2; omega
            have hsz := (hX.out.trans XF).size
            replace hv1 := hidden hv1
            go_upto_region 18 with (at_builtin; refine wpList_append_rd (by rfl) _ _ 25 (by rfl) w.heap.size 47 i0 (.agg #[.int .i64 0, .int .i64 0, .int .i64 0, .slice none 0 0, .slice none 0 0]) 5 72 Try.underlying25 hia.out hz0 hz1 hz2 rfl (by decide) v1 m cs (by rfl) HO.out (some ⟨V2.heap.size, 0, none⟩) 1 1 [.int .i64 27, .int .i64 (k : Int), .int .i64 (N : Int), .slice ab lb cb, .slice none 0 0] (by rfl) hnw.out (by simp [Value.oneCell']) (by unfold maxLen; omega) (by omega) (by simp; omega) ?_; intro v' w4 hown4 hgrow4 hat4)
            have h2 := World.grownBy.cell hgrow4 (XA.cell g2) hv1.out
            clear g0 g1 g2 g3 g4
            go_wp2_with fail
            have hM2 := MV.push (tb := .cons 27 k (N : Int) (bb.tr (k + 1) .nil) .nil .nil) hO.out hF.out hX.out hml.out (XF.alloc _) ⟨_, _, [], rfl, Sf.out.chg (Chg.of_ext [] XA) (by simp) (fun j hj h => ⟨Nat.le_trans (XV.size) h, Nat.lt_of_lt_of_le hj XA.size⟩), SubAt.nil _ _, rfl⟩ rfl hown4 hgrow4 hat4
            go_roundw
            case rel => exact ⟨N, m + 1, r, _, _, by omega, by go_num, rfl, by omega, hrl2, hA2, hrs2, htr2, hidden (fun h => by rw [last_app] at h; simp at h), hM2⟩
            case measure => simp [intOf] <;> omega
          ·
            go_upto_region 11 with fail
            have XV := (Ext.refl W).alloc (.cells #[.int .i64 29, .int .i64 (k : Int), .int .i64 0, .slice none 0 0, .slice none 0 0] 47)
            have BV := Blk.new W [.int .i64 29, .int .i64 (k : Int), .int .i64 0, .slice none 0 0, .slice none 0 0] 47
            obtain ⟨s, hs⟩ : ∃ s, W.heap.size = s := ⟨_, rfl⟩
            rw [hs] at BV ⊢
            obtain ⟨V, hV⟩ : ∃ V, W.alloc (.cells #[.int .i64 29, .int .i64 (k : Int), .int .i64 0, .slice none 0 0, .slice none 0 0] 47) = V := ⟨_, rfl⟩
            rw [hV] at XV BV ⊢
            have hsV := BV.lt
            replace hV := hidden hV
            have p1 := XV.cell p0
            have hcall := hsl.out bb (by have := hrs.out; simp only [Sy.len] at this; omega) V _ _ C P (k + 1) (hCd.out V (hX.out.trans XV)) (hPd.out V (hX.out.trans XV)) (by rw [hpl.out, hn.out]) (by rw [hn.out]; exact hC) a6 (by rw [hn.out]; omega)
            rw [show k + 1 + bb.len = M by have := hMM.out; omega, show ((k + 1 : Nat) : Int) = (k : Int) + 1 by omega] at hcall
            replace hcall := hidden hcall
            clear p0 c0
            go_wp2_with fail
            refine hcall.out.mono ?_
            clear hcall
            rintro e w1 ⟨vb, rfl, hSb, hX1⟩
            obtain ⟨ab, cb, rfl, -⟩ := Rd.shape hSb.choose_spec.1
            have B1 := BV.ext hX1
            have d2 := B1.cell 2 _ rfl
            have d3 := B1.cell 3 _ rfl
            have f2 := B1.frozen 2
            have f3 := B1.frozen 3
            obtain ⟨lb, hlb⟩ : ∃ lb, (bb.tr (k + 1) .nil).len = lb := ⟨_, rfl⟩
            rw [hlb] at hSb ⊢
            replace hSb := hidden hSb
            replace B1 := hidden B1
            replace hlb := hidden hlb
            clear p1
            go_upto_region 14 with fail
            clear d2 d3 f2 f3
            have B2 := (B1.out.set 3 (.slice ab lb cb)).set 2 (.int .i64 (N : Int))
            have CV2 : Chg [s] w1 ((w1.setCell ⟨s, 3, none⟩ (.slice ab lb cb)).setCell ⟨s, 2, none⟩ (.int .i64 (N : Int))) := ((Chg.refl _ w1).setCell (Or.inl (by simp)) _).setCell (Or.inl (by simp)) _
            have XV2 := ((XV.trans hX1).setCell (p := ⟨s, 3, none⟩) (by rw [hs]; exact Nat.le_refl s) (.slice ab lb cb)).setCell (p := ⟨s, 2, none⟩) (by rw [hs]; exact Nat.le_refl s) (.int .i64 (N : Int))
            simp only [List.set_cons_zero, List.set_cons_succ] at B2
            obtain ⟨V2, hV2⟩ : ∃ V2, (w1.setCell ⟨s, 3, none⟩ (.slice ab lb cb)).setCell ⟨s, 2, none⟩ (.int .i64 (N : Int)) = V2 := ⟨_, rfl⟩
            rw [hV2] at B2 XV2 CV2 ⊢
            replace hV2 := hidden hV2
            have Sb2 := hSb.out.chg CV2 (fun x hx hq => by simp at hx; omega) (fun k _ h => h)
            clear hSb B1 CV2 BV hX1
            have c2 := XV2.cell c1
            have Bf := hidden B2
            have XF := XV2
            have Sf := hidden Sb2
            clear B2 Sb2 c1
            have hv28 : (v == 28) = false := by simp; exact a5
            have g0 := Bf.out.cell 0 _ rfl
            have g1 := Bf.out.cell 1 _ rfl
            have g2 := Bf.out.cell 2 _ rfl
            have g3 := Bf.out.cell 3 _ rfl
            have g4 := Bf.out.cell 4 _ rfl
            have XA := (Ext.refl V2).alloc (.cells #[.int .i64 29, .int .i64 (k : Int), .int .i64 (N : Int), .slice ab lb cb, .slice none 0 0] 47)
            have HO := hidden (show (V2.alloc (.cells #[.int .i64 29, .int .i64 (k : Int), .int .i64 (N : Int), .slice ab lb cb, .slice none 0 0] 47)).ownsRow w.heap.size 47 5 v1 m cs from own_ext hO.out (XF.alloc _))
            have hnw := hidden (rd_new5 V2 (.int .i64 29) (.int .i64 (k : Int)) (.int .i64 (N : Int)) (.slice ab lb cb) (.slice none 0 0) 47)
            have hv1 : some s ≠ v1.ownBlock := fun e => by have := (own_lt hO.out e.symm).2; omega
            have hsz := (hX.out.trans XF).size
            replace hv1 := hidden hv1
            go_upto_region 18 with (at_builtin; refine wpList_append_rd (by rfl) _ _ 25 (by rfl) w.heap.size 47 i0 (.agg #[.int .i64 0, .int .i64 0, .int .i64 0, .slice none 0 0, .slice none 0 0]) 5 72 Try.underlying25 hia.out hz0 hz1 hz2 rfl (by decide) v1 m cs (by rfl) HO.out (some ⟨V2.heap.size, 0, none⟩) 1 1 [.int .i64 29, .int .i64 (k : Int), .int .i64 (N : Int), .slice ab lb cb, .slice none 0 0] (by rfl) hnw.out (by simp [Value.oneCell']) (by unfold maxLen; omega) (by omega) (by simp; omega) ?_; intro v' w4 hown4 hgrow4 hat4)
            have h2 := World.grownBy.cell hgrow4 (XA.cell g2) hv1.out
            clear g0 g1 g2 g3 g4
            go_wp2_with fail
            have hM2 := MV.push (tb := .cons 29 k (N : Int) (bb.tr (k + 1) .nil) .nil .nil) hO.out hF.out hX.out hml.out (XF.alloc _) ⟨_, _, [], rfl, Sf.out.chg (Chg.of_ext [] XA) (by simp) (fun j hj h => ⟨Nat.le_trans (XV.size) h, Nat.lt_of_lt_of_le hj XA.size⟩), SubAt.nil _ _, rfl⟩ rfl hown4 hgrow4 hat4
            go_roundw
            case rel => exact ⟨N, m + 1, r, _, _, by omega, by go_num, rfl, by omega, hrl2, hA2, hrs2, htr2, hidden (fun h => by rw [last_app] at h; simp at h), hM2⟩
            case measure => simp [intOf] <;> omega
        | ife x bb y cc z r =>
          obtain ⟨a1, a2, a3, a4, a5, a55, a6, a7, a8⟩ := hA.out
          obtain ⟨M, hMM⟩ : ∃ M, k + bb.len + 1 = M := ⟨_, rfl⟩
          obtain ⟨N, hNN⟩ : ∃ N, M + 1 = N := ⟨_, rfl⟩
          obtain ⟨E, hEE⟩ : ∃ E, k + bb.len + cc.len + 2 = E := ⟨_, rfl⟩
          obtain ⟨F, hFF⟩ : ∃ F, E + 1 = F := ⟨_, rfl⟩
          have hkN : k + bb.len + 2 = N := by omega
          have hkF : k + bb.len + cc.len + 3 = F := by omega
          rw [hMM] at a4 a5 a55
          rw [hEE] at a1 a55
          rw [hkN] at a7
          rw [hkF] at a8
          rw [hn.out] at a1
          have hkM : k < M := by omega
          have hME : M < E := by omega
          have hNE : N ≤ E := by omega
          have c0 := hcd.out k hkn
          have p0 := hpd.out k hkn
          have p01 := hpd.out M (by omega)
          have c1 := hcd.out M (by omega)
          rw [a2, a3] at c0
          rw [a4] at p0
          rw [a5] at c1
          rw [a55] at p01
          have hrl2 : Hid (F + r.len = t) := by show _ = _; have := hrl.out; simp only [Sy.len] at this; omega
          have hFt : F ≤ t := by have := hrl2.out; omega
          have hrs2 : Hid (r.len ≤ S.len) := by show _ ≤ _; have := hrs.out; simp only [Sy.len] at this; omega
          have htr2 : Hid (r.tr F (ou.app (.cons 27 k (F : Int) (bb.tr (k + 1) .nil) (cc.tr N .nil) .nil)) = R) := by show _ = _; rw [← hkF, ← hkN, ← a3]; exact htr.out
          have hA2 := hidden a8
          have hMn0 : M < n := by omega
          have hMn : (M : Int) < (n : Int) := by omega
          have hkn' : (k : Int) < (n : Int) := by omega
          have hkw : IntKind.i64.wrap ((k : Int) + 1) = (k : Int) + 1 := IntWalk.i64_in _ (by omega)
          have hMw : IntKind.i64.wrap ((M : Int) + 1) = (N : Int) := by rw [IntWalk.i64_in _ (by omega)]; omega
          have hEw : IntKind.i64.wrap ((E : Int) + 1) = (F : Int) := by rw [IntWalk.i64_in _ (by omega)]; omega
          have hEF : E < F := by omega
          replace a2 := hidden a2
          replace a3 := hidden a3
          replace a4 := hidden a4
          replace a5 := hidden a5
          replace a55 := hidden a55
          replace hMM := hidden hMM
          replace hNN := hidden hNN
          replace hEE := hidden hEE
          replace hFF := hidden hFF
          replace hkN := hidden hkN
          replace hkF := hidden hkF
          go_upto_region 11 with fail
          have XV := (Ext.refl W).alloc (.cells #[.int .i64 27, .int .i64 (k : Int), .int .i64 0, .slice none 0 0, .slice none 0 0] 47)
          have BV := Blk.new W [.int .i64 27, .int .i64 (k : Int), .int .i64 0, .slice none 0 0, .slice none 0 0] 47
          obtain ⟨s, hs⟩ : ∃ s, W.heap.size = s := ⟨_, rfl⟩
          rw [hs] at BV ⊢
          obtain ⟨V, hV⟩ : ∃ V, W.alloc (.cells #[.int .i64 27, .int .i64 (k : Int), .int .i64 0, .slice none 0 0, .slice none 0 0] 47) = V := ⟨_, rfl⟩
          rw [hV] at XV BV ⊢
          have hsV := BV.lt
          replace hV := hidden hV
          have p1 := XV.cell p0
          have hcall := hsl.out bb (by have := hrs.out; simp only [Sy.len] at this; omega) V _ _ C P (k + 1) (hCd.out V (hX.out.trans XV)) (hPd.out V (hX.out.trans XV)) (by rw [hpl.out, hn.out]) (by rw [hn.out]; exact hC) a6 (by rw [hn.out]; omega)
          rw [show k + 1 + bb.len = M by have := hMM.out; omega, show ((k + 1 : Nat) : Int) = (k : Int) + 1 by omega] at hcall
          replace hcall := hidden hcall
          clear p0 c0
          go_wp2_with fail
          refine hcall.out.mono ?_
          clear hcall
          rintro e w1 ⟨vb, rfl, hSb, hX1⟩
          obtain ⟨ab, cb, rfl, -⟩ := Rd.shape hSb.choose_spec.1
          have B1 := BV.ext hX1
          have d2 := B1.cell 2 _ rfl
          have d3 := B1.cell 3 _ rfl
          have f2 := B1.frozen 2
          have f3 := B1.frozen 3
          obtain ⟨lb, hlb⟩ : ∃ lb, (bb.tr (k + 1) .nil).len = lb := ⟨_, rfl⟩
          rw [hlb] at hSb ⊢
          replace hSb := hidden hSb
          replace B1 := hidden B1
          replace hlb := hidden hlb
          clear p1
          go_upto_region 14 with fail
          clear d2 d3 f2 f3
          have B2 := (B1.out.set 3 (.slice ab lb cb)).set 2 (.int .i64 (N : Int))
          have CV2 : Chg [s] w1 ((w1.setCell ⟨s, 3, none⟩ (.slice ab lb cb)).setCell ⟨s, 2, none⟩ (.int .i64 (N : Int))) := ((Chg.refl _ w1).setCell (Or.inl (by simp)) _).setCell (Or.inl (by simp)) _
          have XV2 := ((XV.trans hX1).setCell (p := ⟨s, 3, none⟩) (by rw [hs]; exact Nat.le_refl s) (.slice ab lb cb)).setCell (p := ⟨s, 2, none⟩) (by rw [hs]; exact Nat.le_refl s) (.int .i64 (N : Int))
          simp only [List.set_cons_zero, List.set_cons_succ] at B2
          obtain ⟨V2, hV2⟩ : ∃ V2, (w1.setCell ⟨s, 3, none⟩ (.slice ab lb cb)).setCell ⟨s, 2, none⟩ (.int .i64 (N : Int)) = V2 := ⟨_, rfl⟩
          rw [hV2] at B2 XV2 CV2 ⊢
          replace hV2 := hidden hV2
          have Sb2 := hSb.out.chg CV2 (fun x hx hq => by simp at hx; omega) (fun k _ h => h)
          clear hSb B1 CV2 BV hX1
          have c2 := XV2.cell c1
          have p2 := XV2.cell p01
          have hcall := hsl.out cc (by have := hrs.out; simp only [Sy.len] at this; omega) V2 _ _ C P N (hCd.out V2 (hX.out.trans XV2)) (hPd.out V2 (hX.out.trans XV2)) (by rw [hpl.out, hn.out]) (by rw [hn.out]; exact hC) a7 (by rw [hn.out]; omega)
          rw [show N + cc.len = E by have := hEE.out; have := hMM.out; have := hNN.out; omega] at hcall
          replace hcall := hidden hcall
          replace Sb2 := hidden Sb2
          replace B2 := hidden B2
          clear c1
          go_wp2_with fail
          refine hcall.out.mono ?_
          clear hcall
          rintro e w2 ⟨vo, rfl, hSo, hX2⟩
          obtain ⟨ao, co, rfl, -⟩ := Rd.shape hSo.choose_spec.1
          have B3 := B2.out.ext hX2
          have Sb3 := Sb2.out.chg (Chg.of_ext [] hX2) (by simp) (fun k _ h => h)
          have d2 := B3.cell 2 _ rfl
          have d4 := B3.cell 4 _ rfl
          have f2 := B3.frozen 2
          have f4 := B3.frozen 4
          have p3 := hX2.cell p2
          have hs2 : s < V2.heap.size := B2.out.lt
          have hpb : bP ≠ s := by have := cell_lt p01; omega
          have hpb' : s ≠ bP := fun e => hpb e.symm
          obtain ⟨lo, hlo⟩ : ∃ lo, (cc.tr N .nil).len = lo := ⟨_, rfl⟩
          rw [hlo] at hSo ⊢
          replace hSo := hidden hSo
          replace B3 := hidden B3
          replace Sb3 := hidden Sb3
          replace hlo := hidden hlo
          clear p2 c2 Sb2 B2
          go_upto_region 17 with fail
          clear d2 d4 f2 f4 p3
          have B4 := (B3.out.set 4 (.slice ao lo co)).set 2 (.int .i64 (F : Int))
          have CV3 : Chg [s] w2 ((w2.setCell ⟨s, 4, none⟩ (.slice ao lo co)).setCell ⟨s, 2, none⟩ (.int .i64 (F : Int))) := ((Chg.refl _ w2).setCell (Or.inl (by simp)) _).setCell (Or.inl (by simp)) _
          have XF := ((XV2.trans hX2).setCell (p := ⟨s, 4, none⟩) (by rw [hs]; exact Nat.le_refl s) (.slice ao lo co)).setCell (p := ⟨s, 2, none⟩) (by rw [hs]; exact Nat.le_refl s) (.int .i64 (F : Int))
          simp only [List.set_cons_zero, List.set_cons_succ] at B4
          obtain ⟨V3, hV3⟩ : ∃ V3, (w2.setCell ⟨s, 4, none⟩ (.slice ao lo co)).setCell ⟨s, 2, none⟩ (.int .i64 (F : Int)) = V3 := ⟨_, rfl⟩
          rw [hV3] at B4 XF CV3 ⊢
          replace hV3 := hidden hV3
          have Sf := hidden (Sb3.out.chg CV3 (fun x hx hq => by simp at hx; omega) (fun k _ h => h))
          have Sg := hidden (hSo.out.chg CV3 (fun x hx hq => by simp at hx; omega) (fun k _ h => h))
          have hsz2 := XV2.size
          have Bf := hidden B4
          clear hSo B3 Sb3 B4 CV3 hX2
          have g0 := Bf.out.cell 0 _ rfl
          have g1 := Bf.out.cell 1 _ rfl
          have g2 := Bf.out.cell 2 _ rfl
          have g3 := Bf.out.cell 3 _ rfl
          have g4 := Bf.out.cell 4 _ rfl
          have XA := (Ext.refl V3).alloc (.cells #[.int .i64 27, .int .i64 (k : Int), .int .i64 (F : Int), .slice ab lb cb, .slice ao lo co] 47)
          have HO := hidden (show (V3.alloc (.cells #[.int .i64 27, .int .i64 (k : Int), .int .i64 (F : Int), .slice ab lb cb, .slice ao lo co] 47)).ownsRow w.heap.size 47 5 v1 m cs from own_ext hO.out (XF.alloc _))
          have hnw := hidden (rd_new5 V3 (.int .i64 27) (.int .i64 (k : Int)) (.int .i64 (F : Int)) (.slice ab lb cb) (.slice ao lo co) 47)
          have hv1 : some s ≠ v1.ownBlock := fun e => by have := (own_lt hO.out e.symm).2; omega
          have hsz := (hX.out.trans XF).size
          replace hv1 := hidden hv1
          go_upto_region 18 with (at_builtin; refine wpList_append_rd (by rfl) _ _ 25 (by rfl) w.heap.size 47 i0 (.agg #[.int .i64 0, .int .i64 0, .int .i64 0, .slice none 0 0, .slice none 0 0]) 5 72 Try.underlying25 hia.out hz0 hz1 hz2 rfl (by decide) v1 m cs (by rfl) HO.out (some ⟨V3.heap.size, 0, none⟩) 1 1 [.int .i64 27, .int .i64 (k : Int), .int .i64 (F : Int), .slice ab lb cb, .slice ao lo co] (by rfl) hnw.out (by simp [Value.oneCell']) (by unfold maxLen; omega) (by omega) (by simp; omega) ?_; intro v' w4 hown4 hgrow4 hat4)
          have h2 := World.grownBy.cell hgrow4 (XA.cell g2) hv1.out
          clear g0 g1 g2 g3 g4
          go_wp2_with fail
          have hM2 := MV.push (tb := .cons 27 k (F : Int) (bb.tr (k + 1) .nil) (cc.tr N .nil) .nil) hO.out hF.out hX.out hml.out (XF.alloc _) ⟨_, _, [], rfl, Sf.out.chg (Chg.of_ext [] XA) (by simp) (fun j hj h => ⟨Nat.le_trans (XV.size) h, Nat.lt_of_lt_of_le hj XA.size⟩), Sg.out.chg (Chg.of_ext [] XA) (by simp) (fun j hj h => ⟨Nat.le_trans hsz2 h, Nat.lt_of_lt_of_le hj XA.size⟩), rfl⟩ rfl hown4 hgrow4 hat4
          go_roundw
          case rel => exact ⟨F, m + 1, r, _, _, by omega, by go_num, rfl, by omega, hrl2, hA2, hrs2, htr2, hidden (fun h => by rw [last_app] at h; simp at h), hM2⟩
          case measure => simp [intOf] <;> omega
    · obtain rfl : k = t := by omega
      have hr0 : r.len = 0 := by have := hrl.out; omega
      have hRo : ou = R := by
        have := htr.out
        cases r with
        | nil => exact this
        | op x r => simp [Sy.len] at hr0
        | blk x b z r => simp [Sy.len] at hr0
        | ife x b y c z r => simp [Sy.len] at hr0
      replace hRo := hidden hRo
      go_wp2_with fail
      go_ret
      exact ⟨_, rfl, by rw [← hRo.out]; exact hM.out.sub, hX.out⟩
end Go.Proofs.Ytcnbljohhajkhaa
