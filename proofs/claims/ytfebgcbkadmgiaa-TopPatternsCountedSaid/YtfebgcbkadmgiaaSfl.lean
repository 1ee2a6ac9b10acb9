/- Layer 33: starts. -/
import Derived.Test.YtfebgcbkadmgiaaSfk
import Derived.Laws.Rows
namespace Go.Proofs.Ytfebgcbkadmgiaa
open Go.RowKit
set_option linter.unusedVariables false
set_option linter.unusedSimpArgs false
attribute [local go_sem ↓] Go.wp_at_zero Go.wp_at_succ

def cnt (D : List Int) (k c : Nat) : Int := (((D.take k).countP fun x => decide (x = (c : Int))) : Nat)
def cnL (D : List Int) (k : Nat) : List Int := (List.range 256).map (cnt D k)
theorem cnL_len (D : List Int) (k : Nat) : (cnL D k).length = 256 := by simp [cnL]
theorem cnL_get (D : List Int) (k c : Nat) (h : c < 256) : (cnL D k).getD c 0 = cnt D k c := by
  unfold cnL; rw [List.getD_eq_getElem?_getD, List.getElem?_map, List.getElem?_range h]; rfl
theorem cnL_at (D : List Int) (k c : Nat) (h : c < (cnL D k).length) : (cnL D k)[c] = cnt D k c := by
  simp only [cnL, List.getElem_map, List.getElem_range]
theorem cnL_zero (D : List Int) : cnL D 0 = List.replicate 256 0 := by
  refine List.ext_getElem (by rw [cnL_len, List.length_replicate]) fun i h1 h2 => ?_
  rw [cnL_at, List.getElem_replicate]
  unfold cnt
  rw [List.take_zero]
  rfl
theorem cnt_bd (D : List Int) (k c : Nat) : 0 ≤ cnt D k c ∧ cnt D k c ≤ D.length := by
  unfold cnt
  have h1 := List.countP_le_length (p := fun x => decide (x = (c : Int))) (l := D.take k)
  rw [List.length_take] at h1
  omega
theorem cnt_step (D : List Int) (k c : Nat) (h : k < D.length) : cnt D (k + 1) c = cnt D k c + if D.getD k 0 = (c : Int) then 1 else 0 := by
  unfold cnt
  rw [List.take_add_one, List.getElem?_eq_getElem h, List.countP_append]
  have : D.getD k 0 = D[k] := by rw [List.getD_eq_getElem?_getD, List.getElem?_eq_getElem h]; rfl
  rw [this]
  by_cases e : D[k] = (c : Int) <;> simp [e]
theorem cnL_step (D : List Int) (k z : Nat) (h : k < D.length) (hz : D.getD k 0 = (z : Int)) : (cnL D k).set z (cnt D k z + 1) = cnL D (k + 1) := by
  refine List.ext_getElem (by simp [cnL]) fun i h1 h2 => ?_
  rw [List.getElem_set, cnL_at, cnL_at, cnt_step D k i h, hz]
  by_cases e : z = i
  · subst e; rw [if_pos rfl, if_pos rfl]
  · rw [if_neg e, if_neg (by omega)]; omega
/-- The first row whose suffix begins with a byte. -/
def st (D : List Int) (c : Nat) : Int := 1 + ((D.countP fun x => decide (x < (c : Int))) : Nat)
theorem st_bd (D : List Int) (c : Nat) : 1 ≤ st D c ∧ st D c ≤ D.length + 1 := by
  unfold st
  have h1 := List.countP_le_length (p := fun x => decide (x < (c : Int))) (l := D)
  omega
theorem st_zero {D : List Int} (h : Bytes D) : st D 0 = 1 := by
  unfold st
  have : D.countP (fun x => decide (x < ((0 : Nat) : Int))) = 0 := by
    rw [List.countP_eq_zero]
    intro x hx
    have := (h x hx).1
    simp
    omega
  rw [this]
  rfl
theorem st_succ (D : List Int) (c : Nat) : st D (c + 1) = st D c + cnt D D.length c := by
  unfold st cnt
  rw [List.take_length]
  have : D.countP (fun x => decide (x < ((c + 1 : Nat) : Int))) = D.countP (fun x => decide (x < (c : Int)) || decide (x = (c : Int))) := by
    refine List.countP_congr fun x _ => ?_
    simp
    omega
  rw [this, Suf.countP_or_disj _ _ _ (fun x _ hx => by simp at hx ⊢; omega)]
  omega
def stL (D : List Int) : List Int := (List.range 256).map (st D)
def mixL (D : List Int) (c : Nat) : List Int := (List.range 256).map fun d => if d < c then st D d else cnt D D.length d
theorem mixL_len (D : List Int) (k : Nat) : (mixL D k).length = 256 := by simp [mixL]
theorem mixL_at (D : List Int) (k c : Nat) (h : c < (mixL D k).length) : (mixL D k)[c] = if c < k then st D c else cnt D D.length c := by
  simp only [mixL, List.getElem_map, List.getElem_range]
theorem mixL_zero (D : List Int) : mixL D 0 = cnL D D.length := by simp [mixL, cnL]
theorem mixL_set (D : List Int) (c : Nat) : (mixL D c).set c (st D c) = mixL D (c + 1) := by
  refine List.ext_getElem (by simp [mixL]) fun i h1 h2 => ?_
  rw [List.getElem_set, mixL_at, mixL_at]
  by_cases e : c = i
  · subst e; rw [if_pos rfl, if_pos (by omega)]
  · rw [if_neg e]
    by_cases e2 : i < c
    · rw [if_pos e2, if_pos (by omega)]
    · rw [if_neg e2, if_neg (by omega)]
theorem mixL_all (D : List Int) : mixL D 256 = stL D := by
  unfold mixL stL
  refine List.map_congr_left fun c hc => ?_
  rw [if_pos (List.mem_range.1 hc)]
theorem stL_len (D : List Int) : (stL D).length = 256 := by simp [stL]
theorem stL_get (D : List Int) (c : Nat) (h : c < 256) : (stL D).getD c 0 = st D c := by
  unfold stL; rw [List.getD_eq_getElem?_getD, List.getElem?_map, List.getElem?_range h]; rfl

theorem zero256 : Try.zeroCells55 = (iv (List.replicate 256 0)).toArray := by kernel_rfl
theorem run_index256 (l : List Int) (hl : l.length = 256) (i : Nat) (hi : i < 256) (w : World) : (Instr.index 55 (.agg (iv l).toArray) (.int .i64 (i : Int))).run Try.prog w = .ok (.int .i64 (l.getD i 0)) w := by
  have h0 : (0 : Int) ≤ i := by omega
  have h1 : (i : Int) < 256 := by omega
  have h2 : (iv l)[i]? = some (.int .i64 (l.getD i 0)) := iv_get l i (by omega)
  have h3 : i < (iv l).length := by rw [iv_len]; omega
  simp [Instr.index, run_underlying Try.underlying55, asIntOf, h0, h1, hi]
  simp [part, isAgg, run_underlying Try.underlying3, h2]
def StartsP (w : World) (D : List Int) (e : Ending) (w' : World) : Prop := e = .returned (.agg (iv (stL D)).toArray) ∧ Ext w w'

set_option maxRecDepth 100000 in
set_option maxHeartbeats 2000000 in
theorem starts_any (v : Value) (D : List Int) (pr : Int) (hb : Bytes D) (hn : D.length ≤ 1000) (w : World) (hr : Rd8 w v D) :
    Calls Try.prog 30 #[.agg #[v, .int .i64 pr]] w (StartsP w D) := by
  obtain ⟨ad, cap, rfl, q1, q2, q3⟩ := Rd.shape hr
  obtain ⟨n, hne⟩ : ∃ n, D.length = n := ⟨_, rfl⟩
  have hR : Hid (Rd8 w (.slice ad n cap) D) := hidden (by rw [← hne]; exact hr)
  rw [hne] at q1 hn ⊢
  clear hr
  replace hb := hidden hb
  have hB2 : Blk (((w.alloc (.cells #[.slice ad n cap, .int .i64 pr] 46)).alloc (.cells Try.zeroCells55 55)).alloc (.cells Try.zeroCells55 55)) (w.heap.size + 1) 55 (iv (List.replicate 256 0)) := by
    rw [zero256]
    have := (Blk.new (w.alloc (.cells #[.slice ad n cap, .int .i64 pr] 46)) (iv (List.replicate 256 0)) 55).alloc (.cells (iv (List.replicate 256 0)).toArray 55)
    rw [World.size_alloc] at this
    exact this
  have hB3 : Blk (((w.alloc (.cells #[.slice ad n cap, .int .i64 pr] 46)).alloc (.cells Try.zeroCells55 55)).alloc (.cells Try.zeroCells55 55)) (w.heap.size + 1 + 1) 55 (iv (cnL D 0)) := by
    rw [cnL_zero, zero256]
    have := Blk.new ((w.alloc (.cells #[.slice ad n cap, .int .i64 pr] 46)).alloc (.cells (iv (List.replicate 256 0)).toArray 55)) (iv (List.replicate 256 0)) 55
    rw [World.size_alloc, World.size_alloc] at this
    exact this
  have hX0 := (((Ext.refl w).alloc (.cells #[.slice ad n cap, .int .i64 pr] 46)).alloc (.cells Try.zeroCells55 55)).alloc (.cells Try.zeroCells55 55)
  replace hB2 := hidden hB2
  replace hB3 := hidden hB3
  replace hX0 := hidden hX0
  replace hne := hidden hne
  go_enter Try.func30, Try.ntmps30
  go_wp2_with fail
  obtain ⟨g, hg⟩ : ∃ g, w.heap.size = g := ⟨_, rfl⟩
  obtain ⟨W1, hW1⟩ : ∃ X, ((w.alloc (.cells #[.slice ad n cap, .int .i64 pr] 46)).alloc (.cells Try.zeroCells55 55)).alloc (.cells Try.zeroCells55 55) = X := ⟨_, rfl⟩
  rw [hW1] at hB2 hB3 hX0 ⊢
  rw [hg] at hB2 hB3 ⊢
  replace hg := hidden hg
  clear hW1
  go_loopw [12] (fun i wr => ∃ k : Nat, i = .int .i64 (k : Int) ∧ k ≤ n ∧ Hid (Blk wr (g + 1) 55 (iv (List.replicate 256 0))) ∧ Hid (Blk wr (g + 1 + 1) 55 (iv (cnL D k))) ∧ Hid (Ext w wr)) (fun i _ => n - (intOf i).toNat)
  case atStart => exact ⟨0, rfl, by omega, hB2, hB3, hX0⟩
  case round =>
    clear hB2 hB3 hX0
    obtain ⟨k, rfl, hk, hB2, hB3, hX⟩ := hrel
    have v1 : IntKind.i64.wrap ((k : Int) + 1) = (k : Int) + 1 := IntWalk.i64_in _ (by omega)
    obtain ⟨w2, hWW⟩ : ∃ X, X = wr := ⟨_, rfl⟩
    subst hWW
    by_cases hlt : k < n
    · have hlt2 : (k : Int) < (n : Int) := by omega
      have hkD : k < D.length := by rw [hne.out]; exact hlt
      have hrd : Rd8 w2 (.slice ad n cap) D := Rd.ext hR.out hX.out
      obtain ⟨bb, off, rfl, hbb⟩ := Rd8.some hrd (by omega)
      have cB := hrd.at k hkD
      have hyb := hb.out.get k hkD
      obtain ⟨z, hz⟩ : ∃ z : Nat, D.getD k 0 = (z : Int) := ⟨_, Int.eq_ofNat_of_zero_le hyb.1 |>.choose_spec⟩
      rw [hz] at cB hyb
      have hz2 : z < 256 := by omega
      have hz3 : (z : Int) < 256 := by omega
      have cX := hB3.out.cell z _ (iv_get _ z (by rw [cnL_len]; exact hz2))
      rw [cnL_get _ _ _ hz2] at cX
      have hst := cnL_step D k z hkD hz
      have hcb := cnt_bd D k z
      rw [hne.out] at hcb
      obtain ⟨c, hc⟩ : ∃ c, cnt D k z = c := ⟨_, rfl⟩
      rw [hc] at cX hst hcb
      have fX := hB3.out.frozen z
      have c0 := hcb.1
      have c1 := hcb.2
      have v2 : IntKind.i64.wrap (c + 1) = c + 1 := IntWalk.i64_in _ (by omega)
      have hB3' := hB3.out.set z (.int .i64 (c + 1))
      rw [iv_set, hst] at hB3'
      have hB2' := hB2.out.set_other (i := z) (c := g + 1 + 1) (by omega) (.int .i64 (c + 1))
      have hX' := Ext.setCell hX.out (p := ⟨g + 1 + 1, z, none⟩) (by show w.heap.size ≤ g + 1 + 1; rw [hg.out]; omega) (.int .i64 (c + 1))
      replace hB3' := hidden hB3'
      replace hB2' := hidden hB2'
      replace hX' := hidden hX'
      clear hc hz hyb hst hcb hrd hbb hkD
      go_wp2_with fail
      go_roundw
      case rel => exact ⟨k + 1, by go_num, by omega, hB2', hB3', hX'⟩
      case measure => simp [intOf]; omega
    · obtain hkn : k = n := by omega
      have hlt3 : decide ((k : Int) < (n : Int)) = false := decide_eq_false (by omega)
      have hB3' := hB3.out
      rw [hkn, ← hne.out, ← mixL_zero] at hB3'
      have hlr := hB3'
      have hB4' := hidden hB3'
      have hst0 := st_zero hb.out
      clear hB3
      go_upto_region 8 with fail
      go_wp2_with (refine wpList_load_row rfl 55 (.tmp 3) rfl (g + 1 + 1) rfl 55 (iv (mixL D 0)).toArray (0, 0) _ hlr Try.underlying55 rfl (by rw [List.size_toArray, iv_len, mixL_len]; kernel_rfl) ?_)
      clear hlr hB3'
      go_loopw [6, 23] (fun nx i wr => ∃ c : Nat, i = .int .i64 (c : Int) ∧ c ≤ 256 ∧ nx = .int .i64 (st D c) ∧ Hid (Blk wr (g + 1) 55 (iv (List.replicate 256 0))) ∧ Hid (Blk wr (g + 1 + 1) 55 (iv (mixL D c))) ∧ Hid (Ext w wr)) (fun _ i _ => 256 - (intOf i).toNat)
      case atStart => exact ⟨0, rfl, by omega, by rw [hst0], hB2, hB4', hX⟩
      case round =>
        clear hB2 hB4' hX hst0
        obtain ⟨c, rfl, hc, rfl, hB2, hB3, hX⟩ := hrel
        have v1 : IntKind.i64.wrap ((c : Int) + 1) = (c : Int) + 1 := IntWalk.i64_in _ (by omega)
        obtain ⟨w3, hWW⟩ : ∃ X, X = wr := ⟨_, rfl⟩
        subst hWW
        by_cases hlt : c < 256
        · have hlt2 : (c : Int) < 256 := by omega
          have hix := run_index256 (mixL D 0) (mixL_len D 0) c hlt
          rw [show (mixL D 0).getD c 0 = cnt D n c by rw [mixL_zero, cnL_get _ _ _ hlt, hne.out]] at hix
          obtain ⟨z, hz⟩ : ∃ z, (iv (mixL D 0)).toArray = z := ⟨_, rfl⟩
          rw [hz] at hix ⊢
          have cX := hB3.out.cell c _ (iv_get _ c (by rw [mixL_len]; exact hlt))
          have fX := hB3.out.frozen c
          have hB3' := hB3.out.set c (.int .i64 (st D c))
          rw [iv_set, mixL_set] at hB3'
          have hB2' := hB2.out.set_other (i := c) (c := g + 1 + 1) (by omega) (.int .i64 (st D c))
          have hX' := Ext.setCell hX.out (p := ⟨g + 1 + 1, c, none⟩) (by show w.heap.size ≤ g + 1 + 1; rw [hg.out]; omega) (.int .i64 (st D c))
          have hss := st_succ D c
          have b1 := st_bd D c
          have b2 := cnt_bd D D.length c
          rw [hne.out] at hss b1 b2
          obtain ⟨s, hs⟩ : ∃ s, st D c = s := ⟨_, rfl⟩
          obtain ⟨m, hm⟩ : ∃ m, cnt D n c = m := ⟨_, rfl⟩
          rw [hs] at hss b1 hB3' hB2' hX' ⊢
          rw [hm] at hss b2 hix
          have v2 : IntKind.i64.wrap (s + m) = s + m := IntWalk.i64_in _ (by omega)
          replace hss := hidden hss
          replace hB3' := hidden hB3'
          replace hB2' := hidden hB2'
          replace hX' := hidden hX'
          obtain ⟨u, hu⟩ : ∃ u, (mixL D c).getD c 0 = u := ⟨_, rfl⟩
          rw [hu] at cX
          clear hs hm hu hz hlt
          go_wp2_with fail
          go_roundw
          case rel => exact ⟨c + 1, by go_num, by omega, by rw [hss.out], hB2', hB3', hX'⟩
          case measure => simp [intOf]; omega
        · have hce : c = 256 := by omega
          have hlt4 : decide ((c : Int) < 256) = false := decide_eq_false (by omega)
          have hr3 := hB3.out
          rw [hce, mixL_all] at hr3
          have hr2 := hB2.out
          have hsz : (iv (stL D)).toArray.size = 256 := by rw [List.size_toArray, iv_len, stL_len]
          have hi55 : (Try.prog.info? 55).map (·.size) = some 256 := by kernel_rfl
          clear hB3
          go_upto_region 14 with fail
          go_wp2_with (first | (refine wpList_load_row rfl 55 (.tmp 3) rfl (g + 1 + 1) rfl 55 (iv (stL D)).toArray (0, 0) _ hr3 Try.underlying55 rfl (by rw [hsz]; exact hi55) ?_) | (refine wpList_store_row rfl 55 (.tmp 2) (.tmp 34) rfl (g + 1) (iv (stL D)).toArray rfl rfl 55 _ hr2 (by rw [hsz]; exact hi55) (by rw [hsz, List.size_toArray, iv_len, List.length_replicate]) (by simp [iv, Value.oneCell']) ?_))
          have hrow := setRow_heap w3 (g + 1) _ (iv (stL D)).toArray 55 _ hr2
          have hXr : Ext w (w3.setRow (g + 1) (iv (stL D)).toArray) := below_setRow hX.out (by rw [hg.out]; omega) _
          exact bodyPost_ret (v := .agg (iv (stL D)).toArray) (results_cell_row (p := 2) (ty := 55) (by kernel_rfl) _ _ (g + 1) 55 (iv (stL D)).toArray (0, 0) _ rfl hrow Try.underlying55 rfl (by rw [hsz]; exact hi55)) rfl ⟨rfl, hXr⟩
end Go.Proofs.Ytfebgcbkadmgiaa
