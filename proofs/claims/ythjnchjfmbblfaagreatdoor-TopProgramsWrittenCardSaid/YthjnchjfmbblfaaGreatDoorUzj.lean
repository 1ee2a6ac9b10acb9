/- array. -/
import Derived.Test.YthjnchjfmbblfaaGreatDoorUzi
namespace Go.Proofs.YthjnchjfmbblfaaGreatDoor
open Go.RowKit Go.ChangeMaps Go.MapKept
set_option linter.unusedVariables false
set_option linter.unusedSimpArgs false
attribute [local go_sem ↓] Go.wp_at_zero Go.wp_at_succ

/-- The sizes of the first arrays. -/
def psA (A : List (Bool × Int)) (k : Nat) : Int := ((A.take k).map (·.2)).sum
theorem sum_nonneg : ∀ l : List (Bool × Int), (∀ x ∈ l, 1 ≤ x.2) → 0 ≤ (l.map (·.2)).sum
  | [], _ => by simp
  | x :: l, h => by
    have h1 := sum_nonneg l (fun y hy => h y (List.mem_cons_of_mem _ hy))
    have h2 := h x List.mem_cons_self
    simp only [List.map_cons, List.sum_cons]
    omega
theorem psA_bd {A : List (Bool × Int)} (h : ∀ x ∈ A, 1 ≤ x.2) (k : Nat) : 0 ≤ psA A k ∧ psA A k ≤ Src.sumA A := by
  have h1 := sum_nonneg (A.take k) (fun x hx => h x (List.mem_of_mem_take hx))
  have h2 := sum_nonneg (A.drop k) (fun x hx => h x (List.mem_of_mem_drop hx))
  have h3 : Src.sumA A = psA A k + ((A.drop k).map (·.2)).sum := by
    unfold Src.sumA psA
    conv => lhs; rw [← List.take_append_drop k A]
    rw [List.map_append, List.sum_append]
  unfold psA
  unfold psA at h3
  omega
theorem psA_succ {A : List (Bool × Int)} {k : Nat} {x : Bool × Int} (h : A[k]? = some x) : psA A (k + 1) = psA A k + x.2 := by
  unfold psA
  rw [List.take_add_one, h]
  simp
theorem psA_all (A : List (Bool × Int)) : psA A A.length = Src.sumA A := by unfold psA Src.sumA; rw [List.take_length]
set_option maxHeartbeats 16000000 in
set_option maxRecDepth 100000 in
theorem array_any (B r m e : Nat) (s : Src.RS) (w : World) (hR : RMem w B r m e s) (hb : ∀ x ∈ s.ws, x.1.length ≤ 8192) (h8 : s.arr.length ≤ 1000000) (h16 : s.loc.length ≤ 1000000) (hE : EG B r m w) (hI : Src.RInv s) (wide : Bool) :
    Calls Tryz.prog 51 #[.pointer (some ⟨r, 0, none⟩), .bool wide] w (RowP B r m e (Src.arrayF e wide s) w) := by
  have hfr := fresh_any B r m e s w hR hb h8 h16
  have hBS : Hid (B ≤ w.heap.size) := hidden (by obtain ⟨_, _, _, _, _, h⟩ := hR; exact h.BS)
  have hb' := hidden hb
  cases hnf : Src.freshF e s with
  | error c =>
    rw [hnf] at hfr
    unfold StepP at hfr
    simp only [failW] at hfr
    have hpf : Src.arrayF e wide s = .error c := by unfold Src.arrayF; rw [hnf]
    rw [hpf]
    replace hfr := hidden hfr
    go_enter Tryz.func51, Tryz.ntmps51
    go_wp2_with fail
    refine (hfr.out).mono ?_
    rintro x w2 ⟨rfl, hC2⟩
    have hK := KB.of_chg (m := m) hC2 hBS.out (fun x hx => by simp at hx; exact Or.inl hx)
    go_wp2
    exact ⟨rfl, rfl, hK⟩
  | ok a =>
    obtain ⟨⟨tx, pl⟩, s'⟩ := a
    have hsame := Src.freshF_same hnf
    obtain ⟨rr, hrr⟩ := hsame
    simp only at hrr
    rw [hnf] at hfr
    unfold StepP at hfr
    obtain ⟨T, hT⟩ : ∃ T : ByteArray, ba tx = T := ⟨_, rfl⟩
    have hv : vW (tx, pl) = .agg #[.string T, .int .i64 (pl : Int)] := by rw [← hT]; rfl
    simp only [hv] at hfr
    have hpf : Hid (Src.arrayF e wide s = if 8 ≤ s'.arr.length then .error (pl, 6) else match Src.valueF e s' with
      | .error x => .error x
      | .ok ((n, at_), s2) => if 0 < n ∧ (n : Int) + Src.sumA s2.A ≤ 65536 then .ok { s2 with arr := s2.arr ++ [tx], A := s2.A ++ [(wide, (n : Int))] } else .error (at_, 2)) := hidden (by
      unfold Src.arrayF
      rw [hnf]
      rfl)
    have hI' : Src.RInv s' := by rw [hrr]; exact hI.ws rr
    have hws' : ∀ x ∈ s'.ws, x.1.length ≤ 8192 := fun x hx => hb x (freshF_ws hnf x hx)
    have hf := demand_false T (pl : Int) 6
    simp only [failW] at hf
    have ht := demand_true T (pl : Int) 6
    replace hfr := hidden hfr
    replace hf := hidden hf
    replace ht := hidden ht
    replace hT := hidden hT
    replace hI' := hidden hI'
    replace hws' := hidden hws'
    obtain ⟨i0, ii, iz0, iz1, iz2⟩ := info_parts str_info
    obtain ⟨iA, aii, az0, az1, az2⟩ := info_parts arrInfo
    clear hR hb hnf hv hrr h8 h16
    go_enter Tryz.func51, Tryz.ntmps51
    go_wp2_with fail
    refine (hfr.out).mono ?_
    rintro x w2 ⟨rfl, hR2, hC2⟩
    have hK2 := hidden (KB.of_chg (m := m) hC2 hBS.out (fun x hx => by simp at hx; exact Or.inl hx))
    obtain ⟨w3, hw3⟩ : ∃ w3, w2.alloc (.cells #[.string T, .int .i64 (pl : Int)] 86) = w3 := ⟨_, rfl⟩
    obtain ⟨q3, hq3⟩ : ∃ q, w2.heap.size = q := ⟨_, rfl⟩
    have X3 : Ext w2 w3 := by rw [← hw3]; exact (Ext.refl w2).alloc _
    have HB3 : Blk w3 q3 86 [.string T, .int .i64 (pl : Int)] := by rw [← hw3]; exact blk_newAt' w2 _ _ _ hq3
    obtain ⟨vw, vA, vC, va, vl, hV2⟩ := hR2
    have hV := hV2.ext X3
    have hE3 : EG B r m w3 := (hE.chg hC2 (by simp; exact hE.ne.1)).chg (Chg.of_ext [] X3) (by simp)
    obtain ⟨al, cl, hva, -⟩ := own_shape hV.oa
    obtain ⟨k, hk⟩ : ∃ k, s'.arr.length = k := ⟨_, rfl⟩
    rw [hk] at hva
    subst hva
    have e0 := HB3.cell 0 _ rfl
    have e1 := HB3.cell 1 _ rfl
    have e5 := hV.blk.cell 5 _ rfl
    have hq3B : B ≤ q3 ∧ r < q3 := by have := hV2.rB; have := hV2.BS; omega
    have hBS2 := hV2.BS
    have hK3 := hidden (hK2.out.trans (KB.of_ext X3 hBS2))
    have hpf' := hpf.out
    rw [hk] at hpf'
    replace hpf' := hidden hpf'
    replace hV := hidden hV
    replace hk := hidden hk
    replace HB3 := hidden HB3
    replace hE3 := hidden hE3
    clear hV2 hC2 hBS2 X3 hpf hE
    go_wp2_with fail
    rename_i KK hKK
    by_cases hlt : 8 ≤ k
    · have hd : ¬ (k : Int) < 8 := by omega
      have hF : Hid (∀ W, Ext w3.drew W → RowP B r m e (Src.arrayF e wide s) w (failW (pl : Int) 6) W) := hidden (by
        intro W hW
        rw [hpf'.out, if_pos hlt]
        exact ⟨rfl, hK3.out.trans (KB.of_ext ((Ext.refl w3).drew.trans hW) hV.out.BS)⟩)
      refine wp_region_D (S := fun w' : World => w'.cell? ⟨r, 5, none⟩ = some (.slice al k cl) ∧ w'.cell? ⟨q3, 0, none⟩ = some (.string T) ∧ w'.cell? ⟨q3, 1, none⟩ = some (.int .i64 (pl : Int))) (D := []) (by kernel_rfl) ⟨e5, e0, e1⟩ (fun HS => ?_)
      refine takeD 0 [] (.agg #[.string T, .int .i64 (pl : Int)]) rfl rfl (by kernel_rfl) (by kernel_rfl) (by kernel_rfl) (by kernel_rfl) (by decide) (by decide) (fun _ _ _ h => h) (by rfl) (fun w' hw' => by obtain ⟨s1, s2, s3⟩ := hw'; go_simp) HS ?_
      try simp only [List.setIfInBounds_toArray, List.set_cons_zero, List.set_cons_succ]
      refine takeD 1 [] (.pointer (some ⟨r, 0, none⟩)) rfl rfl (by kernel_rfl) (by kernel_rfl) (by kernel_rfl) (by kernel_rfl) (by decide) (by decide) (fun _ _ _ h => h) (by rfl) (fun w' hw' => by go_simp) HS ?_
      try simp only [List.setIfInBounds_toArray, List.set_cons_zero, List.set_cons_succ]
      refine takeD 2 [] (.pointer (some ⟨r, 0, none⟩)) rfl rfl (by kernel_rfl) (by kernel_rfl) (by kernel_rfl) (by kernel_rfl) (by decide) (by decide) (fun _ _ _ h => h) (by rfl) (fun w' hw' => by go_simp) HS ?_
      try simp only [List.setIfInBounds_toArray, List.set_cons_zero, List.set_cons_succ]
      refine takeD 3 [] (.pointer (some ⟨r, 5, none⟩)) rfl rfl (by kernel_rfl) (by kernel_rfl) (by kernel_rfl) (by kernel_rfl) (by decide) (by decide) (fun _ _ _ h => h) (by rfl) (fun w' hw' => by go_simp) HS ?_
      try simp only [List.setIfInBounds_toArray, List.set_cons_zero, List.set_cons_succ]
      refine takeD 4 [] (.slice al k cl) rfl rfl (by kernel_rfl) (by kernel_rfl) (by kernel_rfl) (by kernel_rfl) (by decide) (by decide) (fun _ _ _ h => h) (by rfl) (fun w' hw' => by obtain ⟨s1, s2, s3⟩ := hw'; go_simp) HS ?_
      try simp only [List.setIfInBounds_toArray, List.set_cons_zero, List.set_cons_succ]
      refine takeD 5 [] (.int .i64 (k : Int)) rfl rfl (by kernel_rfl) (by kernel_rfl) (by kernel_rfl) (by kernel_rfl) (by decide) (by decide) (fun _ _ _ h => h) (by rfl) (fun w' hw' => by go_simp) HS ?_
      try simp only [List.setIfInBounds_toArray, List.set_cons_zero, List.set_cons_succ]
      refine takeD 6 [] (.bool false) rfl rfl (by kernel_rfl) (by kernel_rfl) (by kernel_rfl) (by kernel_rfl) (by decide) (by decide) (fun _ _ _ h => h) (by rfl) (fun w' hw' => by go_simp) HS ?_
      try simp only [List.setIfInBounds_toArray, List.set_cons_zero, List.set_cons_succ]
      refine callVD 7 56 #[.agg #[.string T, .int .i64 (pl : Int)], .bool false, .int .i64 6] rfl rfl (by kernel_rfl) (by rfl) (by go_simp) (hf.out _) ?_
      rintro e w5 ⟨rfl, X5⟩
      refine Or.inr ⟨_, rfl, ?_⟩
      exact ⟨rfl, hF.out _ X5⟩
    · have hd : (k : Int) < 8 := by omega
      have hpf2 : Hid (Src.arrayF e wide s = match Src.valueF e s' with
        | .error x => .error x
        | .ok ((n, at_), s2) => if 0 < n ∧ (n : Int) + Src.sumA s2.A ≤ 65536 then .ok { s2 with arr := s2.arr ++ [tx], A := s2.A ++ [(wide, (n : Int))] } else .error (at_, 2)) := hidden (by rw [hpf'.out, if_neg hlt])
      refine wp_region_D (S := fun w' : World => w'.cell? ⟨r, 5, none⟩ = some (.slice al k cl) ∧ w'.cell? ⟨q3, 0, none⟩ = some (.string T) ∧ w'.cell? ⟨q3, 1, none⟩ = some (.int .i64 (pl : Int))) (D := []) (by kernel_rfl) ⟨e5, e0, e1⟩ (fun HS => ?_)
      refine takeD 0 [] (.agg #[.string T, .int .i64 (pl : Int)]) rfl rfl (by kernel_rfl) (by kernel_rfl) (by kernel_rfl) (by kernel_rfl) (by decide) (by decide) (fun _ _ _ h => h) (by rfl) (fun w' hw' => by obtain ⟨s1, s2, s3⟩ := hw'; go_simp) HS ?_
      try simp only [List.setIfInBounds_toArray, List.set_cons_zero, List.set_cons_succ]
      refine takeD 1 [] (.pointer (some ⟨r, 0, none⟩)) rfl rfl (by kernel_rfl) (by kernel_rfl) (by kernel_rfl) (by kernel_rfl) (by decide) (by decide) (fun _ _ _ h => h) (by rfl) (fun w' hw' => by go_simp) HS ?_
      try simp only [List.setIfInBounds_toArray, List.set_cons_zero, List.set_cons_succ]
      refine takeD 2 [] (.pointer (some ⟨r, 0, none⟩)) rfl rfl (by kernel_rfl) (by kernel_rfl) (by kernel_rfl) (by kernel_rfl) (by decide) (by decide) (fun _ _ _ h => h) (by rfl) (fun w' hw' => by go_simp) HS ?_
      try simp only [List.setIfInBounds_toArray, List.set_cons_zero, List.set_cons_succ]
      refine takeD 3 [] (.pointer (some ⟨r, 5, none⟩)) rfl rfl (by kernel_rfl) (by kernel_rfl) (by kernel_rfl) (by kernel_rfl) (by decide) (by decide) (fun _ _ _ h => h) (by rfl) (fun w' hw' => by go_simp) HS ?_
      try simp only [List.setIfInBounds_toArray, List.set_cons_zero, List.set_cons_succ]
      refine takeD 4 [] (.slice al k cl) rfl rfl (by kernel_rfl) (by kernel_rfl) (by kernel_rfl) (by kernel_rfl) (by decide) (by decide) (fun _ _ _ h => h) (by rfl) (fun w' hw' => by obtain ⟨s1, s2, s3⟩ := hw'; go_simp) HS ?_
      try simp only [List.setIfInBounds_toArray, List.set_cons_zero, List.set_cons_succ]
      refine takeD 5 [] (.int .i64 (k : Int)) rfl rfl (by kernel_rfl) (by kernel_rfl) (by kernel_rfl) (by kernel_rfl) (by decide) (by decide) (fun _ _ _ h => h) (by rfl) (fun w' hw' => by go_simp) HS ?_
      try simp only [List.setIfInBounds_toArray, List.set_cons_zero, List.set_cons_succ]
      refine takeD 6 [] (.bool true) rfl rfl (by kernel_rfl) (by kernel_rfl) (by kernel_rfl) (by kernel_rfl) (by decide) (by decide) (fun _ _ _ h => h) (by rfl) (fun w' hw' => by go_simp) HS ?_
      try simp only [List.setIfInBounds_toArray, List.set_cons_zero, List.set_cons_succ]
      refine callVD 7 56 #[.agg #[.string T, .int .i64 (pl : Int)], .bool true, .int .i64 6] rfl rfl (by kernel_rfl) (by rfl) (by go_simp) (ht.out _) ?_
      rintro e w5 ⟨rfl, X5⟩
      refine Or.inl ⟨_, rfl, fun _ => ⟨X5.cell HS.1, X5.cell HS.2.1, X5.cell HS.2.2⟩, ?_⟩
      try simp only [List.setIfInBounds_toArray, List.set_cons_zero, List.set_cons_succ]
      refine wpAnyD_done (by kernel_rfl) ?_ _
      show KK _ _
      refine hKK _ _ ?_
      have Y5 := (Ext.refl w3).drew.trans X5
      have hR5 : RMem w5 B r m e s' := ⟨_, _, _, _, _, hV.out.ext Y5⟩
      have HB5 := hidden (HB3.out.ext Y5)
      have hK5 := hidden (hK3.out.trans (KB.of_ext Y5 hV.out.BS))
      have hBS5 : B ≤ w5.heap.size := (hV.out.ext Y5).BS
      have hval := value_any B r m e s' w5 hR5 hws'.out (hE3.out.chg (Chg.of_ext [] Y5) (by simp))
      clear HS e0 e1 e5 X5 hKK KK Y5 hpf' hlt
      cases hvf : Src.valueF e s' with
      | error c =>
        rw [hvf] at hval
        unfold ValP at hval
        simp only [failW] at hval
        have hpf3 : Hid (Src.arrayF e wide s = .error c) := hidden (by rw [hpf2.out, hvf])
        have hF : Hid (∀ W, Chg [r] w5 W → RowP B r m e (Src.arrayF e wide s) w (failW (c.1 : Int) c.2) W) := hidden (by
          intro W hW
          rw [hpf3.out]
          exact ⟨rfl, hK5.out.trans (KB.of_chg hW hBS5 (fun x hx => by simp at hx; exact Or.inl hx))⟩)
        replace hval := hidden hval
        clear hvf hR5 hpf2 hpf3
        go_wp2_with fail
        refine (hval.out).mono ?_
        rintro x w6 ⟨rfl, hC6⟩
        go_wp2
        exact ⟨rfl, hF.out _ hC6⟩
      | ok b =>
        obtain ⟨⟨n, at5⟩, s2⟩ := b
        rw [hvf] at hval
        unfold ValP at hval
        simp only at hval
        obtain ⟨⟨r2, hr2⟩, hnb⟩ := Src.valueF_same hI'.out hvf
        simp only at hr2 hnb
        have hI2 : Src.RInv s2 := by rw [hr2]; exact hI'.out.ws r2
        have hk2 : s2.arr.length = k := by rw [hr2]; exact hk.out
        have hpf3 : Hid (Src.arrayF e wide s = if 0 < n ∧ (n : Int) + Src.sumA s2.A ≤ 65536 then .ok { s2 with arr := s2.arr ++ [tx], A := s2.A ++ [(wide, (n : Int))] } else .error (at5, 2)) := hidden (by rw [hpf2.out, hvf])
        replace hval := hidden hval
        clear hvf hR5 hpf2 hr2
        go_wp2_with fail
        refine (hval.out).mono ?_
        rintro x w6 ⟨⟨T5, rfl⟩, hR6, hC6⟩
        obtain ⟨w7, hw7⟩ : ∃ w7, w6.alloc (.cells #[.string T5, .int .i64 (at5 : Int)] 86) = w7 := ⟨_, rfl⟩
        obtain ⟨q6, hq6⟩ : ∃ q, w6.heap.size = q := ⟨_, rfl⟩
        have X7 : Ext w6 w7 := by rw [← hw7]; exact (Ext.refl w6).alloc _
        have HB7 : Hid (Blk w7 q6 86 [.string T5, .int .i64 (at5 : Int)]) := hidden (by rw [← hw7]; exact blk_newAt' w6 _ _ _ hq6)
        have HC7 : Hid (Blk w7 q3 86 [.string T, .int .i64 (pl : Int)]) := hidden ((HB5.out.chg hC6 (by simp; omega)).ext X7)
        obtain ⟨vw7, vA7, vC7, va7, vl7, hV6⟩ := hR6
        have hV7 := hV6.ext X7
        have hK7 := hidden ((hK5.out.trans (KB.of_chg hC6 hBS5 (fun x hx => by simp at hx; exact Or.inl hx))).trans (KB.of_ext X7 hV6.BS))
        have hoA := hV7.oA
        obtain ⟨aA, cA', hvA, -⟩ := own_shape hoA
        obtain ⟨al7, cl7, hva7, -⟩ := own_shape hV7.oa
        obtain ⟨nA, hnA⟩ : ∃ n, s2.A.length = n := ⟨_, rfl⟩
        rw [hnA] at hvA
        rw [hk2] at hva7
        subst hvA
        subst hva7
        have c2 := hV7.blk.cell 2 _ rfl
        have hRA := Rd.of_own hoA
        rw [hnA] at hRA
        have hA8 : nA ≤ 8 := by rw [← hnA]; exact hI2.a8
        have hsum := hI2.sm
        have hps := fun j => psA_bd hI2.a1 j
        have hat : Hid (∀ j, j < nA → ∃ x : Bool × Int, s2.A[j]? = some x) := hidden (fun j hj => ⟨_, List.getElem?_eq_getElem (by rw [hnA]; exact hj)⟩)
        obtain ⟨sm, hsm⟩ : ∃ y, Src.sumA s2.A = y := ⟨_, rfl⟩
        rw [hsm] at hsum hpf3
        simp only [hsm] at hps
        have hall : Hid (psA s2.A nA = sm) := hidden (by rw [← hnA, psA_all, hsm])
        replace hV7 := hidden hV7
        replace hRA := hidden hRA
        replace hps := hidden hps
        replace hnA := hidden hnA
        replace hk2 := hidden hk2
        clear hV6 hC6 X7 hoA hI2 hsm HB5 hK5 hval
        go_wp2_with fail
        go_loopw [7, 32] (fun c i wr => ∃ j : Nat, j ≤ nA ∧ i = .int .i64 (j : Int) ∧ (∃ y : Int, c = .int .i64 ((n : Int) + y) ∧ 0 ≤ y ∧ y ≤ 65536 ∧ Hid (psA s2.A j = y)) ∧ Hid (Ext w7 wr)) (fun _ i _ => nA - (intOf i).toNat)
        case atStart => exact ⟨0, by omega, rfl, ⟨0, by simp, by omega, by omega, rfl⟩, Ext.refl _⟩
        case round =>
          obtain ⟨j, hj, rfl, ⟨y, rfl, y0, y1, hy⟩, hX⟩ := hrel
          by_cases hlt : j < nA
          · obtain ⟨x, hx⟩ := hat.out j hlt
            obtain ⟨b, off, rfl, -, -⟩ := hRA.out.cells (by omega)
            obtain ⟨x0, x1⟩ := rd2_at cA_len hRA.out j x hx _ _ rfl
            obtain ⟨wd, sz⟩ := x
            simp only at x0 x1
            have d0 := hX.out.cell x0
            have d1 := hX.out.cell x1
            have hnx : psA s2.A (j + 1) = y + sz := by rw [psA_succ hx, hy.out]
            obtain ⟨p0, p1⟩ := hps.out (j + 1)
            rw [hnx] at p0 p1
            have v1 : IntKind.i64.wrap ((n : Int) + y + sz) = (n : Int) + (y + sz) := by rw [IntWalk.i64_in _ (by omega)]; omega
            have v2 : IntKind.i64.wrap ((j : Int) + 1) = (j : Int) + 1 := IntWalk.i64_in _ (by omega)
            have hlt2 : (j : Int) < (nA : Int) := by omega
            replace hnx := hidden hnx
            replace hx := hidden hx
            clear x0 x1
            go_wp2_with fail
            go_roundw
            case rel => exact ⟨j + 1, by omega, by rfl, ⟨y + sz, by rfl, p0, by omega, hnx⟩, hX.out.alloc _⟩
            case measure => show nA - (j + 1) < nA - j; omega
          · obtain rfl : j = nA := by omega
            have hge : ¬ (j : Int) < (j : Int) := by omega
            have hys : y = sm := by rw [← hy.out, hall.out]
            subst hys
            have Xr := hX.out
            have HBr := HB7.out.ext Xr
            have u0 := HBr.cell 0 _ rfl
            have u1 := HBr.cell 1 _ rfl
            have f5 := demand_false T5 (at5 : Int) 2
            simp only [failW] at f5
            have t5 := demand_true T5 (at5 : Int) 2
            replace f5 := hidden f5
            replace t5 := hidden t5
            clear HBr Xr
            by_cases hn0 : 0 < n
            · have hn0' : (0 : Int) < (n : Int) := by omega
              by_cases hle : (n : Int) + y ≤ 65536
              · have hpf4 : Hid (Src.arrayF e wide s = .ok { s2 with arr := s2.arr ++ [tx], A := s2.A ++ [(wide, (n : Int))] }) := hidden (by rw [hpf3.out, if_pos ⟨hn0, hle⟩])
                clear hpf3
                go_wp2_with fail
                refine (t5.out _).mono ?_
                rintro x w8 ⟨rfl, X8⟩
                have Z8 := hX.out.trans X8
                have hV5 := hV7.out.ext Z8
                have HB8 := HC7.out.ext Z8
                have g5 := hV5.blk.cell 5 _ rfl
                have g0 := HB8.cell 0 _ rfl
                have hol := hV5.oa
                rw [hk2.out] at hol
                have hq3v : (Value.slice al7 k cl7).ownBlock ≠ some q3 := own_ne_blk hol HB8 (by decide)
                have hK8 := hidden (hK7.out.trans (KB.of_ext Z8 hV7.out.BS))
                have hk := hk2
                clear u0 u1 X8 Z8 hk2
                go_wp2_with fail
                rename_i KK hKK
                refine wp_region_D (S := fun w' : World => w'.cell? ⟨r, 5, none⟩ = some (.slice al7 k cl7) ∧ w'.cell? ⟨q3, 0, none⟩ = some (.string T)) (D := [11]) (by kernel_rfl) ⟨g5, g0⟩ (fun HS => ?_)
                refine takeD 0 [11] (.pointer (some ⟨r, 0, none⟩)) rfl rfl (by kernel_rfl) (by kernel_rfl) (by kernel_rfl) (by kernel_rfl) (by decide) (by decide) (fun _ _ _ h => h) (by rfl) (fun w' hw' => by go_simp) HS ?_
                try simp only [List.setIfInBounds_toArray, List.set_cons_zero, List.set_cons_succ]
                refine takeD 1 [11] (.pointer (some ⟨r, 0, none⟩)) rfl rfl (by kernel_rfl) (by kernel_rfl) (by kernel_rfl) (by kernel_rfl) (by decide) (by decide) (fun _ _ _ h => h) (by rfl) (fun w' hw' => by go_simp) HS ?_
                try simp only [List.setIfInBounds_toArray, List.set_cons_zero, List.set_cons_succ]
                refine takeD 2 [11] (.pointer (some ⟨r, 0, none⟩)) rfl rfl (by kernel_rfl) (by kernel_rfl) (by kernel_rfl) (by kernel_rfl) (by decide) (by decide) (fun _ _ _ h => h) (by rfl) (fun w' hw' => by go_simp) HS ?_
                try simp only [List.setIfInBounds_toArray, List.set_cons_zero, List.set_cons_succ]
                refine takeD 3 [11] (.pointer (some ⟨r, 5, none⟩)) rfl rfl (by kernel_rfl) (by kernel_rfl) (by kernel_rfl) (by kernel_rfl) (by decide) (by decide) (fun _ _ _ h => h) (by rfl) (fun w' hw' => by go_simp) HS ?_
                try simp only [List.setIfInBounds_toArray, List.set_cons_zero, List.set_cons_succ]
                refine takeD 4 [11] (.slice al7 k cl7) rfl rfl (by kernel_rfl) (by kernel_rfl) (by kernel_rfl) (by kernel_rfl) (by decide) (by decide) (fun _ _ _ h => h) (by rfl) (fun w' hw' => by obtain ⟨s1, s2⟩ := hw'; go_simp) HS ?_
                try simp only [List.setIfInBounds_toArray, List.set_cons_zero, List.set_cons_succ]
                refine takeD 5 [11] (.pointer (some ⟨q3, 0, none⟩)) rfl rfl (by kernel_rfl) (by kernel_rfl) (by kernel_rfl) (by kernel_rfl) (by decide) (by decide) (fun _ _ _ h => h) (by rfl) (fun w' hw' => by go_simp) HS ?_
                try simp only [List.setIfInBounds_toArray, List.set_cons_zero, List.set_cons_succ]
                refine takeD 6 [11] (.string T) rfl rfl (by kernel_rfl) (by kernel_rfl) (by kernel_rfl) (by kernel_rfl) (by decide) (by decide) (fun _ _ _ h => h) (by rfl) (fun w' hw' => by obtain ⟨s1, s2⟩ := hw'; go_simp) HS ?_
                try simp only [List.setIfInBounds_toArray, List.set_cons_zero, List.set_cons_succ]
                have XA := (Ext.refl w8.drew).alloc (.cells #[.string T] 9)
                have HS2 : (fun w' : World => w'.cell? ⟨r, 5, none⟩ = some (.slice al7 k cl7) ∧ w'.cell? ⟨q3, 0, none⟩ = some (.string T)) (w8.drew.alloc (.cells #[.string T] 9)) := ⟨XA.cell HS.1, XA.cell HS.2⟩
                refine valueD 7 (.slice (some ⟨w8.drew.heap.size, 0, none⟩) 1 1) rfl rfl (by kernel_rfl) (by rfl) (w' := w8.drew.alloc (.cells #[.string T] 9)) (by go_simp) (fun _ => HS2) ?_
                try simp only [List.setIfInBounds_toArray, List.set_cons_zero, List.set_cons_succ]
                have hRb : Rd (w8.drew.alloc (.cells #[.string T] 9)) 1 (.slice (some ⟨w8.drew.heap.size, 0, none⟩) 1 1) 1 [.string T] := rd_of_blkS (Blk.new w8.drew [.string T] 9) rfl (by decide)
                refine appendD 8 rfl rfl rfl (by kernel_rfl) _ _ 31 (by rfl) B 9 i0 (.string ⟨#[]⟩) 1 16 Tryz.underlying31 ii iz0 iz1 iz2 rfl (by decide) (.slice al7 k cl7) k (s2.arr.map sv) (by rfl) (World.ownsRow.alloc (own_ext (hol) (Ext.refl w8).drew) _) (some ⟨w8.drew.heap.size, 0, none⟩) 1 1 [.string T] (by rfl) hRb (by simp [Value.oneCell']) (by unfold maxLen; omega) (by omega) (by have := XA.size; have : B ≤ w8.drew.heap.size := hV5.BS; omega) (by omega) ?_
                intro v3 w6 hown3 hgrow3 hb3
                obtain ⟨hb6, hV6, hK6⟩ := (hV5.ext (Ext.refl w8).drew).growa hown3 hgrow3 hb3 tx (by rw [hk.out]) (by rw [← hT]; rfl)
                obtain ⟨a33, c33, hv33, -⟩ := own_shape hown3
                have c6 := hb6.cell 5 _ rfl
                have f6 := hb6.frozen 5
                have HS3 : (fun w' : World => w'.cell? ⟨r, 5, none⟩ = some (.slice al7 k cl7) ∧ w'.cell? ⟨q3, 0, none⟩ = some (.string T)) w6 := ⟨c6, (((grow_chg hgrow3)).cell (by simp; exact fun e => hq3v e) HS.2)⟩
                refine ⟨fun _ => HS3, ?_⟩
                try simp only [List.setIfInBounds_toArray, List.set_cons_zero, List.set_cons_succ]
                refine takeD 9 [10, 11] (.pointer (some ⟨r, 0, none⟩)) rfl rfl (by kernel_rfl) (by kernel_rfl) (by kernel_rfl) (by kernel_rfl) (by decide) (by decide) (fun _ _ _ h => h) (by rfl) (fun w' hw' => by go_simp) HS3 ?_
                try simp only [List.setIfInBounds_toArray, List.set_cons_zero, List.set_cons_succ]
                refine takeD 10 [11] (.pointer (some ⟨r, 5, none⟩)) rfl rfl (by kernel_rfl) (by kernel_rfl) (by kernel_rfl) (by kernel_rfl) (by decide) (by decide) (fun _ _ _ h => h) (by rfl) (fun w' hw' => by go_simp) HS3 ?_
                try simp only [List.setIfInBounds_toArray, List.set_cons_zero, List.set_cons_succ]
                refine storeD 11 rfl rfl (by kernel_rfl) (by rfl) (w' := w6.setCell ⟨r, 5, none⟩ v3) (by go_simp) (fun h => absurd (by simp) h) ?_
                try simp only [List.setIfInBounds_toArray, List.set_cons_zero, List.set_cons_succ]
                refine wpAnyD_done (by kernel_rfl) ?_ _
                show KK _ _
                refine hKK _ _ ?_
                have hK9 := hidden (((hK8.out.trans (KB.of_ext (Ext.refl w8).drew hV5.BS)).trans hK6).setR 5 v3)
                obtain ⟨W9, hW9⟩ : ∃ W, w6.setCell ⟨r, 5, none⟩ v3 = W := ⟨_, rfl⟩
                rw [hW9] at hV6 hK9 ⊢
                have c9 := hV6.blk.cell 2 _ rfl
                have hoA9 := hV6.oA
                rw [hnA.out] at hoA9
                have hBS9 := hV6.BS
                have hV9 := hidden hV6
                clear HS HS2 HS3 hW9 hb6 hV6 hK6 c6 f6 g5 g0 hKK KK hown3 hgrow3 hb3 hRb XA hv33 hol hV5 HB8 hV7 hRA c2
                go_wp2_with (at_builtin; refine wpList_append_own_at _ rfl _ _ 22 rfl B 63 iA (.agg #[.bool false, .int .i64 0]) 2 16 Tryz.underlying22 aii az0 az1 az2 rfl (by decide) (.slice aA j cA') j (s2.A.flatMap cA) rfl (World.ownsRow.alloc hoA9 _) ⟨W9.heap.size, 0, none⟩ 1 1 [.bool wide, .int .i64 (n : Int)] rfl rfl (World.news_of_block (cs := #[.bool wide, .int .i64 (n : Int)]) (t := 63) (fr := (0, 0)) (heap_alloc_new W9 _)) (by simp [Value.oneCell']) (by unfold maxLen; omega) (by omega) (by simp; omega) ?_; intro v9 w10 hown9 hgrow9 _ hb9; obtain ⟨a99, c99, rfl, -⟩ := own_shape hown9; obtain ⟨hb10, hV10, hK10⟩ := hV9.out.growA hown9 hgrow9 (wide, (n : Int)) (by rw [← hnA.out]) rfl; have c10 := hb10.cell 2 _ rfl; have f10 := hb10.frozen 2)
                go_end0
                unfold RowP
                rw [hpf4.out]
                exact ⟨rfl, ⟨_, _, _, _, _, hV10⟩, (hK9.out.trans hK10).setR 2 _⟩
              · have hpf4 : Hid (Src.arrayF e wide s = .error (at5, 2)) := hidden (by rw [hpf3.out, if_neg (fun h => hle h.2)])
                clear hpf3
                go_wp2_with fail
                refine (f5.out _).mono ?_
                rintro x w8 ⟨rfl, X8⟩
                go_wp2
                refine ⟨rfl, ?_⟩
                unfold RowP
                rw [hpf4.out]
                exact ⟨rfl, hK7.out.trans (KB.of_ext (hX.out.trans X8) hV7.out.BS)⟩
            · have hn0' : ¬ (0 : Int) < (n : Int) := by omega
              have hpf4 : Hid (Src.arrayF e wide s = .error (at5, 2)) := hidden (by rw [hpf3.out, if_neg (fun h => hn0 h.1)])
              clear hpf3
              go_wp2_with fail
              refine (f5.out _).mono ?_
              rintro x w8 ⟨rfl, X8⟩
              go_wp2
              refine ⟨rfl, ?_⟩
              unfold RowP
              rw [hpf4.out]
              exact ⟨rfl, hK7.out.trans (KB.of_ext (hX.out.trans X8) hV7.out.BS)⟩
end Go.Proofs.YthjnchjfmbblfaaGreatDoor
