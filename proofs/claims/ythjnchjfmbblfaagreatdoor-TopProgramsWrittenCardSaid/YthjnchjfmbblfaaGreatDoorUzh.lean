/- local, constant. -/
import Derived.Test.YthjnchjfmbblfaaGreatDoorUzl
namespace Go.Proofs.YthjnchjfmbblfaaGreatDoor
open Go.RowKit Go.ChangeMaps Go.MapKept
set_option linter.unusedVariables false
set_option linter.unusedSimpArgs false
attribute [local go_sem ↓] Go.wp_at_zero Go.wp_at_succ

theorem str_info : (Tryz.prog.info? 9).map (fun i => (i.zero, i.size, i.bytes)) = some (some (.string ⟨#[]⟩), 1, 16) := by kernel_rfl
set_option maxHeartbeats 16000000 in
set_option maxRecDepth 100000 in
theorem local_any (B r m e : Nat) (s : Src.RS) (w : World) (hR : RMem w B r m e s) (hb : ∀ x ∈ s.ws, x.1.length ≤ 8192) (h8 : s.arr.length ≤ 1000000) (h16 : s.loc.length ≤ 1000000) :
    Calls Tryz.prog 53 #[.pointer (some ⟨r, 0, none⟩)] w (RowP B r m e (Src.localF e s) w) := by
  have hfr := fresh_any B r m e s w hR hb h8 h16
  have hBS : Hid (B ≤ w.heap.size) := hidden (by obtain ⟨_, _, _, _, _, h⟩ := hR; exact h.BS)
  have hb' := hidden hb
  cases hnf : Src.freshF e s with
  | error c =>
    rw [hnf] at hfr
    unfold StepP at hfr
    simp only [failW] at hfr
    have hpf : Src.localF e s = .error c := by unfold Src.localF; rw [hnf]
    rw [hpf]
    replace hfr := hidden hfr
    go_enter Tryz.func53, Tryz.ntmps53
    go_wp2_with fail
    refine (hfr.out).mono ?_
    rintro x w2 ⟨rfl, hC2⟩
    have hK := KB.of_chg (m := m) hC2 hBS.out (fun x hx => by simp at hx; exact Or.inl hx)
    go_wp2
    exact ⟨rfl, rfl, hK⟩
  | ok a =>
    obtain ⟨⟨tx, pl⟩, s'⟩ := a
    have hsame := Src.freshF_same hnf
    obtain ⟨rr, hrr⟩ := hsame
    simp only at hrr
    rw [hnf] at hfr
    unfold StepP at hfr
    obtain ⟨T, hT⟩ : ∃ T : ByteArray, ba tx = T := ⟨_, rfl⟩
    have hv : vW (tx, pl) = .agg #[.string T, .int .i64 (pl : Int)] := by rw [← hT]; rfl
    simp only [hv] at hfr
    have hpf : Hid (Src.localF e s = if 16 ≤ s'.loc.length then .error (pl, 6) else .ok { s' with loc := s'.loc ++ [tx] }) := hidden (by unfold Src.localF; rw [hnf])
    have hf := demand_false T (pl : Int) 6
    simp only [failW] at hf
    have ht := demand_true T (pl : Int) 6
    replace hfr := hidden hfr
    replace hf := hidden hf
    replace ht := hidden ht
    replace hT := hidden hT
    obtain ⟨i0, ii, iz0, iz1, iz2⟩ := info_parts str_info
    clear hR hb hnf hv hrr h8 h16
    go_enter Tryz.func53, Tryz.ntmps53
    go_wp2_with fail
    refine (hfr.out).mono ?_
    rintro x w2 ⟨rfl, hR2, hC2⟩
    have hK2 := hidden (KB.of_chg (m := m) hC2 hBS.out (fun x hx => by simp at hx; exact Or.inl hx))
    obtain ⟨w3, hw3⟩ : ∃ w3, w2.alloc (.cells #[.string T, .int .i64 (pl : Int)] 86) = w3 := ⟨_, rfl⟩
    obtain ⟨q3, hq3⟩ : ∃ q, w2.heap.size = q := ⟨_, rfl⟩
    have X3 : Ext w2 w3 := by rw [← hw3]; exact (Ext.refl w2).alloc _
    have HB3 : Blk w3 q3 86 [.string T, .int .i64 (pl : Int)] := by rw [← hw3]; exact blk_newAt' w2 _ _ _ hq3
    obtain ⟨vw, vA, vC, va, vl, hV2⟩ := hR2
    have hV := hV2.ext X3
    obtain ⟨al, cl, hvl, -⟩ := own_shape hV.ol
    obtain ⟨k, hk⟩ : ∃ k, s'.loc.length = k := ⟨_, rfl⟩
    rw [hk] at hvl
    subst hvl
    have e0 := HB3.cell 0 _ rfl
    have e1 := HB3.cell 1 _ rfl
    have e5 := hV.blk.cell 6 _ rfl
    have hq3v : (Value.slice al k cl).ownBlock ≠ some q3 := fun h => by have := (own_lt hV2.ol h).2; omega
    have hBS2 := hV2.BS
    have hK3 := hidden (hK2.out.trans (KB.of_ext X3 hBS2))
    have hpf' := hpf.out
    rw [hk] at hpf'
    replace hpf' := hidden hpf'
    replace hV := hidden hV
    replace hk := hidden hk
    replace HB3 := hidden HB3
    clear hV2 hC2 hBS2 X3 hpf
    go_wp2_with fail
    rename_i KK hKK
    by_cases hlt : 16 ≤ k
    · have hd : ¬ (k : Int) < 16 := by omega
      have hF : Hid (∀ W, Ext w3.drew W → RowP B r m e (Src.localF e s) w (failW (pl : Int) 6) W) := hidden (by
        intro W hW
        rw [hpf'.out, if_pos hlt]
        exact ⟨rfl, hK3.out.trans (KB.of_ext ((Ext.refl w3).drew.trans hW) hV.out.BS)⟩)
      refine wp_region_D (S := fun w' : World => w'.cell? ⟨r, 6, none⟩ = some (.slice al k cl) ∧ w'.cell? ⟨q3, 0, none⟩ = some (.string T) ∧ w'.cell? ⟨q3, 1, none⟩ = some (.int .i64 (pl : Int))) (D := []) (by kernel_rfl) ⟨e5, e0, e1⟩ (fun HS => ?_)
      refine takeD 0 [] (.agg #[.string T, .int .i64 (pl : Int)]) rfl rfl (by kernel_rfl) (by kernel_rfl) (by kernel_rfl) (by kernel_rfl) (by decide) (by decide) (fun _ _ _ h => h) (by rfl) (fun w' hw' => by obtain ⟨s1, s2, s3⟩ := hw'; go_simp) HS ?_
      try simp only [List.setIfInBounds_toArray, List.set_cons_zero, List.set_cons_succ]
      refine takeD 1 [] (.pointer (some ⟨r, 0, none⟩)) rfl rfl (by kernel_rfl) (by kernel_rfl) (by kernel_rfl) (by kernel_rfl) (by decide) (by decide) (fun _ _ _ h => h) (by rfl) (fun w' hw' => by go_simp) HS ?_
      try simp only [List.setIfInBounds_toArray, List.set_cons_zero, List.set_cons_succ]
      refine takeD 2 [] (.pointer (some ⟨r, 0, none⟩)) rfl rfl (by kernel_rfl) (by kernel_rfl) (by kernel_rfl) (by kernel_rfl) (by decide) (by decide) (fun _ _ _ h => h) (by rfl) (fun w' hw' => by go_simp) HS ?_
      try simp only [List.setIfInBounds_toArray, List.set_cons_zero, List.set_cons_succ]
      refine takeD 3 [] (.pointer (some ⟨r, 6, none⟩)) rfl rfl (by kernel_rfl) (by kernel_rfl) (by kernel_rfl) (by kernel_rfl) (by decide) (by decide) (fun _ _ _ h => h) (by rfl) (fun w' hw' => by go_simp) HS ?_
      try simp only [List.setIfInBounds_toArray, List.set_cons_zero, List.set_cons_succ]
      refine takeD 4 [] (.slice al k cl) rfl rfl (by kernel_rfl) (by kernel_rfl) (by kernel_rfl) (by kernel_rfl) (by decide) (by decide) (fun _ _ _ h => h) (by rfl) (fun w' hw' => by obtain ⟨s1, s2, s3⟩ := hw'; go_simp) HS ?_
      try simp only [List.setIfInBounds_toArray, List.set_cons_zero, List.set_cons_succ]
      refine takeD 5 [] (.int .i64 (k : Int)) rfl rfl (by kernel_rfl) (by kernel_rfl) (by kernel_rfl) (by kernel_rfl) (by decide) (by decide) (fun _ _ _ h => h) (by rfl) (fun w' hw' => by go_simp) HS ?_
      try simp only [List.setIfInBounds_toArray, List.set_cons_zero, List.set_cons_succ]
      refine takeD 6 [] (.bool false) rfl rfl (by kernel_rfl) (by kernel_rfl) (by kernel_rfl) (by kernel_rfl) (by decide) (by decide) (fun _ _ _ h => h) (by rfl) (fun w' hw' => by go_simp) HS ?_
      try simp only [List.setIfInBounds_toArray, List.set_cons_zero, List.set_cons_succ]
      refine callVD 7 56 #[.agg #[.string T, .int .i64 (pl : Int)], .bool false, .int .i64 6] rfl rfl (by kernel_rfl) (by rfl) (by go_simp) (hf.out _) ?_
      rintro e w5 ⟨rfl, X5⟩
      refine Or.inr ⟨_, rfl, ?_⟩
      exact ⟨rfl, hF.out _ X5⟩
    · have hd : (k : Int) < 16 := by omega
      have hpf2 : Hid (Src.localF e s = .ok { s' with loc := s'.loc ++ [tx] }) := hidden (by rw [hpf'.out, if_neg hlt])
      refine wp_region_D (S := fun w' : World => w'.cell? ⟨r, 6, none⟩ = some (.slice al k cl) ∧ w'.cell? ⟨q3, 0, none⟩ = some (.string T) ∧ w'.cell? ⟨q3, 1, none⟩ = some (.int .i64 (pl : Int))) (D := []) (by kernel_rfl) ⟨e5, e0, e1⟩ (fun HS => ?_)
      refine takeD 0 [] (.agg #[.string T, .int .i64 (pl : Int)]) rfl rfl (by kernel_rfl) (by kernel_rfl) (by kernel_rfl) (by kernel_rfl) (by decide) (by decide) (fun _ _ _ h => h) (by rfl) (fun w' hw' => by obtain ⟨s1, s2, s3⟩ := hw'; go_simp) HS ?_
      try simp only [List.setIfInBounds_toArray, List.set_cons_zero, List.set_cons_succ]
      refine takeD 1 [] (.pointer (some ⟨r, 0, none⟩)) rfl rfl (by kernel_rfl) (by kernel_rfl) (by kernel_rfl) (by kernel_rfl) (by decide) (by decide) (fun _ _ _ h => h) (by rfl) (fun w' hw' => by go_simp) HS ?_
      try simp only [List.setIfInBounds_toArray, List.set_cons_zero, List.set_cons_succ]
      refine takeD 2 [] (.pointer (some ⟨r, 0, none⟩)) rfl rfl (by kernel_rfl) (by kernel_rfl) (by kernel_rfl) (by kernel_rfl) (by decide) (by decide) (fun _ _ _ h => h) (by rfl) (fun w' hw' => by go_simp) HS ?_
      try simp only [List.setIfInBounds_toArray, List.set_cons_zero, List.set_cons_succ]
      refine takeD 3 [] (.pointer (some ⟨r, 6, none⟩)) rfl rfl (by kernel_rfl) (by kernel_rfl) (by kernel_rfl) (by kernel_rfl) (by decide) (by decide) (fun _ _ _ h => h) (by rfl) (fun w' hw' => by go_simp) HS ?_
      try simp only [List.setIfInBounds_toArray, List.set_cons_zero, List.set_cons_succ]
      refine takeD 4 [] (.slice al k cl) rfl rfl (by kernel_rfl) (by kernel_rfl) (by kernel_rfl) (by kernel_rfl) (by decide) (by decide) (fun _ _ _ h => h) (by rfl) (fun w' hw' => by obtain ⟨s1, s2, s3⟩ := hw'; go_simp) HS ?_
      try simp only [List.setIfInBounds_toArray, List.set_cons_zero, List.set_cons_succ]
      refine takeD 5 [] (.int .i64 (k : Int)) rfl rfl (by kernel_rfl) (by kernel_rfl) (by kernel_rfl) (by kernel_rfl) (by decide) (by decide) (fun _ _ _ h => h) (by rfl) (fun w' hw' => by go_simp) HS ?_
      try simp only [List.setIfInBounds_toArray, List.set_cons_zero, List.set_cons_succ]
      refine takeD 6 [] (.bool true) rfl rfl (by kernel_rfl) (by kernel_rfl) (by kernel_rfl) (by kernel_rfl) (by decide) (by decide) (fun _ _ _ h => h) (by rfl) (fun w' hw' => by go_simp) HS ?_
      try simp only [List.setIfInBounds_toArray, List.set_cons_zero, List.set_cons_succ]
      refine callVD 7 56 #[.agg #[.string T, .int .i64 (pl : Int)], .bool true, .int .i64 6] rfl rfl (by kernel_rfl) (by rfl) (by go_simp) (ht.out _) ?_
      rintro e w5 ⟨rfl, X5⟩
      refine Or.inl ⟨_, rfl, fun _ => ⟨X5.cell HS.1, X5.cell HS.2.1, X5.cell HS.2.2⟩, ?_⟩
      try simp only [List.setIfInBounds_toArray, List.set_cons_zero, List.set_cons_succ]
      refine wpAnyD_done (by kernel_rfl) ?_ _
      show KK _ _
      refine hKK _ _ ?_
      have hV5 := hV.out.ext ((Ext.refl w3).drew.trans X5)
      have HB5 := HB3.out.ext ((Ext.refl w3).drew.trans X5)
      have hK5 := hidden (hK3.out.trans (KB.of_ext ((Ext.refl w3).drew.trans X5) hV.out.BS))
      have g5 := hV5.blk.cell 6 _ rfl
      have g0 := HB5.cell 0 _ rfl
      have hol := hV5.ol
      rw [hk.out] at hol
      clear HS e0 e1 e5 X5 hKK KK
      go_wp2_with fail
      rename_i KK hKK
      refine wp_region_D (S := fun w' : World => w'.cell? ⟨r, 6, none⟩ = some (.slice al k cl) ∧ w'.cell? ⟨q3, 0, none⟩ = some (.string T)) (D := [11]) (by kernel_rfl) ⟨g5, g0⟩ (fun HS => ?_)
      refine takeD 0 [11] (.pointer (some ⟨r, 0, none⟩)) rfl rfl (by kernel_rfl) (by kernel_rfl) (by kernel_rfl) (by kernel_rfl) (by decide) (by decide) (fun _ _ _ h => h) (by rfl) (fun w' hw' => by go_simp) HS ?_
      try simp only [List.setIfInBounds_toArray, List.set_cons_zero, List.set_cons_succ]
      refine takeD 1 [11] (.pointer (some ⟨r, 0, none⟩)) rfl rfl (by kernel_rfl) (by kernel_rfl) (by kernel_rfl) (by kernel_rfl) (by decide) (by decide) (fun _ _ _ h => h) (by rfl) (fun w' hw' => by go_simp) HS ?_
      try simp only [List.setIfInBounds_toArray, List.set_cons_zero, List.set_cons_succ]
      refine takeD 2 [11] (.pointer (some ⟨r, 0, none⟩)) rfl rfl (by kernel_rfl) (by kernel_rfl) (by kernel_rfl) (by kernel_rfl) (by decide) (by decide) (fun _ _ _ h => h) (by rfl) (fun w' hw' => by go_simp) HS ?_
      try simp only [List.setIfInBounds_toArray, List.set_cons_zero, List.set_cons_succ]
      refine takeD 3 [11] (.pointer (some ⟨r, 6, none⟩)) rfl rfl (by kernel_rfl) (by kernel_rfl) (by kernel_rfl) (by kernel_rfl) (by decide) (by decide) (fun _ _ _ h => h) (by rfl) (fun w' hw' => by go_simp) HS ?_
      try simp only [List.setIfInBounds_toArray, List.set_cons_zero, List.set_cons_succ]
      refine takeD 4 [11] (.slice al k cl) rfl rfl (by kernel_rfl) (by kernel_rfl) (by kernel_rfl) (by kernel_rfl) (by decide) (by decide) (fun _ _ _ h => h) (by rfl) (fun w' hw' => by obtain ⟨s1, s2⟩ := hw'; go_simp) HS ?_
      try simp only [List.setIfInBounds_toArray, List.set_cons_zero, List.set_cons_succ]
      refine takeD 5 [11] (.pointer (some ⟨q3, 0, none⟩)) rfl rfl (by kernel_rfl) (by kernel_rfl) (by kernel_rfl) (by kernel_rfl) (by decide) (by decide) (fun _ _ _ h => h) (by rfl) (fun w' hw' => by go_simp) HS ?_
      try simp only [List.setIfInBounds_toArray, List.set_cons_zero, List.set_cons_succ]
      refine takeD 6 [11] (.string T) rfl rfl (by kernel_rfl) (by kernel_rfl) (by kernel_rfl) (by kernel_rfl) (by decide) (by decide) (fun _ _ _ h => h) (by rfl) (fun w' hw' => by obtain ⟨s1, s2⟩ := hw'; go_simp) HS ?_
      try simp only [List.setIfInBounds_toArray, List.set_cons_zero, List.set_cons_succ]
      have XA := (Ext.refl w5.drew).alloc (.cells #[.string T] 9)
      have HS2 : (fun w' : World => w'.cell? ⟨r, 6, none⟩ = some (.slice al k cl) ∧ w'.cell? ⟨q3, 0, none⟩ = some (.string T)) (w5.drew.alloc (.cells #[.string T] 9)) := ⟨XA.cell HS.1, XA.cell HS.2⟩
      refine valueD 7 (.slice (some ⟨w5.drew.heap.size, 0, none⟩) 1 1) rfl rfl (by kernel_rfl) (by rfl) (w' := w5.drew.alloc (.cells #[.string T] 9)) (by go_simp) (fun _ => HS2) ?_
      try simp only [List.setIfInBounds_toArray, List.set_cons_zero, List.set_cons_succ]
      have hRb : Rd (w5.drew.alloc (.cells #[.string T] 9)) 1 (.slice (some ⟨w5.drew.heap.size, 0, none⟩) 1 1) 1 [.string T] := rd_of_blkS (Blk.new w5.drew [.string T] 9) rfl (by decide)
      refine appendD 8 rfl rfl rfl (by kernel_rfl) _ _ 31 (by rfl) B 9 i0 (.string ⟨#[]⟩) 1 16 Tryz.underlying31 ii iz0 iz1 iz2 rfl (by decide) (.slice al k cl) k (s'.loc.map sv) (by rfl) (World.ownsRow.alloc (own_ext (hol) (Ext.refl w5).drew) _) (some ⟨w5.drew.heap.size, 0, none⟩) 1 1 [.string T] (by rfl) hRb (by simp [Value.oneCell']) (by unfold maxLen; omega) (by omega) (by have := XA.size; have : B ≤ w5.drew.heap.size := hV5.BS; omega) (by omega) ?_
      intro v3 w6 hown3 hgrow3 hb3
      obtain ⟨hb6, hV6, hK6⟩ := (hV5.ext (Ext.refl w5).drew).growl hown3 hgrow3 hb3 tx (by rw [hk.out]) (by rw [← hT]; rfl)
      obtain ⟨a33, c33, hv33, -⟩ := own_shape hown3
      have c6 := hb6.cell 6 _ rfl
      have f6 := hb6.frozen 6
      have HS3 : (fun w' : World => w'.cell? ⟨r, 6, none⟩ = some (.slice al k cl) ∧ w'.cell? ⟨q3, 0, none⟩ = some (.string T)) w6 := ⟨c6, (((grow_chg hgrow3)).cell (by simp; exact fun e => hq3v e) HS.2)⟩
      refine ⟨fun _ => HS3, ?_⟩
      try simp only [List.setIfInBounds_toArray, List.set_cons_zero, List.set_cons_succ]
      refine takeD 9 [10, 11] (.pointer (some ⟨r, 0, none⟩)) rfl rfl (by kernel_rfl) (by kernel_rfl) (by kernel_rfl) (by kernel_rfl) (by decide) (by decide) (fun _ _ _ h => h) (by rfl) (fun w' hw' => by go_simp) HS3 ?_
      try simp only [List.setIfInBounds_toArray, List.set_cons_zero, List.set_cons_succ]
      refine takeD 10 [11] (.pointer (some ⟨r, 6, none⟩)) rfl rfl (by kernel_rfl) (by kernel_rfl) (by kernel_rfl) (by kernel_rfl) (by decide) (by decide) (fun _ _ _ h => h) (by rfl) (fun w' hw' => by go_simp) HS3 ?_
      try simp only [List.setIfInBounds_toArray, List.set_cons_zero, List.set_cons_succ]
      refine storeD 11 rfl rfl (by kernel_rfl) (by rfl) (w' := w6.setCell ⟨r, 6, none⟩ v3) (by go_simp) (fun h => absurd (by simp) h) ?_
      try simp only [List.setIfInBounds_toArray, List.set_cons_zero, List.set_cons_succ]
      refine wpAnyD_done (by kernel_rfl) ?_ _
      show KK _ _
      refine hKK _ _ ?_
      have hb7 := hb6.set 6 v3
      have z3 := hb7.cell 3 _ rfl
      have y3 := hb7.frozen 3
      rw [hk.out] at z3
      have hwr : IntKind.i64.wrap ((k : Int) + 1) = (k : Int) + 1 := IntWalk.i64_in _ (by omega)
      have hM : Hid (RMem ((w6.setCell ⟨r, 6, none⟩ v3).setCell ⟨r, 3, none⟩ (.int .i64 ((k : Int) + 1))) B r m e { s' with loc := s'.loc ++ [tx] }) := hidden (by rw [← hk.out]; exact ⟨_, _, _, _, _, hV6⟩)
      have hK7 : Hid (KB B r m w ((w6.setCell ⟨r, 6, none⟩ v3).setCell ⟨r, 3, none⟩ (.int .i64 ((k : Int) + 1)))) := hidden (((hK5.out.trans (KB.of_ext (Ext.refl w5).drew hV5.BS)).trans hK6).setR 6 v3 |>.setR 3 _)
      obtain ⟨w7, hw7⟩ : ∃ W, w6.setCell ⟨r, 6, none⟩ v3 = W := ⟨_, rfl⟩
      rw [hw7] at hM hK7 z3 y3 ⊢
      clear HS HS2 HS3 hw7 hb7 hb6 hV6 hK6 c6 f6 g5 g0 hKK KK hown3 hgrow3 hb3 hRb XA
      go_wp2_with fail
      go_end0
      unfold RowP
      rw [hpf2.out]
      exact ⟨rfl, hM.out, hK7.out⟩
end Go.Proofs.YthjnchjfmbblfaaGreatDoor
