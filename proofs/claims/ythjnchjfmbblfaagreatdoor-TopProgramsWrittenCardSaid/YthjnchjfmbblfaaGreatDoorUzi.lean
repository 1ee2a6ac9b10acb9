/- constant. -/
import Derived.Test.YthjnchjfmbblfaaGreatDoorUzh
namespace Go.Proofs.YthjnchjfmbblfaaGreatDoor
open Go.RowKit Go.ChangeMaps Go.MapKept
set_option linter.unusedVariables false
set_option linter.unusedSimpArgs false
attribute [local go_sem ↓] Go.wp_at_zero Go.wp_at_succ

theorem nextF_ws (e : Nat) (s : Src.RS) : ∀ x ∈ (Src.nextF e s).2.ws, x ∈ s.ws := by
  intro x hx
  unfold Src.nextF at hx
  cases h : s.ws with
  | nil => rw [h] at hx; simp only at hx; rw [h] at hx; exact hx
  | cons p r => rw [h] at hx; exact List.mem_cons_of_mem _ hx
theorem nameF_ws {e : Nat} {s : Src.RS} {a} (h : Src.nameF e s = .ok a) : ∀ x ∈ a.2.ws, x ∈ s.ws := by
  unfold Src.nameF at h
  split at h
  · cases h; exact nextF_ws e s
  · cases h
theorem freshF_ws {e : Nat} {s : Src.RS} {a} (h : Src.freshF e s = .ok a) : ∀ x ∈ a.2.ws, x ∈ s.ws := by
  unfold Src.freshF at h
  cases hn : Src.nameF e s with
  | error c => rw [hn] at h; cases h
  | ok b =>
    rw [hn] at h
    simp only at h
    split at h
    · cases h
    · cases h; exact nameF_ws hn
set_option maxHeartbeats 16000000 in
set_option maxRecDepth 100000 in
theorem constant_any (B r m e : Nat) (s : Src.RS) (w : World) (hR : RMem w B r m e s) (hb : ∀ x ∈ s.ws, x.1.length ≤ 8192) (h8 : s.arr.length ≤ 1000000) (h16 : s.loc.length ≤ 1000000) (hE : EG B r m w) (hI : Src.RInv s) :
    Calls Tryz.prog 54 #[.pointer (some ⟨r, 0, none⟩)] w (RowP B r m e (Src.constF e s) w) := by
  have hfr := fresh_any B r m e s w hR hb h8 h16
  have hBS : Hid (B ≤ w.heap.size) := hidden (by obtain ⟨_, _, _, _, _, h⟩ := hR; exact h.BS)
  have hb' := hidden hb
  cases hnf : Src.freshF e s with
  | error c =>
    rw [hnf] at hfr
    unfold StepP at hfr
    simp only [failW] at hfr
    have hpf : Src.constF e s = .error c := by unfold Src.constF; rw [hnf]
    rw [hpf]
    replace hfr := hidden hfr
    go_enter Tryz.func54, Tryz.ntmps54
    go_wp2_with fail
    refine (hfr.out).mono ?_
    rintro x w2 ⟨rfl, hC2⟩
    have hK := KB.of_chg (m := m) hC2 hBS.out (fun x hx => by simp at hx; exact Or.inl hx)
    go_wp2
    exact ⟨rfl, rfl, hK⟩
  | ok a =>
    obtain ⟨⟨tx, pl⟩, s'⟩ := a
    have hsame := Src.freshF_same hnf
    obtain ⟨rr, hrr⟩ := hsame
    simp only at hrr
    rw [hnf] at hfr
    unfold StepP at hfr
    obtain ⟨T, hT⟩ : ∃ T : ByteArray, ba tx = T := ⟨_, rfl⟩
    have hv : vW (tx, pl) = .agg #[.string T, .int .i64 (pl : Int)] := by rw [← hT]; rfl
    simp only [hv] at hfr
    have hpf0 : Src.constF e s = match Src.valueF e s' with | .error x => .error x | .ok ((n, _), s2) => .ok { s2 with con := (tx, n) :: s2.con } := by
      unfold Src.constF
      rw [hnf]
      rfl
    have hcn0 : Src.conF s'.con tx = none := by
      unfold Src.freshF at hnf
      cases hn : Src.nameF e s with
      | error c => rw [hn] at hnf; cases hnf
      | ok b =>
        obtain ⟨⟨tb, pb⟩, sb⟩ := b
        rw [hn] at hnf
        simp only at hnf
        split at hnf
        · cases hnf
        · next hc =>
          simp only [Except.ok.injEq, Prod.mk.injEq] at hnf
          obtain ⟨⟨rfl, rfl⟩, rfl⟩ := hnf
          simp only [not_or] at hc
          have h1 := hc.1
          cases h : Src.conF sb.con tb with
          | none => rfl
          | some n => rw [h] at h1; exact absurd rfl h1
    have hI' : Src.RInv s' := by rw [hrr]; exact hI.ws rr
    have hws' : ∀ x ∈ s'.ws, x.1.length ≤ 8192 := fun x hx => hb x (freshF_ws hnf x hx)
    replace hfr := hidden hfr
    replace hT := hidden hT
    replace hpf0 := hidden hpf0
    replace hcn0 := hidden hcn0
    clear hR hb hv hrr h8 h16 hnf
    go_enter Tryz.func54, Tryz.ntmps54
    go_wp2_with fail
    refine (hfr.out).mono ?_
    rintro x w2 ⟨rfl, hR2, hC2⟩
    have hK2 := hidden (KB.of_chg (m := m) hC2 hBS.out (fun x hx => by simp at hx; exact Or.inl hx))
    obtain ⟨w3, hw3⟩ : ∃ w3, w2.alloc (.cells #[.string T, .int .i64 (pl : Int)] 86) = w3 := ⟨_, rfl⟩
    obtain ⟨q3, hq3⟩ : ∃ q, w2.heap.size = q := ⟨_, rfl⟩
    have X3 : Ext w2 w3 := by rw [← hw3]; exact (Ext.refl w2).alloc _
    have HB3 : Blk w3 q3 86 [.string T, .int .i64 (pl : Int)] := by rw [← hw3]; exact blk_newAt' w2 _ _ _ hq3
    obtain ⟨vw, vA, vC, va, vl, hV2⟩ := hR2
    have hV := hV2.ext X3
    have hE3 : EG B r m w3.drew := ((hE.chg hC2 (by simp; exact hE.ne.1)).chg (Chg.of_ext [] X3) (by simp)).chg (Chg.of_ext [] (Ext.refl w3).drew) (by simp)
    have hval := value_any B r m e s' w3.drew ⟨_, _, _, _, _, hV.ext (Ext.refl w3).drew⟩ hws' hE3
    have e0 := HB3.cell 0 _ rfl
    have e7 := hV.blk.cell 7 _ rfl
    have hq3r : q3 ≠ r := by have := hV2.rB; have := hV2.BS; omega
    have hq3m : q3 ≠ m := by have := hV2.mB; have := hV2.BS; omega
    have hBS2 := hV2.BS
    have hK3 := hidden (hK2.out.trans (KB.of_ext X3 hBS2))
    replace hV := hidden hV
    replace HB3 := hidden HB3
    clear hV2 hC2 hBS2 X3 hws' hE hE3
    go_wp2_with fail
    cases hvf : Src.valueF e s' with
    | error c =>
      rw [hvf] at hval
      unfold ValP at hval
      simp only [failW] at hval
      have hpf : Hid (Src.constF e s = .error c) := hidden (by rw [hpf0.out, hvf])
      have hF : Hid (∀ W, Chg [r] w3.drew W → RowP B r m e (Src.constF e s) w (failW (c.1 : Int) c.2) W) := hidden (by
        intro W hW
        rw [hpf.out]
        exact ⟨rfl, (hK3.out.trans (KB.of_ext (Ext.refl w3).drew hV.out.BS)).trans (KB.of_chg hW hV.out.BS (fun x hx => by simp at hx; exact Or.inl hx))⟩)
      replace hval := hidden hval
      clear hpf0 hcn0 hI hI' hvf
      refine wp_region_D (S := fun w' : World => w'.cell? ⟨r, 7, none⟩ = some (.map (some m)) ∧ w'.cell? ⟨q3, 0, none⟩ = some (.string T)) (D := []) (by kernel_rfl) ⟨e7, e0⟩ (fun HS => ?_)
      refine takeD 0 [] (.pointer (some ⟨r, 0, none⟩)) rfl rfl (by kernel_rfl) (by kernel_rfl) (by kernel_rfl) (by kernel_rfl) (by decide) (by decide) (fun _ _ _ h => h) (by rfl) (fun w' hw' => by go_simp) HS ?_
      try simp only [List.setIfInBounds_toArray, List.set_cons_zero, List.set_cons_succ]
      refine takeD 1 [] (.pointer (some ⟨r, 0, none⟩)) rfl rfl (by kernel_rfl) (by kernel_rfl) (by kernel_rfl) (by kernel_rfl) (by decide) (by decide) (fun _ _ _ h => h) (by rfl) (fun w' hw' => by go_simp) HS ?_
      try simp only [List.setIfInBounds_toArray, List.set_cons_zero, List.set_cons_succ]
      refine takeD 2 [] (.pointer (some ⟨r, 7, none⟩)) rfl rfl (by kernel_rfl) (by kernel_rfl) (by kernel_rfl) (by kernel_rfl) (by decide) (by decide) (fun _ _ _ h => h) (by rfl) (fun w' hw' => by go_simp) HS ?_
      try simp only [List.setIfInBounds_toArray, List.set_cons_zero, List.set_cons_succ]
      refine takeD 3 [] (.map (some m)) rfl rfl (by kernel_rfl) (by kernel_rfl) (by kernel_rfl) (by kernel_rfl) (by decide) (by decide) (fun _ _ _ h => h) (by rfl) (fun w' hw' => by obtain ⟨s1, s2⟩ := hw'; go_simp) HS ?_
      try simp only [List.setIfInBounds_toArray, List.set_cons_zero, List.set_cons_succ]
      refine takeD 4 [] (.pointer (some ⟨q3, 0, none⟩)) rfl rfl (by kernel_rfl) (by kernel_rfl) (by kernel_rfl) (by kernel_rfl) (by decide) (by decide) (fun _ _ _ h => h) (by rfl) (fun w' hw' => by go_simp) HS ?_
      try simp only [List.setIfInBounds_toArray, List.set_cons_zero, List.set_cons_succ]
      refine takeD 5 [] (.string T) rfl rfl (by kernel_rfl) (by kernel_rfl) (by kernel_rfl) (by kernel_rfl) (by decide) (by decide) (fun _ _ _ h => h) (by rfl) (fun w' hw' => by obtain ⟨s1, s2⟩ := hw'; go_simp) HS ?_
      try simp only [List.setIfInBounds_toArray, List.set_cons_zero, List.set_cons_succ]
      refine takeD 6 [] (.pointer (some ⟨r, 0, none⟩)) rfl rfl (by kernel_rfl) (by kernel_rfl) (by kernel_rfl) (by kernel_rfl) (by decide) (by decide) (fun _ _ _ h => h) (by rfl) (fun w' hw' => by go_simp) HS ?_
      try simp only [List.setIfInBounds_toArray, List.set_cons_zero, List.set_cons_succ]
      refine callVD 7 57 #[.pointer (some ⟨r, 0, none⟩)] rfl rfl (by kernel_rfl) (by rfl) (by go_simp) (hval.out) ?_
      rintro e w5 ⟨rfl, hC5⟩
      refine Or.inr ⟨_, rfl, ?_⟩
      exact ⟨rfl, hF.out _ hC5⟩
    | ok b =>
      obtain ⟨⟨n, at5⟩, s2⟩ := b
      rw [hvf] at hval
      unfold ValP at hval
      simp only at hval
      obtain ⟨r2, hr2⟩ := (Src.valueF_same hI' hvf).1
      simp only at hr2
      have hcn : Hid (Src.conF s2.con tx = none) := hidden (by rw [hr2]; exact hcn0.out)
      have hpf : Hid (Src.constF e s = .ok { s2 with con := (tx, n) :: s2.con }) := hidden (by rw [hpf0.out, hvf])
      replace hval := hidden hval
      clear hpf0 hcn0 hI hI' hvf hr2
      refine wp_region_D (S := fun w' : World => w'.cell? ⟨r, 7, none⟩ = some (.map (some m)) ∧ w'.cell? ⟨q3, 0, none⟩ = some (.string T)) (D := []) (by kernel_rfl) ⟨e7, e0⟩ (fun HS => ?_)
      refine takeD 0 [] (.pointer (some ⟨r, 0, none⟩)) rfl rfl (by kernel_rfl) (by kernel_rfl) (by kernel_rfl) (by kernel_rfl) (by decide) (by decide) (fun _ _ _ h => h) (by rfl) (fun w' hw' => by go_simp) HS ?_
      try simp only [List.setIfInBounds_toArray, List.set_cons_zero, List.set_cons_succ]
      refine takeD 1 [] (.pointer (some ⟨r, 0, none⟩)) rfl rfl (by kernel_rfl) (by kernel_rfl) (by kernel_rfl) (by kernel_rfl) (by decide) (by decide) (fun _ _ _ h => h) (by rfl) (fun w' hw' => by go_simp) HS ?_
      try simp only [List.setIfInBounds_toArray, List.set_cons_zero, List.set_cons_succ]
      refine takeD 2 [] (.pointer (some ⟨r, 7, none⟩)) rfl rfl (by kernel_rfl) (by kernel_rfl) (by kernel_rfl) (by kernel_rfl) (by decide) (by decide) (fun _ _ _ h => h) (by rfl) (fun w' hw' => by go_simp) HS ?_
      try simp only [List.setIfInBounds_toArray, List.set_cons_zero, List.set_cons_succ]
      refine takeD 3 [] (.map (some m)) rfl rfl (by kernel_rfl) (by kernel_rfl) (by kernel_rfl) (by kernel_rfl) (by decide) (by decide) (fun _ _ _ h => h) (by rfl) (fun w' hw' => by obtain ⟨s1, s2⟩ := hw'; go_simp) HS ?_
      try simp only [List.setIfInBounds_toArray, List.set_cons_zero, List.set_cons_succ]
      refine takeD 4 [] (.pointer (some ⟨q3, 0, none⟩)) rfl rfl (by kernel_rfl) (by kernel_rfl) (by kernel_rfl) (by kernel_rfl) (by decide) (by decide) (fun _ _ _ h => h) (by rfl) (fun w' hw' => by go_simp) HS ?_
      try simp only [List.setIfInBounds_toArray, List.set_cons_zero, List.set_cons_succ]
      refine takeD 5 [] (.string T) rfl rfl (by kernel_rfl) (by kernel_rfl) (by kernel_rfl) (by kernel_rfl) (by decide) (by decide) (fun _ _ _ h => h) (by rfl) (fun w' hw' => by obtain ⟨s1, s2⟩ := hw'; go_simp) HS ?_
      try simp only [List.setIfInBounds_toArray, List.set_cons_zero, List.set_cons_succ]
      refine takeD 6 [] (.pointer (some ⟨r, 0, none⟩)) rfl rfl (by kernel_rfl) (by kernel_rfl) (by kernel_rfl) (by kernel_rfl) (by decide) (by decide) (fun _ _ _ h => h) (by rfl) (fun w' hw' => by go_simp) HS ?_
      try simp only [List.setIfInBounds_toArray, List.set_cons_zero, List.set_cons_succ]
      refine callVD 7 57 #[.pointer (some ⟨r, 0, none⟩)] rfl rfl (by kernel_rfl) (by rfl) (by go_simp) (hval.out) ?_
      rintro e w5 ⟨⟨T5, rfl⟩, hR5, hC5⟩
      obtain ⟨vw5, vA5, vC5, va5, vl5, hV5⟩ := hR5
      have c7 := hV5.blk.cell 7 _ rfl
      have c0 := (HB3.out.ext (Ext.refl w3).drew).chg hC5 (by simp; exact fun e => hq3r e)
      have c0' := c0.cell 0 _ rfl
      obtain ⟨l, l1, l2⟩ := hV5.map
      have l3 : lookS T l = none := by
        have := l2 tx
        rw [hcn.out, show (⟨tx.toArray⟩ : ByteArray) = T from hT.out] at this
        exact this
      have hins := run_insert_S (P := Tryz.prog) Tryz.underlying48 Tryz.underlying9 l l1 T (.int .i64 (n : Int)) l3
      have hVn := hV5.addc l1 l2 tx n hcn.out
      have hKn : KB B r m w (setBlock w5 m (tblS (l ++ [(ba tx, .int .i64 (n : Int))]))) := ((hK3.out.trans (KB.of_ext (Ext.refl w3).drew hV.out.BS)).trans (KB.of_chg hC5 hV.out.BS (fun x hx => by simp at hx; exact Or.inl hx))).trans (KB.of_chg (chg_setBlock w5 m _) hV5.BS (fun x hx => by simp at hx; exact Or.inr (Or.inl hx)))
      rw [hT.out] at hVn hKn
      refine Or.inl ⟨_, rfl, fun _ => ⟨c7, c0'⟩, ?_⟩
      try simp only [List.setIfInBounds_toArray, List.set_cons_zero, List.set_cons_succ]
      have HS5 : (fun w' : World => w'.cell? ⟨r, 7, none⟩ = some (.map (some m)) ∧ w'.cell? ⟨q3, 0, none⟩ = some (.string T)) w5 := ⟨c7, c0'⟩
      refine takeD 8 [] (.tuple #[.int .i64 (n : Int), .agg #[.string T5, .int .i64 (at5 : Int)]]) rfl rfl (by kernel_rfl) (by kernel_rfl) (by kernel_rfl) (by kernel_rfl) (by decide) (by decide) (fun _ _ _ h => h) (by rfl) (fun w' hw' => by go_simp) HS5 ?_
      try simp only [List.setIfInBounds_toArray, List.set_cons_zero, List.set_cons_succ]
      refine takeD 9 [] (.int .i64 (n : Int)) rfl rfl (by kernel_rfl) (by kernel_rfl) (by kernel_rfl) (by kernel_rfl) (by decide) (by decide) (fun _ _ _ h => h) (by rfl) (fun w' hw' => by go_simp) HS5 ?_
      try simp only [List.setIfInBounds_toArray, List.set_cons_zero, List.set_cons_succ]
      refine takeD 10 [] (.agg #[.string T5, .int .i64 (at5 : Int)]) rfl rfl (by kernel_rfl) (by kernel_rfl) (by kernel_rfl) (by kernel_rfl) (by decide) (by decide) (fun _ _ _ h => h) (by rfl) (fun w' hw' => by go_simp) HS5 ?_
      try simp only [List.setIfInBounds_toArray, List.set_cons_zero, List.set_cons_succ]
      have hCm := chg_setBlock w5 m (tblS (l ++ [(T, .int .i64 (n : Int))]))
      have HSn : (fun w' : World => w'.cell? ⟨r, 7, none⟩ = some (.map (some m)) ∧ w'.cell? ⟨q3, 0, none⟩ = some (.string T)) (setBlock w5 m (tblS (l ++ [(T, .int .i64 (n : Int))]))) := ⟨hCm.cell (by simp; exact fun e => hV5.mr e.symm) c7, hCm.cell (by simp; exact fun e => hq3m e) c0'⟩
      refine storeD 11 rfl rfl (by kernel_rfl) (by rfl) (w' := setBlock w5 m (tblS (l ++ [(T, .int .i64 (n : Int))]))) (by go_simp) (fun _ => HSn) ?_
      try simp only [List.setIfInBounds_toArray, List.set_cons_zero, List.set_cons_succ]
      refine wpAnyD_done (by kernel_rfl) ?_ _
      go_end0
      unfold RowP
      rw [hpf.out]
      exact ⟨rfl, ⟨_, _, _, _, _, hVn⟩, hKn⟩
end Go.Proofs.YthjnchjfmbblfaaGreatDoor
