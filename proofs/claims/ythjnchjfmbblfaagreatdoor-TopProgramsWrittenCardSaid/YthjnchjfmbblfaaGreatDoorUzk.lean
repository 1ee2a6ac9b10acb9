/- The closures of declarations; instruction. -/
import Derived.Test.YthjnchjfmbblfaaGreatDoorUzj
namespace Go.Proofs.YthjnchjfmbblfaaGreatDoor
open Go.RowKit Go.ChangeMaps Go.MapKept
set_option linter.unusedVariables false
set_option linter.unusedSimpArgs false
attribute [local go_sem ↓] Go.wp_at_zero Go.wp_at_succ

set_option maxHeartbeats 4000000 in
set_option maxRecDepth 100000 in
theorem wrap1_any (x B r m e : Nat) (s : Src.RS) (w : World) (hx : w.cell? ⟨x, 0, none⟩ = some (.pointer (some ⟨r, 0, none⟩))) (hR : RMem w B r m e s) (hb : ∀ x ∈ s.ws, x.1.length ≤ 8192) (hE : EG B r m w) (hI : Src.RInv s) :
    Calls Tryz.prog 50 #[.pointer (some ⟨x, 0, none⟩)] w (RowP B r m e (Src.arrayF e false s) w) := by
  have h := array_any B r m e s w hR hb (by rw [hI.na]; have := hI.a8; omega) (by have := hI.l16; omega) hE hI false
  cases hp : Src.arrayF e false s with
  | error c =>
    rw [hp] at h
    unfold RowP at h
    simp only [failW] at h
    replace h := hidden h
    clear hR hb hE hI hp
    go_enter Tryz.func50, Tryz.ntmps50
    go_wp2_with fail
    refine (h.out).mono ?_
    rintro y w2 ⟨rfl, hK⟩
    go_wp2
    exact ⟨rfl, rfl, hK⟩
  | ok s' =>
    rw [hp] at h
    unfold RowP at h
    replace h := hidden h
    clear hR hb hE hI hp
    go_enter Tryz.func50, Tryz.ntmps50
    go_wp2_with fail
    refine (h.out).mono ?_
    rintro y w2 ⟨rfl, hM, hK⟩
    have hM2 := hidden hM
    have hK2 := hidden hK
    clear hM hK
    go_wp2_with fail
    go_end0
    exact ⟨rfl, hM2.out, hK2.out⟩
set_option maxHeartbeats 4000000 in
set_option maxRecDepth 100000 in
theorem wrap2_any (x B r m e : Nat) (s : Src.RS) (w : World) (hx : w.cell? ⟨x, 0, none⟩ = some (.pointer (some ⟨r, 0, none⟩))) (hR : RMem w B r m e s) (hb : ∀ x ∈ s.ws, x.1.length ≤ 8192) (hE : EG B r m w) (hI : Src.RInv s) :
    Calls Tryz.prog 52 #[.pointer (some ⟨x, 0, none⟩)] w (RowP B r m e (Src.arrayF e true s) w) := by
  have h := array_any B r m e s w hR hb (by rw [hI.na]; have := hI.a8; omega) (by have := hI.l16; omega) hE hI true
  cases hp : Src.arrayF e true s with
  | error c =>
    rw [hp] at h
    unfold RowP at h
    simp only [failW] at h
    replace h := hidden h
    clear hR hb hE hI hp
    go_enter Tryz.func52, Tryz.ntmps52
    go_wp2_with fail
    refine (h.out).mono ?_
    rintro y w2 ⟨rfl, hK⟩
    go_wp2
    exact ⟨rfl, rfl, hK⟩
  | ok s' =>
    rw [hp] at h
    unfold RowP at h
    replace h := hidden h
    clear hR hb hE hI hp
    go_enter Tryz.func52, Tryz.ntmps52
    go_wp2_with fail
    refine (h.out).mono ?_
    rintro y w2 ⟨rfl, hM, hK⟩
    have hM2 := hidden hM
    have hK2 := hidden hK
    clear hM hK
    go_wp2_with fail
    go_end0
    exact ⟨rfl, hM2.out, hK2.out⟩
set_option maxHeartbeats 32000000 in
set_option maxRecDepth 100000 in
theorem instr_any (B r m e : Nat) (s : Src.RS) (tx : List UInt8) (pl : Nat) (T : ByteArray) (hT : ba tx = T) (w : World) (hR : RMem w B r m e s) (hb : ∀ x ∈ s.ws, x.1.length ≤ 8192) (hE : EG B r m w) (hI : Src.RInv s) :
    Calls Tryz.prog 32 #[.pointer (some ⟨r, 0, none⟩), .agg #[.string T, .int .i64 (pl : Int)]] w (RowP B r m e (Src.instrF e (tx, pl) s) w) := by
  have hfnd := find_any T
  obtain ⟨⟨op, fb⟩, hfv⟩ : ∃ d, Src.findW tx = d := ⟨_, rfl⟩
  have hfv' : fndV T = (op, fb) := by rw [← hT, ← hfv]; rfl
  rw [hfv'] at hfnd
  simp only at hfnd
  obtain ⟨w1, hw1⟩ : ∃ w1, w.alloc (.cells #[.string T, .int .i64 (pl : Int)] 86) = w1 := ⟨_, rfl⟩
  obtain ⟨q3, hq3⟩ : ∃ q, w.heap.size = q := ⟨_, rfl⟩
  have X1 : Ext w w1 := by rw [← hw1]; exact (Ext.refl w).alloc _
  have HB1 : Blk w1 q3 86 [.string T, .int .i64 (pl : Int)] := by rw [← hw1]; exact blk_newAt' w _ _ _ hq3
  have hBS : Hid (B ≤ w.heap.size) := hidden (by obtain ⟨_, _, _, _, _, h⟩ := hR; exact h.BS)
  have hf := demand_false T (pl : Int) 4
  simp only [failW] at hf
  have ht := demand_true T (pl : Int) 4
  have f6 := demand_false T (pl : Int) 6
  simp only [failW] at f6
  have t6 := demand_true T (pl : Int) 6
  have c0 := HB1.cell 0 _ rfl
  have c1 := HB1.cell 1 _ rfl
  replace hfnd := hidden hfnd
  replace hf := hidden hf
  replace ht := hidden ht
  replace f6 := hidden f6
  replace t6 := hidden t6
  replace HB1 := hidden HB1
  replace X1 := hidden X1
  obtain ⟨iC, cii, cz0, cz1, cz2⟩ := info_parts insInfo
  replace hR := hidden hR
  replace hb := hidden hb
  replace hI := hidden hI
  replace hE := hidden hE
  clear hT hfv'
  cases fb with
  | false =>
    have hpf : Hid (Src.instrF e (tx, pl) s = .error (pl, 4)) := hidden (by unfold Src.instrF; rw [hfv]; rfl)
    clear hfv
    go_enter Tryz.func32, Tryz.ntmps32
    go_wp2_with fail
    refine (hfnd.out _).mono ?_
    rintro x w2 ⟨rfl, X2⟩
    have d0 := X2.cell c0
    have d1 := X2.cell c1
    have Y2 := hidden (X1.out.trans X2)
    clear X2 c0 c1
    go_wp2_with fail
    refine (hf.out _).mono ?_
    rintro x w3 ⟨rfl, X3⟩
    go_wp2
    refine ⟨rfl, ?_⟩
    unfold RowP
    rw [hpf.out]
    exact ⟨rfl, KB.of_ext (Y2.out.trans X3) hBS.out⟩
  | true =>
    have hpf : Hid (Src.instrF e (tx, pl) s = if 1024 ≤ s.C.length then .error (pl, 6) else match Src.argF e op s with | .error x => .error x | .ok (n, s') => .ok { s' with C := s'.C ++ [(op, (n : Int))] }) := hidden (by unfold Src.instrF; rw [hfv]; rfl)
    clear hfv
    go_enter Tryz.func32, Tryz.ntmps32
    go_wp2_with fail
    refine (hfnd.out _).mono ?_
    rintro x w2 ⟨rfl, X2⟩
    have d0 := X2.cell c0
    have d1 := X2.cell c1
    have Y2 := hidden (X1.out.trans X2)
    have HB2 := hidden (HB1.out.ext X2)
    clear X2 c0 c1 HB1 X1
    go_wp2_with fail
    refine (ht.out _).mono ?_
    rintro x w3 ⟨rfl, X3⟩
    have Y3 := hidden (Y2.out.trans X3)
    have HB3 := hidden (HB2.out.ext X3)
    obtain ⟨vw, vA, vC, va, vl, hV0⟩ := hR.out
    have hV := hV0.ext Y3.out
    obtain ⟨nC, hnC⟩ : ∃ n, s.C.length = n := ⟨_, rfl⟩
    obtain ⟨aC, cC, hvC, -⟩ := own_shape hV.oC
    rw [hnC] at hvC
    subst hvC
    have e5 := hV.blk.cell 4 _ rfl
    have e0 := HB3.out.cell 0 _ rfl
    have e1 := HB3.out.cell 1 _ rfl
    have hpf' := hpf.out
    rw [hnC] at hpf'
    replace hpf' := hidden hpf'
    replace hV := hidden hV
    replace hnC := hidden hnC
    clear X3 d0 d1 hV0 hpf HB2 Y2
    go_wp2_with fail
    rename_i KK hKK
    by_cases hlt : 1024 ≤ nC
    · have hd : ¬ (nC : Int) < 1024 := by omega
      have hF : Hid (∀ W, Ext w3.drew W → RowP B r m e (Src.instrF e (tx, pl) s) w (failW (pl : Int) 6) W) := hidden (by
        intro W hW
        rw [hpf'.out, if_pos hlt]
        exact ⟨rfl, KB.of_ext (Y3.out.trans ((Ext.refl w3).drew.trans hW)) hBS.out⟩)
      refine wp_region_D (S := fun w' : World => w'.cell? ⟨r, 4, none⟩ = some (.slice aC nC cC) ∧ w'.cell? ⟨q3, 0, none⟩ = some (.string T) ∧ w'.cell? ⟨q3, 1, none⟩ = some (.int .i64 (pl : Int))) (D := []) (by kernel_rfl) ⟨e5, e0, e1⟩ (fun HS => ?_)
      refine takeD 0 [] (.agg #[.string T, .int .i64 (pl : Int)]) rfl rfl (by kernel_rfl) (by kernel_rfl) (by kernel_rfl) (by kernel_rfl) (by decide) (by decide) (fun _ _ _ h => h) (by rfl) (fun w' hw' => by obtain ⟨s1, s2, s3⟩ := hw'; go_simp) HS ?_
      try simp only [List.setIfInBounds_toArray, List.set_cons_zero, List.set_cons_succ]
      refine takeD 1 [] (.pointer (some ⟨r, 0, none⟩)) rfl rfl (by kernel_rfl) (by kernel_rfl) (by kernel_rfl) (by kernel_rfl) (by decide) (by decide) (fun _ _ _ h => h) (by rfl) (fun w' hw' => by go_simp) HS ?_
      try simp only [List.setIfInBounds_toArray, List.set_cons_zero, List.set_cons_succ]
      refine takeD 2 [] (.pointer (some ⟨r, 0, none⟩)) rfl rfl (by kernel_rfl) (by kernel_rfl) (by kernel_rfl) (by kernel_rfl) (by decide) (by decide) (fun _ _ _ h => h) (by rfl) (fun w' hw' => by go_simp) HS ?_
      try simp only [List.setIfInBounds_toArray, List.set_cons_zero, List.set_cons_succ]
      refine takeD 3 [] (.pointer (some ⟨r, 2, none⟩)) rfl rfl (by kernel_rfl) (by kernel_rfl) (by kernel_rfl) (by kernel_rfl) (by decide) (by decide) (fun _ _ _ h => h) (by rfl) (fun w' hw' => by go_simp) HS ?_
      try simp only [List.setIfInBounds_toArray, List.set_cons_zero, List.set_cons_succ]
      refine takeD 4 [] (.pointer (some ⟨r, 4, none⟩)) rfl rfl (by kernel_rfl) (by kernel_rfl) (by kernel_rfl) (by kernel_rfl) (by decide) (by decide) (fun _ _ _ h => h) (by rfl) (fun w' hw' => by go_simp) HS ?_
      try simp only [List.setIfInBounds_toArray, List.set_cons_zero, List.set_cons_succ]
      refine takeD 5 [] (.slice aC nC cC) rfl rfl (by kernel_rfl) (by kernel_rfl) (by kernel_rfl) (by kernel_rfl) (by decide) (by decide) (fun _ _ _ h => h) (by rfl) (fun w' hw' => by obtain ⟨s1, s2, s3⟩ := hw'; go_simp) HS ?_
      try simp only [List.setIfInBounds_toArray, List.set_cons_zero, List.set_cons_succ]
      refine takeD 6 [] (.int .i64 (nC : Int)) rfl rfl (by kernel_rfl) (by kernel_rfl) (by kernel_rfl) (by kernel_rfl) (by decide) (by decide) (fun _ _ _ h => h) (by rfl) (fun w' hw' => by go_simp) HS ?_
      try simp only [List.setIfInBounds_toArray, List.set_cons_zero, List.set_cons_succ]
      refine takeD 7 [] (.bool false) rfl rfl (by kernel_rfl) (by kernel_rfl) (by kernel_rfl) (by kernel_rfl) (by decide) (by decide) (fun _ _ _ h => h) (by rfl) (fun w' hw' => by go_simp) HS ?_
      try simp only [List.setIfInBounds_toArray, List.set_cons_zero, List.set_cons_succ]
      refine callVD 8 56 #[.agg #[.string T, .int .i64 (pl : Int)], .bool false, .int .i64 6] rfl rfl (by kernel_rfl) (by rfl) (by go_simp) (f6.out _) ?_
      rintro e w5 ⟨rfl, X5⟩
      refine Or.inr ⟨_, rfl, ?_⟩
      exact ⟨rfl, hF.out _ X5⟩
    · have hd : (nC : Int) < 1024 := by omega
      have hpf2 : Hid (Src.instrF e (tx, pl) s = match Src.argF e op s with | .error x => .error x | .ok (n, s') => .ok { s' with C := s'.C ++ [(op, (n : Int))] }) := hidden (by rw [hpf'.out, if_neg hlt])
      refine wp_region_D (S := fun w' : World => w'.cell? ⟨r, 4, none⟩ = some (.slice aC nC cC) ∧ w'.cell? ⟨q3, 0, none⟩ = some (.string T) ∧ w'.cell? ⟨q3, 1, none⟩ = some (.int .i64 (pl : Int))) (D := []) (by kernel_rfl) ⟨e5, e0, e1⟩ (fun HS => ?_)
      refine takeD 0 [] (.agg #[.string T, .int .i64 (pl : Int)]) rfl rfl (by kernel_rfl) (by kernel_rfl) (by kernel_rfl) (by kernel_rfl) (by decide) (by decide) (fun _ _ _ h => h) (by rfl) (fun w' hw' => by obtain ⟨s1, s2, s3⟩ := hw'; go_simp) HS ?_
      try simp only [List.setIfInBounds_toArray, List.set_cons_zero, List.set_cons_succ]
      refine takeD 1 [] (.pointer (some ⟨r, 0, none⟩)) rfl rfl (by kernel_rfl) (by kernel_rfl) (by kernel_rfl) (by kernel_rfl) (by decide) (by decide) (fun _ _ _ h => h) (by rfl) (fun w' hw' => by go_simp) HS ?_
      try simp only [List.setIfInBounds_toArray, List.set_cons_zero, List.set_cons_succ]
      refine takeD 2 [] (.pointer (some ⟨r, 0, none⟩)) rfl rfl (by kernel_rfl) (by kernel_rfl) (by kernel_rfl) (by kernel_rfl) (by decide) (by decide) (fun _ _ _ h => h) (by rfl) (fun w' hw' => by go_simp) HS ?_
      try simp only [List.setIfInBounds_toArray, List.set_cons_zero, List.set_cons_succ]
      refine takeD 3 [] (.pointer (some ⟨r, 2, none⟩)) rfl rfl (by kernel_rfl) (by kernel_rfl) (by kernel_rfl) (by kernel_rfl) (by decide) (by decide) (fun _ _ _ h => h) (by rfl) (fun w' hw' => by go_simp) HS ?_
      try simp only [List.setIfInBounds_toArray, List.set_cons_zero, List.set_cons_succ]
      refine takeD 4 [] (.pointer (some ⟨r, 4, none⟩)) rfl rfl (by kernel_rfl) (by kernel_rfl) (by kernel_rfl) (by kernel_rfl) (by decide) (by decide) (fun _ _ _ h => h) (by rfl) (fun w' hw' => by go_simp) HS ?_
      try simp only [List.setIfInBounds_toArray, List.set_cons_zero, List.set_cons_succ]
      refine takeD 5 [] (.slice aC nC cC) rfl rfl (by kernel_rfl) (by kernel_rfl) (by kernel_rfl) (by kernel_rfl) (by decide) (by decide) (fun _ _ _ h => h) (by rfl) (fun w' hw' => by obtain ⟨s1, s2, s3⟩ := hw'; go_simp) HS ?_
      try simp only [List.setIfInBounds_toArray, List.set_cons_zero, List.set_cons_succ]
      refine takeD 6 [] (.int .i64 (nC : Int)) rfl rfl (by kernel_rfl) (by kernel_rfl) (by kernel_rfl) (by kernel_rfl) (by decide) (by decide) (fun _ _ _ h => h) (by rfl) (fun w' hw' => by go_simp) HS ?_
      try simp only [List.setIfInBounds_toArray, List.set_cons_zero, List.set_cons_succ]
      refine takeD 7 [] (.bool true) rfl rfl (by kernel_rfl) (by kernel_rfl) (by kernel_rfl) (by kernel_rfl) (by decide) (by decide) (fun _ _ _ h => h) (by rfl) (fun w' hw' => by go_simp) HS ?_
      try simp only [List.setIfInBounds_toArray, List.set_cons_zero, List.set_cons_succ]
      refine callVD 8 56 #[.agg #[.string T, .int .i64 (pl : Int)], .bool true, .int .i64 6] rfl rfl (by kernel_rfl) (by rfl) (by go_simp) (t6.out _) ?_
      rintro e w5 ⟨rfl, X5⟩
      refine Or.inl ⟨_, rfl, fun _ => ⟨X5.cell HS.1, X5.cell HS.2.1, X5.cell HS.2.2⟩, ?_⟩
      try simp only [List.setIfInBounds_toArray, List.set_cons_zero, List.set_cons_succ]
      refine wpAnyD_done (by kernel_rfl) ?_ _
      show KK _ _
      refine hKK _ _ ?_
      have Y5 := (Ext.refl w3).drew.trans X5
      have hV5 := hidden (hV.out.ext Y5)
      have hR5 : RMem w5 B r m e s := ⟨_, _, _, _, _, hV5.out⟩
      have hK5 := hidden (KB.of_ext (B := B) (r := r) (m := m) (Y3.out.trans Y5) hBS.out)
      have hBS5 : B ≤ w5.heap.size := hV5.out.BS
      have hE5 := (hE.out.chg (Chg.of_ext [] (Y3.out.trans Y5)) (by simp))
      have hnC5 : s.C.length ≤ 1024 := by rw [hnC.out]; omega
      clear HS e0 e1 e5 X5 hKK KK Y5 hpf' hlt hd HB3 hf ht f6 t6 hV
      by_cases o0 : op = 0
      · subst o0
        have hval := value_any B r m e s w5 hR5 hb.out hE5
        cases hvf : Src.valueF e s with
        | error c =>
          rw [hvf] at hval
          unfold ValP at hval
          simp only [failW] at hval
          have hpf3 : Hid (Src.instrF e (tx, pl) s = .error c) := hidden (by rw [hpf2.out]; unfold Src.argF; simp [hvf])
          have hF : Hid (∀ W, Chg [r] w5 W → RowP B r m e (Src.instrF e (tx, pl) s) w (failW (c.1 : Int) c.2) W) := hidden (by
            intro W hW
            rw [hpf3.out]
            exact ⟨rfl, hK5.out.trans (KB.of_chg hW hBS5 (fun x hx => by simp at hx; exact Or.inl hx))⟩)
          replace hval := hidden hval
          clear hvf hR5 hpf2 hpf3
          go_wp2_with fail
          refine (hval.out).mono ?_
          rintro x w6 ⟨rfl, hC6⟩
          go_wp2
          exact ⟨rfl, hF.out _ hC6⟩
        | ok b =>
          obtain ⟨⟨n, at5⟩, s8⟩ := b
          rw [hvf] at hval
          unfold ValP at hval
          simp only at hval
          obtain ⟨⟨r2, hr2⟩, hnb⟩ := Src.valueF_same hI.out hvf
          simp only at hr2 hnb
          have hC8 : s8.C.length ≤ 1024 := by rw [hr2]; exact hnC5
          have hpf4 : Hid (Src.instrF e (tx, pl) s = .ok { s8 with C := s8.C ++ [((0 : Int), (n : Int))] }) := hidden (by rw [hpf2.out]; unfold Src.argF; simp [hvf])
          replace hval := hidden hval
          clear hvf hR5 hpf2 hr2
          go_wp2_with fail
          refine (hval.out).mono ?_
          rintro x w8 ⟨⟨T5, rfl⟩, hR6, hC6⟩
          obtain ⟨vw7, vA7, vC7, va7, vl7, hV8⟩ := hR6
          have hK8 := hidden (hK5.out.trans (KB.of_chg hC6 hBS5 (fun x hx => by simp at hx; exact Or.inl hx)))
          clear hC6 hval
          obtain ⟨nC, hnC⟩ : ∃ n, s8.C.length = n := ⟨_, rfl⟩
          obtain ⟨aC, cC, hvC, -⟩ := own_shape hV8.oC
          rw [hnC] at hvC
          subst hvC
          have c4 := hV8.blk.cell 4 _ rfl
          have hoC := hV8.oC
          rw [hnC] at hoC
          have hBS8 := hV8.BS
          have hnC2 : nC ≤ 1024 := by rw [← hnC]; exact hC8
          have hu : IntKind.u32.wrap ((n : Int)) = (n : Int) := by first | rfl | exact IntWalk.u32_in _ (by omega)
          have hV9 := hidden hV8
          have hK9 := hK8
          clear hV8 hK8
          replace hnC := hidden hnC
          go_wp2_with (at_builtin; refine wpList_append_own_at _ rfl _ _ 23 rfl B 56 iC (.agg #[.int .i64 0, .int .u32 0]) 2 16 Tryz.underlying23 cii cz0 cz1 cz2 rfl (by decide) (.slice aC nC cC) nC (s8.C.flatMap cI) rfl (World.ownsRow.alloc hoC _) ⟨w8.heap.size, 0, none⟩ 1 1 [.int .i64 0, .int .u32 ((n : Int))] rfl rfl (World.news_of_block (cs := #[.int .i64 0, .int .u32 ((n : Int))]) (t := 56) (fr := (0, 0)) (heap_alloc_new w8 _)) (by simp [Value.oneCell']) (by unfold maxLen; omega) (by omega) (by simp; omega) ?_; intro v9 w10 hown9 hgrow9 _ hb9; obtain ⟨a99, c99, rfl, -⟩ := own_shape hown9; obtain ⟨hb10, hV10, hK10⟩ := hV9.out.growC hown9 hgrow9 ((0 : Int), (n : Int)) (by rw [← hnC.out]) rfl; have c10 := hb10.cell 4 _ rfl; have f10 := hb10.frozen 4)
          go_end0
          unfold RowP
          rw [hpf4.out]
          exact ⟨rfl, ⟨_, _, _, _, _, hV10⟩, (hK9.out.trans hK10).setR 4 _⟩
      · by_cases o35 : op = 35
        · subst o35
          have hval := value_any B r m e s w5 hR5 hb.out hE5
          cases hvf : Src.valueF e s with
          | error c =>
            rw [hvf] at hval
            unfold ValP at hval
            simp only [failW] at hval
            have hpf3 : Hid (Src.instrF e (tx, pl) s = .error c) := hidden (by rw [hpf2.out]; unfold Src.argF; simp [hvf])
            have hF : Hid (∀ W, Chg [r] w5 W → RowP B r m e (Src.instrF e (tx, pl) s) w (failW (c.1 : Int) c.2) W) := hidden (by
              intro W hW
              rw [hpf3.out]
              exact ⟨rfl, hK5.out.trans (KB.of_chg hW hBS5 (fun x hx => by simp at hx; exact Or.inl hx))⟩)
            replace hval := hidden hval
            clear hvf hR5 hpf2 hpf3
            go_wp2_with fail
            refine (hval.out).mono ?_
            rintro x w6 ⟨rfl, hC6⟩
            go_wp2
            exact ⟨rfl, hF.out _ hC6⟩
          | ok b =>
            obtain ⟨⟨n, at5⟩, s8⟩ := b
            rw [hvf] at hval
            unfold ValP at hval
            simp only at hval
            obtain ⟨⟨r2, hr2⟩, hnb⟩ := Src.valueF_same hI.out hvf
            simp only at hr2 hnb
            have hC8 : s8.C.length ≤ 1024 := by rw [hr2]; exact hnC5
            replace hval := hidden hval
            have f5 := fun T5 => demand_false T5 (at5 : Int) 2
            simp only [failW] at f5
            have t5 := fun T5 => demand_true T5 (at5 : Int) 2
            replace f5 := hidden f5
            replace t5 := hidden t5
            by_cases h16 : n < 16
            · have hpf4 : Hid (Src.instrF e (tx, pl) s = .ok { s8 with C := s8.C ++ [((35 : Int), (n : Int))] }) := hidden (by rw [hpf2.out]; unfold Src.argF; simp [hvf, h16])
              have hn16 : (n : Int) < 16 := by omega
              clear hvf hR5 hpf2 hr2 h16
              go_wp2_with fail
              refine (hval.out).mono ?_
              rintro x w6 ⟨⟨T5, rfl⟩, hR6, hC6⟩
              obtain ⟨w7, hw7⟩ : ∃ w7, w6.alloc (.cells #[.string T5, .int .i64 (at5 : Int)] 86) = w7 := ⟨_, rfl⟩
              obtain ⟨q6, hq6⟩ : ∃ q, w6.heap.size = q := ⟨_, rfl⟩
              have X7 : Ext w6 w7 := by rw [← hw7]; exact (Ext.refl w6).alloc _
              have HB7 : Blk w7 q6 86 [.string T5, .int .i64 (at5 : Int)] := by rw [← hw7]; exact blk_newAt' w6 _ _ _ hq6
              have u0 := HB7.cell 0 _ rfl
              have u1 := HB7.cell 1 _ rfl
              obtain ⟨vw7, vA7, vC7, va7, vl7, hV6⟩ := hR6
              have hV7 := hidden (hV6.ext X7)
              have hK7 := hidden ((hK5.out.trans (KB.of_chg hC6 hBS5 (fun x hx => by simp at hx; exact Or.inl hx))).trans (KB.of_ext X7 hV6.BS))
              clear hV6 hC6 X7 HB7 hval
              go_wp2_with fail
              refine (t5.out _ _).mono ?_
              rintro x w8 ⟨rfl, X8⟩
              have hV8 := hV7.out.ext X8
              have hK8 := hidden (hK7.out.trans (KB.of_ext X8 hV7.out.BS))
              clear u0 u1 X8 hV7 hK7 hn16 f5 t5
              obtain ⟨nC, hnC⟩ : ∃ n, s8.C.length = n := ⟨_, rfl⟩
              obtain ⟨aC, cC, hvC, -⟩ := own_shape hV8.oC
              rw [hnC] at hvC
              subst hvC
              have c4 := hV8.blk.cell 4 _ rfl
              have hoC := hV8.oC
              rw [hnC] at hoC
              have hBS8 := hV8.BS
              have hnC2 : nC ≤ 1024 := by rw [← hnC]; exact hC8
              have hu : IntKind.u32.wrap ((n : Int)) = (n : Int) := by first | rfl | exact IntWalk.u32_in _ (by omega)
              have hV9 := hidden hV8
              have hK9 := hK8
              clear hV8 hK8
              replace hnC := hidden hnC
              go_wp2_with (at_builtin; refine wpList_append_own_at _ rfl _ _ 23 rfl B 56 iC (.agg #[.int .i64 0, .int .u32 0]) 2 16 Tryz.underlying23 cii cz0 cz1 cz2 rfl (by decide) (.slice aC nC cC) nC (s8.C.flatMap cI) rfl (World.ownsRow.alloc hoC _) ⟨w8.heap.size, 0, none⟩ 1 1 [.int .i64 35, .int .u32 ((n : Int))] rfl rfl (World.news_of_block (cs := #[.int .i64 35, .int .u32 ((n : Int))]) (t := 56) (fr := (0, 0)) (heap_alloc_new w8 _)) (by simp [Value.oneCell']) (by unfold maxLen; omega) (by omega) (by simp; omega) ?_; intro v9 w10 hown9 hgrow9 _ hb9; obtain ⟨a99, c99, rfl, -⟩ := own_shape hown9; obtain ⟨hb10, hV10, hK10⟩ := hV9.out.growC hown9 hgrow9 ((35 : Int), (n : Int)) (by rw [← hnC.out]) rfl; have c10 := hb10.cell 4 _ rfl; have f10 := hb10.frozen 4)
              go_end0
              unfold RowP
              rw [hpf4.out]
              exact ⟨rfl, ⟨_, _, _, _, _, hV10⟩, (hK9.out.trans hK10).setR 4 _⟩
            · have hpf4 : Hid (Src.instrF e (tx, pl) s = .error (at5, 2)) := hidden (by rw [hpf2.out]; unfold Src.argF; simp [hvf, h16])
              have hn16 : decide ((n : Int) < 16) = false := decide_eq_false (by omega)
              clear hvf hR5 hpf2 hr2 h16 hnb hC8
              go_wp2_with fail
              refine (hval.out).mono ?_
              rintro x w6 ⟨⟨T5, rfl⟩, hR6, hC6⟩
              obtain ⟨w7, hw7⟩ : ∃ w7, w6.alloc (.cells #[.string T5, .int .i64 (at5 : Int)] 86) = w7 := ⟨_, rfl⟩
              obtain ⟨q6, hq6⟩ : ∃ q, w6.heap.size = q := ⟨_, rfl⟩
              have X7 : Ext w6 w7 := by rw [← hw7]; exact (Ext.refl w6).alloc _
              have HB7 : Blk w7 q6 86 [.string T5, .int .i64 (at5 : Int)] := by rw [← hw7]; exact blk_newAt' w6 _ _ _ hq6
              have u0 := HB7.cell 0 _ rfl
              have u1 := HB7.cell 1 _ rfl
              obtain ⟨vw7, vA7, vC7, va7, vl7, hV6⟩ := hR6
              have hBS7 : B ≤ w7.heap.size := (hV6.ext X7).BS
              have hK7 := hidden ((hK5.out.trans (KB.of_chg hC6 hBS5 (fun x hx => by simp at hx; exact Or.inl hx))).trans (KB.of_ext X7 hV6.BS))
              clear hV6 hC6 X7 HB7 hval
              go_wp2_with fail
              refine (f5.out _ _).mono ?_
              rintro x w8 ⟨rfl, X8⟩
              go_wp2
              refine ⟨rfl, ?_⟩
              unfold RowP
              rw [hpf4.out]
              exact ⟨rfl, hK7.out.trans (KB.of_ext X8 hBS7)⟩
        · by_cases o12 : op = 1 ∨ op = 2
          · rcases o12 with rfl | rfl
            · have hidx := index_any B r m e s.loc vl s w5 hR5 hb.out (Rd.of_own hV5.out.ol) (own_base hV5.out.ol hV5.out.rB) (by have := hI.out.l16; omega)
              have cl5 := hV5.out.blk.cell 6 _ rfl
              cases hvf : Src.indexF e s.loc s with
              | error c =>
                rw [hvf] at hidx
                unfold StepP at hidx
                simp only [failW] at hidx
                have hpf3 : Hid (Src.instrF e (tx, pl) s = .error c) := hidden (by rw [hpf2.out]; unfold Src.argF; simp [hvf])
                have hF : Hid (∀ W, Chg [r] w5 W → RowP B r m e (Src.instrF e (tx, pl) s) w (failW (c.1 : Int) c.2) W) := hidden (by
                  intro W hW
                  rw [hpf3.out]
                  exact ⟨rfl, hK5.out.trans (KB.of_chg hW hBS5 (fun x hx => by simp at hx; exact Or.inl hx))⟩)
                replace hidx := hidden hidx
                clear hvf hR5 hpf2 hpf3
                go_wp2_with fail
                refine (hidx.out).mono ?_
                rintro x w6 ⟨rfl, hC6⟩
                go_wp2
                exact ⟨rfl, hF.out _ hC6⟩
              | ok b =>
                obtain ⟨n, s8⟩ := b
                rw [hvf] at hidx
                unfold StepP at hidx
                simp only at hidx
                obtain ⟨⟨r2, hr2⟩, hnb⟩ := Src.indexF_same hvf
                simp only at hr2 hnb
                have hnb2 : n ≤ 1000000 := by have := hI.out.l16; have := hI.out.na; have := hI.out.a8; omega
                have hC8 : s8.C.length ≤ 1024 := by rw [hr2]; exact hnC5
                have hpf4 : Hid (Src.instrF e (tx, pl) s = .ok { s8 with C := s8.C ++ [((1 : Int), (n : Int))] }) := hidden (by rw [hpf2.out]; unfold Src.argF; simp [hvf])
                replace hidx := hidden hidx
                clear hvf hR5 hpf2 hr2
                go_wp2_with fail
                refine (hidx.out).mono ?_
                rintro x w8 ⟨rfl, hR6, hC6⟩
                obtain ⟨vw7, vA7, vC7, va7, vl7, hV8⟩ := hR6
                have hK8 := hidden (hK5.out.trans (KB.of_chg hC6 hBS5 (fun x hx => by simp at hx; exact Or.inl hx)))
                clear hC6 hidx cl5
                obtain ⟨nC, hnC⟩ : ∃ n, s8.C.length = n := ⟨_, rfl⟩
                obtain ⟨aC, cC, hvC, -⟩ := own_shape hV8.oC
                rw [hnC] at hvC
                subst hvC
                have c4 := hV8.blk.cell 4 _ rfl
                have hoC := hV8.oC
                rw [hnC] at hoC
                have hBS8 := hV8.BS
                have hnC2 : nC ≤ 1024 := by rw [← hnC]; exact hC8
                have hu : IntKind.u32.wrap ((n : Int)) = (n : Int) := by first | rfl | exact IntWalk.u32_in _ (by omega)
                have hV9 := hidden hV8
                have hK9 := hK8
                clear hV8 hK8
                replace hnC := hidden hnC
                go_wp2_with (at_builtin; refine wpList_append_own_at _ rfl _ _ 23 rfl B 56 iC (.agg #[.int .i64 0, .int .u32 0]) 2 16 Tryz.underlying23 cii cz0 cz1 cz2 rfl (by decide) (.slice aC nC cC) nC (s8.C.flatMap cI) rfl (World.ownsRow.alloc hoC _) ⟨w8.heap.size, 0, none⟩ 1 1 [.int .i64 1, .int .u32 ((n : Int))] rfl rfl (World.news_of_block (cs := #[.int .i64 1, .int .u32 ((n : Int))]) (t := 56) (fr := (0, 0)) (heap_alloc_new w8 _)) (by simp [Value.oneCell']) (by unfold maxLen; omega) (by omega) (by simp; omega) ?_; intro v9 w10 hown9 hgrow9 _ hb9; obtain ⟨a99, c99, rfl, -⟩ := own_shape hown9; obtain ⟨hb10, hV10, hK10⟩ := hV9.out.growC hown9 hgrow9 ((1 : Int), (n : Int)) (by rw [← hnC.out]) rfl; have c10 := hb10.cell 4 _ rfl; have f10 := hb10.frozen 4)
                go_end0
                unfold RowP
                rw [hpf4.out]
                exact ⟨rfl, ⟨_, _, _, _, _, hV10⟩, (hK9.out.trans hK10).setR 4 _⟩
            · have hidx := index_any B r m e s.loc vl s w5 hR5 hb.out (Rd.of_own hV5.out.ol) (own_base hV5.out.ol hV5.out.rB) (by have := hI.out.l16; omega)
              have cl5 := hV5.out.blk.cell 6 _ rfl
              cases hvf : Src.indexF e s.loc s with
              | error c =>
                rw [hvf] at hidx
                unfold StepP at hidx
                simp only [failW] at hidx
                have hpf3 : Hid (Src.instrF e (tx, pl) s = .error c) := hidden (by rw [hpf2.out]; unfold Src.argF; simp [hvf])
                have hF : Hid (∀ W, Chg [r] w5 W → RowP B r m e (Src.instrF e (tx, pl) s) w (failW (c.1 : Int) c.2) W) := hidden (by
                  intro W hW
                  rw [hpf3.out]
                  exact ⟨rfl, hK5.out.trans (KB.of_chg hW hBS5 (fun x hx => by simp at hx; exact Or.inl hx))⟩)
                replace hidx := hidden hidx
                clear hvf hR5 hpf2 hpf3
                go_wp2_with fail
                refine (hidx.out).mono ?_
                rintro x w6 ⟨rfl, hC6⟩
                go_wp2
                exact ⟨rfl, hF.out _ hC6⟩
              | ok b =>
                obtain ⟨n, s8⟩ := b
                rw [hvf] at hidx
                unfold StepP at hidx
                simp only at hidx
                obtain ⟨⟨r2, hr2⟩, hnb⟩ := Src.indexF_same hvf
                simp only at hr2 hnb
                have hnb2 : n ≤ 1000000 := by have := hI.out.l16; have := hI.out.na; have := hI.out.a8; omega
                have hC8 : s8.C.length ≤ 1024 := by rw [hr2]; exact hnC5
                have hpf4 : Hid (Src.instrF e (tx, pl) s = .ok { s8 with C := s8.C ++ [((2 : Int), (n : Int))] }) := hidden (by rw [hpf2.out]; unfold Src.argF; simp [hvf])
                replace hidx := hidden hidx
                clear hvf hR5 hpf2 hr2
                go_wp2_with fail
                refine (hidx.out).mono ?_
                rintro x w8 ⟨rfl, hR6, hC6⟩
                obtain ⟨vw7, vA7, vC7, va7, vl7, hV8⟩ := hR6
                have hK8 := hidden (hK5.out.trans (KB.of_chg hC6 hBS5 (fun x hx => by simp at hx; exact Or.inl hx)))
                clear hC6 hidx cl5
                obtain ⟨nC, hnC⟩ : ∃ n, s8.C.length = n := ⟨_, rfl⟩
                obtain ⟨aC, cC, hvC, -⟩ := own_shape hV8.oC
                rw [hnC] at hvC
                subst hvC
                have c4 := hV8.blk.cell 4 _ rfl
                have hoC := hV8.oC
                rw [hnC] at hoC
                have hBS8 := hV8.BS
                have hnC2 : nC ≤ 1024 := by rw [← hnC]; exact hC8
                have hu : IntKind.u32.wrap ((n : Int)) = (n : Int) := by first | rfl | exact IntWalk.u32_in _ (by omega)
                have hV9 := hidden hV8
                have hK9 := hK8
                clear hV8 hK8
                replace hnC := hidden hnC
                go_wp2_with (at_builtin; refine wpList_append_own_at _ rfl _ _ 23 rfl B 56 iC (.agg #[.int .i64 0, .int .u32 0]) 2 16 Tryz.underlying23 cii cz0 cz1 cz2 rfl (by decide) (.slice aC nC cC) nC (s8.C.flatMap cI) rfl (World.ownsRow.alloc hoC _) ⟨w8.heap.size, 0, none⟩ 1 1 [.int .i64 2, .int .u32 ((n : Int))] rfl rfl (World.news_of_block (cs := #[.int .i64 2, .int .u32 ((n : Int))]) (t := 56) (fr := (0, 0)) (heap_alloc_new w8 _)) (by simp [Value.oneCell']) (by unfold maxLen; omega) (by omega) (by simp; omega) ?_; intro v9 w10 hown9 hgrow9 _ hb9; obtain ⟨a99, c99, rfl, -⟩ := own_shape hown9; obtain ⟨hb10, hV10, hK10⟩ := hV9.out.growC hown9 hgrow9 ((2 : Int), (n : Int)) (by rw [← hnC.out]) rfl; have c10 := hb10.cell 4 _ rfl; have f10 := hb10.frozen 4)
                go_end0
                unfold RowP
                rw [hpf4.out]
                exact ⟨rfl, ⟨_, _, _, _, _, hV10⟩, (hK9.out.trans hK10).setR 4 _⟩
          · by_cases o34 : op = 3 ∨ op = 4
            · rcases o34 with rfl | rfl
              · have hidx := index_any B r m e s.arr va s w5 hR5 hb.out (Rd.of_own hV5.out.oa) (own_base hV5.out.oa hV5.out.rB) (by rw [hI.out.na]; have := hI.out.a8; omega)
                have cl5 := hV5.out.blk.cell 5 _ rfl
                cases hvf : Src.indexF e s.arr s with
                | error c =>
                  rw [hvf] at hidx
                  unfold StepP at hidx
                  simp only [failW] at hidx
                  have hpf3 : Hid (Src.instrF e (tx, pl) s = .error c) := hidden (by rw [hpf2.out]; unfold Src.argF; simp [hvf])
                  have hF : Hid (∀ W, Chg [r] w5 W → RowP B r m e (Src.instrF e (tx, pl) s) w (failW (c.1 : Int) c.2) W) := hidden (by
                    intro W hW
                    rw [hpf3.out]
                    exact ⟨rfl, hK5.out.trans (KB.of_chg hW hBS5 (fun x hx => by simp at hx; exact Or.inl hx))⟩)
                  replace hidx := hidden hidx
                  clear hvf hR5 hpf2 hpf3
                  go_wp2_with fail
                  refine (hidx.out).mono ?_
                  rintro x w6 ⟨rfl, hC6⟩
                  go_wp2
                  exact ⟨rfl, hF.out _ hC6⟩
                | ok b =>
                  obtain ⟨n, s8⟩ := b
                  rw [hvf] at hidx
                  unfold StepP at hidx
                  simp only at hidx
                  obtain ⟨⟨r2, hr2⟩, hnb⟩ := Src.indexF_same hvf
                  simp only at hr2 hnb
                  have hnb2 : n ≤ 1000000 := by have := hI.out.l16; have := hI.out.na; have := hI.out.a8; omega
                  have hC8 : s8.C.length ≤ 1024 := by rw [hr2]; exact hnC5
                  have hpf4 : Hid (Src.instrF e (tx, pl) s = .ok { s8 with C := s8.C ++ [((3 : Int), (n : Int))] }) := hidden (by rw [hpf2.out]; unfold Src.argF; simp [hvf])
                  replace hidx := hidden hidx
                  clear hvf hR5 hpf2 hr2
                  go_wp2_with fail
                  refine (hidx.out).mono ?_
                  rintro x w8 ⟨rfl, hR6, hC6⟩
                  obtain ⟨vw7, vA7, vC7, va7, vl7, hV8⟩ := hR6
                  have hK8 := hidden (hK5.out.trans (KB.of_chg hC6 hBS5 (fun x hx => by simp at hx; exact Or.inl hx)))
                  clear hC6 hidx cl5
                  obtain ⟨nC, hnC⟩ : ∃ n, s8.C.length = n := ⟨_, rfl⟩
                  obtain ⟨aC, cC, hvC, -⟩ := own_shape hV8.oC
                  rw [hnC] at hvC
                  subst hvC
                  have c4 := hV8.blk.cell 4 _ rfl
                  have hoC := hV8.oC
                  rw [hnC] at hoC
                  have hBS8 := hV8.BS
                  have hnC2 : nC ≤ 1024 := by rw [← hnC]; exact hC8
                  have hu : IntKind.u32.wrap ((n : Int)) = (n : Int) := by first | rfl | exact IntWalk.u32_in _ (by omega)
                  have hV9 := hidden hV8
                  have hK9 := hK8
                  clear hV8 hK8
                  replace hnC := hidden hnC
                  go_wp2_with (at_builtin; refine wpList_append_own_at _ rfl _ _ 23 rfl B 56 iC (.agg #[.int .i64 0, .int .u32 0]) 2 16 Tryz.underlying23 cii cz0 cz1 cz2 rfl (by decide) (.slice aC nC cC) nC (s8.C.flatMap cI) rfl (World.ownsRow.alloc hoC _) ⟨w8.heap.size, 0, none⟩ 1 1 [.int .i64 3, .int .u32 ((n : Int))] rfl rfl (World.news_of_block (cs := #[.int .i64 3, .int .u32 ((n : Int))]) (t := 56) (fr := (0, 0)) (heap_alloc_new w8 _)) (by simp [Value.oneCell']) (by unfold maxLen; omega) (by omega) (by simp; omega) ?_; intro v9 w10 hown9 hgrow9 _ hb9; obtain ⟨a99, c99, rfl, -⟩ := own_shape hown9; obtain ⟨hb10, hV10, hK10⟩ := hV9.out.growC hown9 hgrow9 ((3 : Int), (n : Int)) (by rw [← hnC.out]) rfl; have c10 := hb10.cell 4 _ rfl; have f10 := hb10.frozen 4)
                  go_end0
                  unfold RowP
                  rw [hpf4.out]
                  exact ⟨rfl, ⟨_, _, _, _, _, hV10⟩, (hK9.out.trans hK10).setR 4 _⟩
              · have hidx := index_any B r m e s.arr va s w5 hR5 hb.out (Rd.of_own hV5.out.oa) (own_base hV5.out.oa hV5.out.rB) (by rw [hI.out.na]; have := hI.out.a8; omega)
                have cl5 := hV5.out.blk.cell 5 _ rfl
                cases hvf : Src.indexF e s.arr s with
                | error c =>
                  rw [hvf] at hidx
                  unfold StepP at hidx
                  simp only [failW] at hidx
                  have hpf3 : Hid (Src.instrF e (tx, pl) s = .error c) := hidden (by rw [hpf2.out]; unfold Src.argF; simp [hvf])
                  have hF : Hid (∀ W, Chg [r] w5 W → RowP B r m e (Src.instrF e (tx, pl) s) w (failW (c.1 : Int) c.2) W) := hidden (by
                    intro W hW
                    rw [hpf3.out]
                    exact ⟨rfl, hK5.out.trans (KB.of_chg hW hBS5 (fun x hx => by simp at hx; exact Or.inl hx))⟩)
                  replace hidx := hidden hidx
                  clear hvf hR5 hpf2 hpf3
                  go_wp2_with fail
                  refine (hidx.out).mono ?_
                  rintro x w6 ⟨rfl, hC6⟩
                  go_wp2
                  exact ⟨rfl, hF.out _ hC6⟩
                | ok b =>
                  obtain ⟨n, s8⟩ := b
                  rw [hvf] at hidx
                  unfold StepP at hidx
                  simp only at hidx
                  obtain ⟨⟨r2, hr2⟩, hnb⟩ := Src.indexF_same hvf
                  simp only at hr2 hnb
                  have hnb2 : n ≤ 1000000 := by have := hI.out.l16; have := hI.out.na; have := hI.out.a8; omega
                  have hC8 : s8.C.length ≤ 1024 := by rw [hr2]; exact hnC5
                  have hpf4 : Hid (Src.instrF e (tx, pl) s = .ok { s8 with C := s8.C ++ [((4 : Int), (n : Int))] }) := hidden (by rw [hpf2.out]; unfold Src.argF; simp [hvf])
                  replace hidx := hidden hidx
                  clear hvf hR5 hpf2 hr2
                  go_wp2_with fail
                  refine (hidx.out).mono ?_
                  rintro x w8 ⟨rfl, hR6, hC6⟩
                  obtain ⟨vw7, vA7, vC7, va7, vl7, hV8⟩ := hR6
                  have hK8 := hidden (hK5.out.trans (KB.of_chg hC6 hBS5 (fun x hx => by simp at hx; exact Or.inl hx)))
                  clear hC6 hidx cl5
                  obtain ⟨nC, hnC⟩ : ∃ n, s8.C.length = n := ⟨_, rfl⟩
                  obtain ⟨aC, cC, hvC, -⟩ := own_shape hV8.oC
                  rw [hnC] at hvC
                  subst hvC
                  have c4 := hV8.blk.cell 4 _ rfl
                  have hoC := hV8.oC
                  rw [hnC] at hoC
                  have hBS8 := hV8.BS
                  have hnC2 : nC ≤ 1024 := by rw [← hnC]; exact hC8
                  have hu : IntKind.u32.wrap ((n : Int)) = (n : Int) := by first | rfl | exact IntWalk.u32_in _ (by omega)
                  have hV9 := hidden hV8
                  have hK9 := hK8
                  clear hV8 hK8
                  replace hnC := hidden hnC
                  go_wp2_with (at_builtin; refine wpList_append_own_at _ rfl _ _ 23 rfl B 56 iC (.agg #[.int .i64 0, .int .u32 0]) 2 16 Tryz.underlying23 cii cz0 cz1 cz2 rfl (by decide) (.slice aC nC cC) nC (s8.C.flatMap cI) rfl (World.ownsRow.alloc hoC _) ⟨w8.heap.size, 0, none⟩ 1 1 [.int .i64 4, .int .u32 ((n : Int))] rfl rfl (World.news_of_block (cs := #[.int .i64 4, .int .u32 ((n : Int))]) (t := 56) (fr := (0, 0)) (heap_alloc_new w8 _)) (by simp [Value.oneCell']) (by unfold maxLen; omega) (by omega) (by simp; omega) ?_; intro v9 w10 hown9 hgrow9 _ hb9; obtain ⟨a99, c99, rfl, -⟩ := own_shape hown9; obtain ⟨hb10, hV10, hK10⟩ := hV9.out.growC hown9 hgrow9 ((4 : Int), (n : Int)) (by rw [← hnC.out]) rfl; have c10 := hb10.cell 4 _ rfl; have f10 := hb10.frozen 4)
                  go_end0
                  unfold RowP
                  rw [hpf4.out]
                  exact ⟨rfl, ⟨_, _, _, _, _, hV10⟩, (hK9.out.trans hK10).setR 4 _⟩
            · have q0 : (op == 0) = false := by simpa using o0
              have q35 : (op == 35) = false := by simpa using o35
              have q1 : (op == 1) = false := by simp; intro h; exact o12 (Or.inl h)
              have q2 : (op == 2) = false := by simp; intro h; exact o12 (Or.inr h)
              have q3' : (op == 3) = false := by simp; intro h; exact o34 (Or.inl h)
              have q4 : (op == 4) = false := by simp; intro h; exact o34 (Or.inr h)
              have hpf4 : Hid (Src.instrF e (tx, pl) s = .ok { s with C := s.C ++ [(op, 0)] }) := hidden (by rw [hpf2.out]; unfold Src.argF; rw [if_neg o0, if_neg o35, if_neg o12, if_neg o34]; rfl)
              obtain ⟨s8, hs8⟩ : ∃ t, s = t := ⟨_, rfl⟩
              obtain ⟨w8, hw8⟩ : ∃ t, w5 = t := ⟨_, rfl⟩
              obtain ⟨vw8, vA8, vC8, va8, vl8, hV8⟩ : RMem w5 B r m e s := ⟨_, _, _, _, _, hV5.out⟩
              have hK8 := hK5
              have hC8 := hnC5
              have hpf5 : Hid (Src.instrF e (tx, pl) s = .ok { s8 with C := s8.C ++ [(op, 0)] }) := hidden (by rw [hpf4.out, hs8])
              rw [hw8] at hV8 hK8 ⊢
              rw [hs8] at hV8 hC8
              clear hpf4 o0 o35 o12 o34 hR5 hpf2 hV5 hK5 hE5 hBS5 hw8 hnC5
              have hpf4 := hpf5
              clear hpf5
              obtain ⟨nC, hnC⟩ : ∃ n, s8.C.length = n := ⟨_, rfl⟩
              obtain ⟨aC, cC, hvC, -⟩ := own_shape hV8.oC
              rw [hnC] at hvC
              subst hvC
              have c4 := hV8.blk.cell 4 _ rfl
              have hoC := hV8.oC
              rw [hnC] at hoC
              have hBS8 := hV8.BS
              have hnC2 : nC ≤ 1024 := by rw [← hnC]; exact hC8
              have hu : IntKind.u32.wrap (0) = 0 := by first | rfl | exact IntWalk.u32_in _ (by omega)
              have hV9 := hidden hV8
              have hK9 := hK8
              clear hV8 hK8
              replace hnC := hidden hnC
              go_wp2_with (at_builtin; refine wpList_append_own_at _ rfl _ _ 23 rfl B 56 iC (.agg #[.int .i64 0, .int .u32 0]) 2 16 Tryz.underlying23 cii cz0 cz1 cz2 rfl (by decide) (.slice aC nC cC) nC (s8.C.flatMap cI) rfl (World.ownsRow.alloc hoC _) ⟨w8.heap.size, 0, none⟩ 1 1 [.int .i64 op, .int .u32 (0)] rfl rfl (World.news_of_block (cs := #[.int .i64 op, .int .u32 (0)]) (t := 56) (fr := (0, 0)) (heap_alloc_new w8 _)) (by simp [Value.oneCell']) (by unfold maxLen; omega) (by omega) (by simp; omega) ?_; intro v9 w10 hown9 hgrow9 _ hb9; obtain ⟨a99, c99, rfl, -⟩ := own_shape hown9; obtain ⟨hb10, hV10, hK10⟩ := hV9.out.growC hown9 hgrow9 (op, 0) (by rw [← hnC.out]) rfl; have c10 := hb10.cell 4 _ rfl; have f10 := hb10.frozen 4)
              go_end0
              unfold RowP
              rw [hpf4.out]
              exact ⟨rfl, ⟨_, _, _, _, _, hV10⟩, (hK9.out.trans hK10).setR 4 _⟩
end Go.Proofs.YthjnchjfmbblfaaGreatDoor
