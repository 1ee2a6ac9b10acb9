/- Start and CheckMemory return the results of the reference: for all programs and memories. -/
import Derived.Test.YtgjjklajipekdaaGreatYzx
namespace Go.Proofs.YtgjjklajipekdaaGreat
open Go.RowKit
set_option linter.unusedVariables false
set_option linter.unusedSimpArgs false
attribute [local go_sem ↓] Go.wp_at_zero Go.wp_at_succ

/-- What Start returned, as one. -/
def zmA (A : List (Bool × Int)) (fe : Int) : List (List Int) := if fe = 0 then zerosA A else []
def zmC (fe : Int) : List Int := if fe = 0 then List.replicate 16 0 else []
theorem start_all {w : World} {A : List (Bool × Int)} {L : Int} {C : List (Int × Int)} {x : Ending} {w' : World} (h : StartP w A L C x w') : ∃ (a1 a2 : Option Addr) (c1 c2 : Nat), x = .returned (.tuple #[.agg #[.slice a1 (zmA A (formE A L C)).length c1, .slice a2 (zmC (formE A L C)).length c2], .int .i64 (formE A L C)]) ∧ MemR w' (.slice a1 (zmA A (formE A L C)).length c1) (.slice a2 (zmC (formE A L C)).length c2) (zmA A (formE A L C)) (zmC (formE A L C)) ∧ Ext w w' := by
  unfold StartP at h
  unfold zmA zmC
  by_cases h0 : formE A L C = 0
  · rw [if_pos h0] at h
    rw [if_pos h0, if_pos h0, h0]
    obtain ⟨ma, mc, e, h1, h2⟩ := h
    obtain ⟨a1, c1, a2, c2, rfl, rfl⟩ := h1.read.shape _ _ rfl rfl
    exact ⟨a1, a2, c1, c2, e, h1.read, h2⟩
  · rw [if_neg h0] at h
    rw [if_neg h0, if_neg h0]
    exact ⟨none, none, 0, 0, h.1, ⟨[], rd_none _ _, (fun i v a hv => by simp at hv), rd_none _ _⟩, h.2⟩
/-- A memory that came in. -/
theorem mem_in {w : World} {ma mc : Value} {M : List (Value × List Int)} {cx : List Int} (rm : Rd w 1 ma M.length (M.flatMap fun x => [x.1])) (hM : ∀ x ∈ M, Rd w 1 x.1 x.2.length (x.2.map (Value.int .u32)) ∧ ∀ z ∈ x.2, 0 ≤ z ∧ z ≤ 4294967295) (rcx : Rd w 1 mc cx.length (cx.map (Value.int .u32))) :
    MemR w ma mc (M.map (·.2)) cx ∧ ∀ a ∈ M.map (·.2), ∀ x ∈ a, U32 x := by
  have hf : ∀ l : List (Value × List Int), (l.flatMap fun x => [x.1]) = l.map (·.1) := by
    intro l
    induction l with
    | nil => rfl
    | cons x l ih => rw [List.flatMap_cons, ih]; rfl
  rw [hf] at rm
  refine ⟨⟨M.map (·.1), by rw [List.length_map]; exact rm, fun i v a hv ha => ?_, rcx⟩, fun a ha x hx => ?_⟩
  · rw [List.getElem?_map] at hv ha
    cases hx : M[i]? with
    | none => rw [hx] at hv; simp at hv
    | some x =>
      rw [hx] at hv ha
      simp only [Option.map_some, Option.some.injEq] at hv ha
      subst hv
      subst ha
      exact (hM x (List.mem_of_getElem? hx)).1
  · obtain ⟨y, hy, rfl⟩ := List.mem_map.1 ha
    exact (hM y hy).2 x hx
set_option maxHeartbeats 4000000 in
set_option maxRecDepth 100000 in
theorem InterpreterStarts_law (va : Value) (A : List (Bool × Int)) (L : Int) (vc : Value) (C : List (Int × Int)) (ma : Value) (M : List (Value × List Int)) (mc : Value) (cx : List Int) (hA : OkA A) (hL0 : -9223372036854775808 ≤ L) (hL1 : L ≤ 9223372036854775807) (hC : OkI C) (hcx : ∀ z ∈ cx, 0 ≤ z ∧ z ≤ 4294967295) (w : World) (ra : Rd w 2 va A.length (A.flatMap cA)) (rc : Rd w 2 vc C.length (C.flatMap cI)) (rm : Rd w 1 ma M.length (M.flatMap fun x => [x.1])) (hMM : ∀ x ∈ M, Rd w 1 x.1 x.2.length (x.2.map (Value.int .u32)) ∧ ∀ z ∈ x.2, 0 ≤ z ∧ z ≤ 4294967295) (rcx : Rd w 1 mc cx.length (cx.map (Value.int .u32))) :
    Calls Tryz.prog 3 #[.agg #[va, .int .i64 L, vc], .agg #[ma, mc]] w fun x w' => x = .returned (.bool true) ∧ Ext w w' := by
  obtain ⟨hM, hau⟩ := mem_in rm hMM rcx
  generalize M.map (·.2) = ar at hM hau
  have hfw := hidden (fun (W : World) (h : Ext w W) => fewP_any va vc A L C W (Rd.ext ra h) (Rd.ext rc h))
  have hfm := hidden (fun (W : World) (h : Ext w W) => fewmem_any ma mc ar cx W (hM.ext h))
  have haw := hidden awake_any
  have hst := hidden (fun (W : World) (h : Ext w W) => istart_any va vc A L C hA hC hL0 hL1 W (Rd.ext ra h) (Rd.ext rc h))
  have hrs := hidden (fun (W : World) (h : Ext w W) => rstart_any va vc A L C hA hC hL0 hL1 W (Rd.ext ra h) (Rd.ext rc h))
  have hck0 := hidden (fun (hal : ∀ a ∈ ar, a.length ≤ 300) (W : World) (h : Ext w W) => icheckm_any va vc ma mc A L C ar cx hA hC hL0 hL1 W (Rd.ext ra h) (Rd.ext rc h) (hM.ext h) (fun a ha => by have := hal a ha; omega))
  have hrck0 := hidden (fun (hal : ∀ a ∈ ar, a.length ≤ 300) (W : World) (h : Ext w W) => rcheckm_any va vc ma mc A L C ar cx hA hC hL0 hL1 W (Rd.ext ra h) (Rd.ext rc h) (hM.ext h) (fun a ha => by have := hal a ha; omega))
  have hfe0 : ∀ f, f = formE A L C → True := fun _ _ => trivial
  obtain ⟨rl, hrl⟩ : ∃ n, ar.length = n := ⟨_, rfl⟩
  obtain ⟨xl, hxl⟩ : ∃ n, cx.length = n := ⟨_, rfl⟩
  obtain ⟨am, cm, ax, cx0, rfl, rfl⟩ := hM.shape rl xl hrl hxl
  obtain ⟨aa, ca, rfl, -⟩ := Rd.shape ra
  obtain ⟨ac, cc, rfl, -⟩ := Rd.shape rc
  obtain ⟨m0, hm⟩ : ∃ m, A.length = m := ⟨_, rfl⟩
  obtain ⟨n0, hn⟩ : ∃ n, C.length = n := ⟨_, rfl⟩
  obtain ⟨ck, hckE⟩ : ∃ n, chkM A L C ar cx = n := ⟨_, rfl⟩
  simp only [hm, hn, hckE] at hfw hst hrs hck0 hrck0 ⊢
  clear ra rc hm hn hA hC hM rm hMM rcx hau hcx hrl hxl hckE hfe0
  have hE := hidden (Ext.refl w)
  go_enter Tryz.func3, Tryz.ntmps3
  obtain ⟨b, hb⟩ : ∃ p, w.heap.size = p := ⟨_, rfl⟩
  have XN := (Ext.refl w).alloc (.cells #[.slice aa m0 ca, .int .i64 L, .slice ac n0 cc] 25)
  have BN := blk_at1 w [.slice aa m0 ca, .int .i64 L, .slice ac n0 cc] 25 b hb
  obtain ⟨V0, hV0V⟩ : ∃ V, w.alloc (.cells #[.slice aa m0 ca, .int .i64 L, .slice ac n0 cc] 25) = V := ⟨_, rfl⟩
  rw [show (w.alloc (.cells ([.slice aa m0 ca, .int .i64 L, .slice ac n0 cc] : List Value).toArray 25)) = V0 from hV0V] at BN
  rw [hV0V] at XN
  replace hE := hidden (hE.out.trans XN)
  have Bb := hidden BN
  clear BN
  clear XN
  replace hV0V := hidden hV0V
  have hbI := hidden hb
  obtain ⟨d, hd⟩ : ∃ p, V0.heap.size = p := ⟨_, rfl⟩
  have XN := (Ext.refl V0).alloc (.cells #[.slice am rl cm, .slice ax xl cx0] 29)
  have BN := blk_at1 V0 [.slice am rl cm, .slice ax xl cx0] 29 d hd
  obtain ⟨V1, hV1V⟩ : ∃ V, V0.alloc (.cells #[.slice am rl cm, .slice ax xl cx0] 29) = V := ⟨_, rfl⟩
  rw [show (V0.alloc (.cells ([.slice am rl cm, .slice ax xl cx0] : List Value).toArray 29)) = V1 from hV1V] at BN
  rw [hV1V] at XN
  replace Bb := hidden (Bb.out.ext XN)
  replace hE := hidden (hE.out.trans XN)
  have Bd := hidden BN
  clear BN
  clear XN
  replace hV1V := hidden hV1V
  have hd2 : b + 1 = d := by
    have h1 : V0.heap.size = w.heap.size + 1 := by rw [← hV0V.out]; exact Array.size_push ..
    have h2 := hbI.out
    omega
  replace hd2 := hidden hd2
  clear hd
  go_upto_region 1 with fail
  rw [hV0V.out, hV1V.out, hd2.out]
  clear hV0V hV1V hb hbI hd2
  have cb0 := Bb.out.cell 0 _ rfl
  have cb1 := Bb.out.cell 1 _ rfl
  have cb2 := Bb.out.cell 2 _ rfl
  have cd0 := Bd.out.cell 0 _ rfl
  have cd1 := Bd.out.cell 1 _ rfl
  go_wp2_with fail
  refine (hfw.out V1 hE.out).mono ?_
  rintro x w1 ⟨⟨few, rfl, -⟩, hX⟩
  clear cb0 cb1 cb2 cd0 cd1
  replace Bb := hidden (Bb.out.ext hX)
  replace Bd := hidden (Bd.out.ext hX)
  replace hE := hidden (hE.out.trans hX)
  clear hX hfw
  cases few with
  | false =>
    go_wp2_with fail
    refine (haw.out _).mono ?_
    rintro x wz ⟨rfl, hX⟩
    go_wp2_with fail
    go_ret
    exact ⟨rfl, hE.out.trans hX⟩
  | true =>
    have cb0 := Bb.out.cell 0 _ rfl
    have cb1 := Bb.out.cell 1 _ rfl
    have cb2 := Bb.out.cell 2 _ rfl
    have cd0 := Bd.out.cell 0 _ rfl
    have cd1 := Bd.out.cell 1 _ rfl
    go_wp2_with fail
    refine (hfm.out w1 hE.out).mono ?_
    rintro x w2 ⟨⟨fm, rfl, hfm2⟩, hX⟩
    clear cb0 cb1 cb2 cd0 cd1
    replace Bb := hidden (Bb.out.ext hX)
    replace Bd := hidden (Bd.out.ext hX)
    replace hE := hidden (hE.out.trans hX)
    clear hX hfm
    cases fm with
    | false =>
      go_wp2_with fail
      refine (haw.out _).mono ?_
      rintro x wz ⟨rfl, hX⟩
      go_wp2_with fail
      go_ret
      exact ⟨rfl, hE.out.trans hX⟩
    | true =>
      have hal := hfm2 rfl
      have hck := hidden (hck0.out hal)
      have hrck := hidden (hrck0.out hal)
      clear hfm2 hck0 hrck0 hal
      have cb0 := Bb.out.cell 0 _ rfl
      have cb1 := Bb.out.cell 1 _ rfl
      have cb2 := Bb.out.cell 2 _ rfl
      have cd0 := Bd.out.cell 0 _ rfl
      have cd1 := Bd.out.cell 1 _ rfl
      go_wp2_with fail
      refine (hst.out w2 hE.out).mono ?_
      intro x w3 hP
      obtain ⟨a1, a2, c1, c2, rfl, hM1, hX⟩ := start_all hP
      clear hP hst
      clear cb0 cb1 cb2 cd0 cd1
      obtain ⟨fe, hfe⟩ : ∃ f, formE A L C = f := ⟨_, rfl⟩
      rw [hfe] at hM1 ⊢
      obtain ⟨n1, hn1⟩ : ∃ n, (zmA A fe).length = n := ⟨_, rfl⟩
      obtain ⟨n2, hn2⟩ : ∃ n, (zmC fe).length = n := ⟨_, rfl⟩
      rw [hn1, hn2] at hM1 ⊢
      have hfeI := hidden hfe
      have hn1I := hidden hn1
      have hn2I := hidden hn2
      clear hfe hn1 hn2
      replace Bb := hidden (Bb.out.ext hX)
      replace Bd := hidden (Bd.out.ext hX)
      replace hE := hidden (hE.out.trans hX)
      replace hM1 := hidden hM1
      clear hX
      obtain ⟨p, hp⟩ : ∃ p, w3.heap.size = p := ⟨_, rfl⟩
      have XN := (Ext.refl w3).alloc (.cells #[.slice a1 n1 c1, .slice a2 n2 c2] 29)
      have BN := blk_at1 w3 [.slice a1 n1 c1, .slice a2 n2 c2] 29 p hp
      obtain ⟨V3, hV3V⟩ : ∃ V, w3.alloc (.cells #[.slice a1 n1 c1, .slice a2 n2 c2] 29) = V := ⟨_, rfl⟩
      rw [show (w3.alloc (.cells ([.slice a1 n1 c1, .slice a2 n2 c2] : List Value).toArray 29)) = V3 from hV3V] at BN
      rw [hV3V] at XN
      replace Bb := hidden (Bb.out.ext XN)
      replace Bd := hidden (Bd.out.ext XN)
      replace hM1 := hidden (hM1.out.ext XN)
      replace hE := hidden (hE.out.trans XN)
      have Bp := hidden BN
      clear BN
      clear XN
      replace hV3V := hidden hV3V
      go_upto_region 4 with fail
      rw [hV3V.out]
      clear hV3V hp
      have cb0 := Bb.out.cell 0 _ rfl
      have cb1 := Bb.out.cell 1 _ rfl
      have cb2 := Bb.out.cell 2 _ rfl
      go_wp2_with fail
      refine (hrs.out V3 hE.out).mono ?_
      intro x w4 hP
      obtain ⟨g1, g2, h1, h2, rfl, hM2, hX⟩ := start_all hP
      clear hP hrs
      clear cb0 cb1 cb2
      rw [hfeI.out] at hM2 ⊢
      rw [hn1I.out, hn2I.out] at hM2 ⊢
      replace Bb := hidden (Bb.out.ext hX)
      replace Bd := hidden (Bd.out.ext hX)
      replace Bp := hidden (Bp.out.ext hX)
      replace hM1 := hidden (hM1.out.ext hX)
      replace hE := hidden (hE.out.trans hX)
      replace hM2 := hidden hM2
      clear hX
      obtain ⟨q, hq⟩ : ∃ p, w4.heap.size = p := ⟨_, rfl⟩
      have XN := (Ext.refl w4).alloc (.cells #[.slice g1 n1 h1, .slice g2 n2 h2] 29)
      have BN := blk_at1 w4 [.slice g1 n1 h1, .slice g2 n2 h2] 29 q hq
      obtain ⟨V4, hV4V⟩ : ∃ V, w4.alloc (.cells #[.slice g1 n1 h1, .slice g2 n2 h2] 29) = V := ⟨_, rfl⟩
      rw [show (w4.alloc (.cells ([.slice g1 n1 h1, .slice g2 n2 h2] : List Value).toArray 29)) = V4 from hV4V] at BN
      rw [hV4V] at XN
      replace Bb := hidden (Bb.out.ext XN)
      replace Bd := hidden (Bd.out.ext XN)
      replace Bp := hidden (Bp.out.ext XN)
      replace hM1 := hidden (hM1.out.ext XN)
      replace hM2 := hidden (hM2.out.ext XN)
      replace hE := hidden (hE.out.trans XN)
      have Bq := hidden BN
      clear BN
      clear XN
      replace hV4V := hidden hV4V
      go_upto_region 5 with fail
      rw [hV4V.out]
      clear hV4V hq
      have cb0 := Bb.out.cell 0 _ rfl
      have cb1 := Bb.out.cell 1 _ rfl
      have cb2 := Bb.out.cell 2 _ rfl
      have cd0 := Bd.out.cell 0 _ rfl
      have cd1 := Bd.out.cell 1 _ rfl
      have cp0 := Bp.out.cell 0 _ rfl
      have cp1 := Bp.out.cell 1 _ rfl
      have cq0 := Bq.out.cell 0 _ rfl
      have cq1 := Bq.out.cell 1 _ rfl
      refine wp_region_D (S := fun w' => w'.cell? ⟨b, 0, none⟩ = some (.slice aa m0 ca) ∧ w'.cell? ⟨b, 1, none⟩ = some (.int .i64 L) ∧ w'.cell? ⟨b, 2, none⟩ = some (.slice ac n0 cc) ∧ w'.cell? ⟨d, 0, none⟩ = some (.slice am rl cm) ∧ w'.cell? ⟨d, 1, none⟩ = some (.slice ax xl cx0) ∧ w'.cell? ⟨p, 0, none⟩ = some (.slice a1 n1 c1) ∧ w'.cell? ⟨p, 1, none⟩ = some (.slice a2 n2 c2) ∧ w'.cell? ⟨q, 0, none⟩ = some (.slice g1 n1 h1) ∧ w'.cell? ⟨q, 1, none⟩ = some (.slice g2 n2 h2)) (D := []) (by kernel_rfl) ⟨cb0, cb1, cb2, cd0, cd1, cp0, cp1, cq0, cq1⟩ (fun HS0 => ?_)
      have HS := hidden HS0
      clear HS0
      refine takeD 0 [] (.agg #[.slice a1 n1 c1, .slice a2 n2 c2]) rfl rfl (by kernel_rfl) (by kernel_rfl) (by kernel_rfl) (by kernel_rfl) (by decide) (by decide) (fun _ _ _ h => h) (by rfl) (fun w' hw' => by go_simp) HS.out ?_
      try simp only [List.setIfInBounds_toArray, List.set_cons_zero, List.set_cons_succ]
      refine takeD 1 [] (.agg #[.slice g1 n1 h1, .slice g2 n2 h2]) rfl rfl (by kernel_rfl) (by kernel_rfl) (by kernel_rfl) (by kernel_rfl) (by decide) (by decide) (fun _ _ _ h => h) (by rfl) (fun w' hw' => by go_simp) HS.out ?_
      try simp only [List.setIfInBounds_toArray, List.set_cons_zero, List.set_cons_succ]
      have hED := hidden (hE.out.trans (Ext.refl V4).drew)
      refine callVD 2 15 #[.agg #[.slice a1 n1 c1, .slice a2 n2 c2], .agg #[.slice g1 n1 h1, .slice g2 n2 h2]] rfl rfl (by kernel_rfl) (by rfl) (by go_simp) (samemem_any _ _ _ _ _ _ V4.drew (hM1.out.ext (Ext.refl V4).drew) (hM2.out.ext (Ext.refl V4).drew)) ?_
      rintro x w5 ⟨rfl, hXw5⟩
      have HS1 := hidden (And.intro (hXw5.cell (HS.out.1)) (And.intro (hXw5.cell (HS.out.2.1)) (And.intro (hXw5.cell (HS.out.2.2.1)) (And.intro (hXw5.cell (HS.out.2.2.2.1)) (And.intro (hXw5.cell (HS.out.2.2.2.2.1)) (And.intro (hXw5.cell (HS.out.2.2.2.2.2.1)) (And.intro (hXw5.cell (HS.out.2.2.2.2.2.2.1)) (And.intro (hXw5.cell (HS.out.2.2.2.2.2.2.2.1)) (hXw5.cell (HS.out.2.2.2.2.2.2.2.2))))))))))
      have hEw5 := hidden (hED.out.trans hXw5)
      clear hXw5
      refine Or.inl ⟨_, rfl, fun _ => HS1.out, ?_⟩
      try simp only [Act.put, List.setIfInBounds_toArray, List.set_cons_zero, List.set_cons_succ]
      refine takeD 3 [] (.bool true) rfl rfl (by kernel_rfl) (by kernel_rfl) (by kernel_rfl) (by kernel_rfl) (by decide) (by decide) (fun _ _ _ h => h) (by rfl) (fun w' hw' => by go_simp) HS1.out ?_
      try simp only [List.setIfInBounds_toArray, List.set_cons_zero, List.set_cons_succ]
      refine takeD 4 [] (.int .i64 fe) rfl rfl (by kernel_rfl) (by kernel_rfl) (by kernel_rfl) (by kernel_rfl) (by decide) (by decide) (fun _ _ _ h => h) (by rfl) (fun w' hw' => by go_simp) HS1.out ?_
      try simp only [List.setIfInBounds_toArray, List.set_cons_zero, List.set_cons_succ]
      refine takeD 5 [] (.int .i64 fe) rfl rfl (by kernel_rfl) (by kernel_rfl) (by kernel_rfl) (by kernel_rfl) (by decide) (by decide) (fun _ _ _ h => h) (by rfl) (fun w' hw' => by go_simp) HS1.out ?_
      try simp only [List.setIfInBounds_toArray, List.set_cons_zero, List.set_cons_succ]
      refine takeD 6 [] (.bool true) rfl rfl (by kernel_rfl) (by kernel_rfl) (by kernel_rfl) (by kernel_rfl) (by decide) (by decide) (fun _ _ _ h => h) (by rfl) (fun w' hw' => by go_simp) HS1.out ?_
      try simp only [List.setIfInBounds_toArray, List.set_cons_zero, List.set_cons_succ]
      refine takeD 7 [] (.bool true) rfl rfl (by kernel_rfl) (by kernel_rfl) (by kernel_rfl) (by kernel_rfl) (by decide) (by decide) (fun _ _ _ h => h) (by rfl) (fun w' hw' => by go_simp) HS1.out ?_
      try simp only [List.setIfInBounds_toArray, List.set_cons_zero, List.set_cons_succ]
      refine takeD 8 [] (.bool true) rfl rfl (by kernel_rfl) (by kernel_rfl) (by kernel_rfl) (by kernel_rfl) (by decide) (by decide) (fun _ _ _ h => h) (by rfl) (fun w' hw' => by go_simp) HS1.out ?_
      try simp only [List.setIfInBounds_toArray, List.set_cons_zero, List.set_cons_succ]
      refine takeD 9 [] (.agg #[.slice aa m0 ca, .int .i64 L, .slice ac n0 cc]) rfl rfl (by kernel_rfl) (by kernel_rfl) (by kernel_rfl) (by kernel_rfl) (by decide) (by decide) (fun _ _ _ h => h) (by rfl) (fun w' hw' => by go_simp) HS1.out ?_
      try simp only [List.setIfInBounds_toArray, List.set_cons_zero, List.set_cons_succ]
      refine takeD 10 [] (.agg #[.slice am rl cm, .slice ax xl cx0]) rfl rfl (by kernel_rfl) (by kernel_rfl) (by kernel_rfl) (by kernel_rfl) (by decide) (by decide) (fun _ _ _ h => h) (by rfl) (fun w' hw' => by go_simp) HS1.out ?_
      try simp only [List.setIfInBounds_toArray, List.set_cons_zero, List.set_cons_succ]
      refine takeD 12 [] (.agg #[.slice aa m0 ca, .int .i64 L, .slice ac n0 cc]) rfl rfl (by kernel_rfl) (by kernel_rfl) (by kernel_rfl) (by kernel_rfl) (by decide) (by decide) (fun _ _ _ h => h) (by rfl) (fun w' hw' => by go_simp) HS1.out ?_
      try simp only [List.setIfInBounds_toArray, List.set_cons_zero, List.set_cons_succ]
      refine takeD 13 [] (.agg #[.slice am rl cm, .slice ax xl cx0]) rfl rfl (by kernel_rfl) (by kernel_rfl) (by kernel_rfl) (by kernel_rfl) (by decide) (by decide) (fun _ _ _ h => h) (by rfl) (fun w' hw' => by go_simp) HS1.out ?_
      try simp only [List.setIfInBounds_toArray, List.set_cons_zero, List.set_cons_succ]
      refine callVD 11 16 #[.agg #[.slice aa m0 ca, .int .i64 L, .slice ac n0 cc], .agg #[.slice am rl cm, .slice ax xl cx0]] rfl rfl (by kernel_rfl) (by rfl) (by go_simp) (hck.out w5 hEw5.out) ?_
      rintro x w6 ⟨rfl, hXw6⟩
      have HS2 := hidden (And.intro (hXw6.cell (HS1.out.1)) (And.intro (hXw6.cell (HS1.out.2.1)) (And.intro (hXw6.cell (HS1.out.2.2.1)) (And.intro (hXw6.cell (HS1.out.2.2.2.1)) (And.intro (hXw6.cell (HS1.out.2.2.2.2.1)) (And.intro (hXw6.cell (HS1.out.2.2.2.2.2.1)) (And.intro (hXw6.cell (HS1.out.2.2.2.2.2.2.1)) (And.intro (hXw6.cell (HS1.out.2.2.2.2.2.2.2.1)) (hXw6.cell (HS1.out.2.2.2.2.2.2.2.2))))))))))
      have hEw6 := hidden (hEw5.out.trans hXw6)
      clear hXw6
      refine Or.inl ⟨_, rfl, fun _ => HS2.out, ?_⟩
      try simp only [Act.put, List.setIfInBounds_toArray, List.set_cons_zero, List.set_cons_succ]
      refine callVD 14 17 #[.agg #[.slice aa m0 ca, .int .i64 L, .slice ac n0 cc], .agg #[.slice am rl cm, .slice ax xl cx0]] rfl rfl (by kernel_rfl) (by rfl) (by go_simp) (hrck.out w6 hEw6.out) ?_
      rintro x w7 ⟨rfl, hXw7⟩
      have HS3 := hidden (And.intro (hXw7.cell (HS2.out.1)) (And.intro (hXw7.cell (HS2.out.2.1)) (And.intro (hXw7.cell (HS2.out.2.2.1)) (And.intro (hXw7.cell (HS2.out.2.2.2.1)) (And.intro (hXw7.cell (HS2.out.2.2.2.2.1)) (And.intro (hXw7.cell (HS2.out.2.2.2.2.2.1)) (And.intro (hXw7.cell (HS2.out.2.2.2.2.2.2.1)) (And.intro (hXw7.cell (HS2.out.2.2.2.2.2.2.2.1)) (hXw7.cell (HS2.out.2.2.2.2.2.2.2.2))))))))))
      have hEw7 := hidden (hEw6.out.trans hXw7)
      clear hXw7
      refine Or.inl ⟨_, rfl, fun _ => HS3.out, ?_⟩
      try simp only [Act.put, List.setIfInBounds_toArray, List.set_cons_zero, List.set_cons_succ]
      refine takeD 15 [] (.bool true) rfl rfl (by kernel_rfl) (by kernel_rfl) (by kernel_rfl) (by kernel_rfl) (by decide) (by decide) (fun _ _ _ h => h) (by rfl) (fun w' hw' => by go_simp) HS3.out ?_
      try simp only [List.setIfInBounds_toArray, List.set_cons_zero, List.set_cons_succ]
      refine takeD 16 [] (.bool true) rfl rfl (by kernel_rfl) (by kernel_rfl) (by kernel_rfl) (by kernel_rfl) (by decide) (by decide) (fun _ _ _ h => h) (by rfl) (fun w' hw' => by go_simp) HS3.out ?_
      try simp only [List.setIfInBounds_toArray, List.set_cons_zero, List.set_cons_succ]
      refine takeD 17 [] (.bool true) rfl rfl (by kernel_rfl) (by kernel_rfl) (by kernel_rfl) (by kernel_rfl) (by decide) (by decide) (fun _ _ _ h => h) (by rfl) (fun w' hw' => by go_simp) HS3.out ?_
      try simp only [List.setIfInBounds_toArray, List.set_cons_zero, List.set_cons_succ]
      refine callVD 18 12 #[] rfl rfl (by kernel_rfl) (by rfl) (by go_simp) (haw.out w7) ?_
      rintro x w8 ⟨rfl, hXw8⟩
      have HS4 := hidden (And.intro (hXw8.cell (HS3.out.1)) (And.intro (hXw8.cell (HS3.out.2.1)) (And.intro (hXw8.cell (HS3.out.2.2.1)) (And.intro (hXw8.cell (HS3.out.2.2.2.1)) (And.intro (hXw8.cell (HS3.out.2.2.2.2.1)) (And.intro (hXw8.cell (HS3.out.2.2.2.2.2.1)) (And.intro (hXw8.cell (HS3.out.2.2.2.2.2.2.1)) (And.intro (hXw8.cell (HS3.out.2.2.2.2.2.2.2.1)) (hXw8.cell (HS3.out.2.2.2.2.2.2.2.2))))))))))
      have hEw8 := hidden (hEw7.out.trans hXw8)
      clear hXw8
      refine Or.inl ⟨_, rfl, fun _ => HS4.out, ?_⟩
      try simp only [Act.put, List.setIfInBounds_toArray, List.set_cons_zero, List.set_cons_succ]
      refine takeD 19 [] (.bool true) rfl rfl (by kernel_rfl) (by kernel_rfl) (by kernel_rfl) (by kernel_rfl) (by decide) (by decide) (fun _ _ _ h => h) (by rfl) (fun w' hw' => by go_simp) HS4.out ?_
      try simp only [List.setIfInBounds_toArray, List.set_cons_zero, List.set_cons_succ]
      refine valueD 20 (.bool true) rfl rfl (by kernel_rfl) (by rfl) (w' := w8) (by go_simp) (fun _ => HS4.out) ?_
      try simp only [List.setIfInBounds_toArray, List.set_cons_zero, List.set_cons_succ]
      refine wpAnyD_done (by kernel_rfl) ?_ _
      go_wp2_with fail
      go_ret
      exact ⟨rfl, hEw8.out⟩
end Go.Proofs.YtgjjklajipekdaaGreat
