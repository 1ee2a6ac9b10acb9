/- Layer 22: the examples of the chapter. -/
import Derived.Test.YtgjjklajipekdaaYzi
import Derived.Test.YtgjjklajipekdaaYzg
import Derived.Test.YtgjjklajipekdaaIf
namespace Go.Proofs.Ytgjjklajipekdaa
open Go.RowKit
set_option linter.unusedVariables false
set_option linter.unusedSimpArgs false
attribute [local go_sem ↓] Go.wp_at_zero Go.wp_at_succ

theorem rd_none (w : World) (sz : Nat) : Rd w sz (.slice none 0 0) 0 [] := ⟨by simp, none, 0, rfl, Nat.le_refl _, by decide, fun _ => rfl, fun h => absurd h (Nat.lt_irrefl _)⟩
theorem exe_feed {w : World} {E : Env} {R : Out} {x : Ending} {w' : World} (h : ExeP w E R x w') : FeedP w R x w' := by
  unfold ExeP at h
  unfold FeedP
  cases R with
  | error e => exact h
  | ok r =>
    obtain ⟨ar, cx, out, st⟩ := r
    obtain ⟨va, vc, vo, s', e, h1, h2, -, -, -, -, -, h3⟩ := h
    exact ⟨va, vc, vo, e, h1.read, Rd.of_own h2, h3⟩
/-- Run, as far as its result is read. -/
theorem irun2_any (va vc ma mc : Value) (A : List (Bool × Int)) (L : Int) (C : List (Int × Int)) (ar : List (List Int)) (cx : List Int) (inp : Int) (en : Bool) (fu : Int) (hA : OkA A) (hC : OkI C) (hL0 : -9223372036854775808 ≤ L) (hL1 : L ≤ 9223372036854775807)
    (hf0 : -9223372036854775808 ≤ fu) (hf1 : fu ≤ 9223372036854775807) (hi : U32 inp) (hau : ∀ a ∈ ar, ∀ x ∈ a, U32 x) (hcu : ∀ x ∈ cx, U32 x) (hal : ∀ a ∈ ar, a.length ≤ 100000) (w : World) (ra : Arr w va A) (rc : Cod w vc C) (hM : MemR w ma mc ar cx) :
    Calls Try.prog 9 #[.agg #[va, .int .i64 L, vc], .agg #[ma, mc], .agg #[.int .u32 inp, .bool en, .int .i64 fu]] w (FeedP w (runR A L C ar cx inp en fu)) :=
  (irunf_any va vc ma mc A L C ar cx inp en fu hA hC hL0 hL1 hf0 hf1 hi hau hcu hal w ra rc hM).mono fun _ _ h => exe_feed h
theorem cal_err {w : World} {f : Nat} {args : Array Value} {e : Int} (h : Calls Try.prog f args w (FeedP w (.error e))) : Calls Try.prog f args w fun x w' => x = .returned (.tuple #[.agg #[.slice none 0 0, .slice none 0 0, .slice none 0 0, .int .i64 0], .int .i64 e]) ∧ Ext w w' := h
theorem cal_ok {w : World} {f : Nat} {args : Array Value} {ar : List (List Int)} {cx out : List Int} {st : Int} (h : Calls Try.prog f args w (FeedP w (.ok (ar, cx, out, st)))) : Calls Try.prog f args w fun x w' => ∃ va vc vo, x = .returned (.tuple #[.agg #[va, vc, vo, .int .i64 st], .int .i64 0]) ∧ MemR w' va vc ar cx ∧ Rd w' 1 vo out.length (out.map (Value.int .u8)) ∧ Ext w w' := h
/-- Start, as far as its result is read. -/
theorem istart2_any (va vc : Value) (A : List (Bool × Int)) (L : Int) (C : List (Int × Int)) (hA : OkA A) (hC : OkI C) (hL0 : -9223372036854775808 ≤ L) (hL1 : L ≤ 9223372036854775807) (hf : formE A L C = 0) (w : World) (ra : Arr w va A) (rc : Cod w vc C) :
    Calls Try.prog 8 #[.agg #[va, .int .i64 L, vc]] w fun x w' => ∃ ma mc, x = .returned (.tuple #[.agg #[ma, mc], .int .i64 0]) ∧ MemR w' ma mc (zerosA A) (List.replicate 16 0) ∧ Ext w w' := by
  refine (istart_any va vc A L C hA hC hL0 hL1 w ra rc).mono ?_
  intro x w' h
  unfold StartP at h
  rw [if_pos hf] at h
  obtain ⟨ma, mc, e, h1, h2⟩ := h
  exact ⟨ma, mc, e, h1.read, h2⟩
theorem MemR.shape {w : World} {va vc : Value} {ar : List (List Int)} {cx : List Int} (h : MemR w va vc ar cx) (n m : Nat) (h1 : ar.length = n) (h2 : cx.length = m) : ∃ a c a' c', va = .slice a n c ∧ vc = .slice a' m c' := by
  subst h1
  subst h2
  obtain ⟨vs, e1, -, e2⟩ := h
  obtain ⟨a, c, e, -⟩ := Rd.shape e1
  obtain ⟨a', c', e', -⟩ := Rd.shape e2
  exact ⟨a, c, a', c', e, e'⟩
theorem rd_blkY {w : World} {b : Nat} {t : TypeId} {cs : List Value} {sz n : Nat} (h : Blk w b t cs) (hl : cs.length = n * sz) (hn : n ≤ 9223372036854775807) : Rd w sz (.slice (some ⟨b, 0, none⟩) n n) n cs := by
  refine ⟨hl, _, _, rfl, Nat.le_refl _, hn, by simp, fun _ => ⟨_, _, rfl, h.lt, fun j hj => ?_⟩⟩
  rw [Nat.zero_add]
  exact h.cell j _ (by rw [List.getD, List.getElem?_eq_getElem hj]; rfl)
theorem oki_cnt {n : Int} (h0 : 0 ≤ n) (h1 : n ≤ 4294967295) : OkI (cntC n) := by
  intro x hx
  simp only [cntC, List.mem_cons, List.not_mem_nil, or_false] at hx
  rcases hx with rfl | rfl | rfl | rfl | rfl | rfl | rfl | rfl | rfl <;> exact ⟨by simp, by first | exact h0 | decide, by first | exact h1 | decide⟩
theorem oki_div : OkI divC := by unfold OkI; decide
theorem oki_put : OkI putC := by unfold OkI; decide
theorem oka_nil : OkA [] := fun _ h => by cases h
theorem u32_zeros (n : Nat) : ∀ x ∈ List.replicate n (0 : Int), U32 x := fun x hx => by rw [List.eq_of_mem_replicate hx]; exact ⟨by decide, by decide⟩
set_option maxHeartbeats 4000000 in
set_option maxRecDepth 100000 in
theorem lcounting_any (n : Int) (h0 : 0 ≤ n) (h1 : n ≤ 4294967295) (w : World) :
    Calls Try.prog 7 #[.int .i64 n] w fun x w' => ∃ vc, x = .returned (.agg #[.slice none 0 0, .int .i64 1, vc]) ∧ Cod w' vc (cntC n) ∧ Ext w w' := by
  obtain ⟨b, hb⟩ : ∃ b, w.heap.size = b := ⟨_, rfl⟩
  have X1 := (Ext.refl w).alloc (.cells #[.slice none 0 0, .int .i64 0, .slice none 0 0] 29)
  have B1 := blk_at1 w [.slice none 0 0, .int .i64 0, .slice none 0 0] 29 b hb
  obtain ⟨W1, hW1⟩ : ∃ W, w.alloc (.cells #[.slice none 0 0, .int .i64 0, .slice none 0 0] 29) = W := ⟨_, rfl⟩
  rw [show (w.alloc (.cells ([.slice none 0 0, .int .i64 0, .slice none 0 0] : List Value).toArray 29)) = W1 from hW1] at B1
  rw [hW1] at X1
  have X2 := (Ext.refl W1).alloc (.cells #[.int .i64 0, .int .i64 n, .int .i64 29, .int .i64 0, .int .i64 1, .int .i64 0, .int .i64 34, .int .i64 0, .int .i64 1, .int .i64 0, .int .i64 0, .int .i64 1, .int .i64 8, .int .i64 0, .int .i64 2, .int .i64 0, .int .i64 31, .int .i64 0] 3)
  have hR : Rd _ 1 _ 18 _ := rd_newc W1 [.int .i64 0, .int .i64 n, .int .i64 29, .int .i64 0, .int .i64 1, .int .i64 0, .int .i64 34, .int .i64 0, .int .i64 1, .int .i64 0, .int .i64 0, .int .i64 1, .int .i64 8, .int .i64 0, .int .i64 2, .int .i64 0, .int .i64 31, .int .i64 0] 3 1 18 rfl (by decide)
  have hcl := hidden (lcode_any 1 _ (cntC n) (by intro x hx; simp only [cntC, List.mem_cons, List.not_mem_nil, or_false] at hx; rcases hx with rfl | rfl | rfl | rfl | rfl | rfl | rfl | rfl | rfl <;> exact ⟨by first | exact h0 | decide, by first | exact h1 | decide⟩) (by simp [cntC]) _ (show Rd _ 1 _ (2 * (cntC n).length) ((cntC n).flatMap cL) from hR))
  have X12 := hidden (X1.trans X2)
  have B1I := hidden B1
  clear hR X2 B1
  go_enter Try.func7, Try.ntmps7
  go_upto_region 1 with fail
  (try rw [hW1])
  go_wp2_with fail
  refine hcl.out.mono ?_
  rintro x w2 ⟨vc, rfl, hO, hX⟩
  obtain ⟨ac, cc, rfl, -⟩ := own_shape (show w2.ownsRow _ 25 2 vc 9 _ from hO)
  have hB := B1I.out.ext (((Ext.refl W1).alloc (.cells #[.int .i64 0, .int .i64 n, .int .i64 29, .int .i64 0, .int .i64 1, .int .i64 0, .int .i64 34, .int .i64 0, .int .i64 1, .int .i64 0, .int .i64 0, .int .i64 1, .int .i64 8, .int .i64 0, .int .i64 2, .int .i64 0, .int .i64 31, .int .i64 0] 3)).trans hX)
  have f0 := hB.frozen 0
  have f1 := hB.frozen 1
  have f2 := hB.frozen 2
  have g0 := hB.cell 0 _ rfl
  have g1 := hB.cell 1 _ rfl
  have g2 := hB.cell 2 _ rfl
  have hBI := hidden hB
  have hOI := hidden hO
  have hXI := hidden (X12.out.trans hX)
  clear hB hO hX hW1 X1 hcl
  go_wp2_with fail
  have hB5 := ((hBI.out.set 0 (.slice none 0 0)).set 1 (.int .i64 1)).set 2 (.slice ac 9 cc)
  have c5 : Chg [b] w2 (((w2.setCell ⟨b, 0, none⟩ (.slice none 0 0)).setCell ⟨b, 1, none⟩ (.int .i64 1)).setCell ⟨b, 2, none⟩ (.slice ac 9 cc)) := (((Chg.refl _ _).setCell (Or.inl (by simp)) _).setCell (Or.inl (by simp)) _).setCell (Or.inl (by simp)) _
  have z0 := hB5.cell 0 _ rfl
  have z1 := hB5.cell 1 _ rfl
  have z2 := hB5.cell 2 _ rfl
  refine bodyPost_ret (v := .agg #[.slice none 0 0, .int .i64 1, .slice ac 9 cc]) (by simp [results, Try.results7, go_sem, z0, z1, z2]) rfl ?_
  have hk : b + 1 ≤ (W1.alloc (.cells #[.int .i64 0, .int .i64 n, .int .i64 29, .int .i64 0, .int .i64 1, .int .i64 0, .int .i64 34, .int .i64 0, .int .i64 1, .int .i64 0, .int .i64 0, .int .i64 1, .int .i64 8, .int .i64 0, .int .i64 2, .int .i64 0, .int .i64 31, .int .i64 0] 3)).heap.size := by
    have := (B1I.out.ext ((Ext.refl W1).alloc (.cells #[.int .i64 0, .int .i64 n, .int .i64 29, .int .i64 0, .int .i64 1, .int .i64 0, .int .i64 34, .int .i64 0, .int .i64 1, .int .i64 0, .int .i64 0, .int .i64 1, .int .i64 8, .int .i64 0, .int .i64 2, .int .i64 0, .int .i64 31, .int .i64 0] 3))).lt
    exact this
  exact ⟨_, rfl, Rd.of_own (own_low hOI.out c5 (fun x hx => by rw [List.mem_singleton.1 hx]; omega)), ((hXI.out.setCell (p := ⟨b, 0, none⟩) (Nat.le_of_eq hb) _).setCell (p := ⟨b, 1, none⟩) (Nat.le_of_eq hb) _).setCell (p := ⟨b, 2, none⟩) (Nat.le_of_eq hb) _⟩
set_option maxHeartbeats 4000000 in
set_option maxRecDepth 100000 in
theorem awake_any (w : World) : Calls Try.prog 4 #[] w fun x w' => x = .returned (.bool true) ∧ Ext w w' := by
  go_enter Try.func4, Try.ntmps4
  go_wp2_with fail
  refine (lcounting_any 3 (by decide) (by decide) w).mono ?_
  rintro x w1 ⟨vc, rfl, hC, hX⟩
  obtain ⟨ac, cc, rfl, -⟩ := Rd.shape (show Rd w1 2 vc 9 _ from hC)
  replace hC := hidden hC
  have hE := hidden hX
  clear hX
  obtain ⟨p, hp⟩ : ∃ p, w1.heap.size = p := ⟨_, rfl⟩
  have XN := (Ext.refl w1).alloc (.cells #[.slice none 0 0, .int .i64 1, .slice ac 9 cc] 29)
  have BN := blk_at1 w1 [.slice none 0 0, .int .i64 1, .slice ac 9 cc] 29 p hp
  obtain ⟨V1, hV1V⟩ : ∃ V, w1.alloc (.cells #[.slice none 0 0, .int .i64 1, .slice ac 9 cc] 29) = V := ⟨_, rfl⟩
  rw [show (w1.alloc (.cells ([.slice none 0 0, .int .i64 1, .slice ac 9 cc] : List Value).toArray 29)) = V1 from hV1V] at BN
  rw [hV1V] at XN
  replace hE := hidden (hE.out.trans XN)
  have Bp := hidden BN
  replace XN := hidden XN
  replace hV1V := hidden hV1V
  clear BN
  go_upto_region 2 with fail
  rw [hV1V.out]
  clear hV1V hp
  replace hC := hidden (Rd.ext hC.out XN.out : Cod _ _ _)
  clear XN
  have cp0 := Bp.out.cell 0 _ rfl
  have cp1 := Bp.out.cell 1 _ rfl
  have cp2 := Bp.out.cell 2 _ rfl
  have hst := hidden (istart2_any (.slice none 0 0) (.slice ac 9 cc) [] 1 (cntC 3) oka_nil (oki_cnt (by decide) (by decide)) (by decide) (by decide) form_cnt V1 (rd_none _ _) hC.out)
  go_wp2_with fail
  refine hst.out.mono ?_
  rintro x w2 ⟨ma, mc, rfl, hM, hX⟩
  obtain ⟨am, cm, ax, cx, rfl, rfl⟩ := hM.shape 0 16 rfl rfl
  clear cp0 cp1 cp2
  replace Bp := hidden (Bp.out.ext hX)
  replace hE := hidden (hE.out.trans hX)
  replace hC := hidden (Rd.ext hC.out hX : Cod _ _ _)
  replace hM := hidden hM
  clear hX hst
  obtain ⟨m, hm⟩ : ∃ p, w2.heap.size = p := ⟨_, rfl⟩
  have XN := (Ext.refl w2).alloc (.cells #[.slice am 0 cm, .slice ax 16 cx] 36)
  have BN := blk_at1 w2 [.slice am 0 cm, .slice ax 16 cx] 36 m hm
  obtain ⟨V2, hV2V⟩ : ∃ V, w2.alloc (.cells #[.slice am 0 cm, .slice ax 16 cx] 36) = V := ⟨_, rfl⟩
  rw [show (w2.alloc (.cells ([.slice am 0 cm, .slice ax 16 cx] : List Value).toArray 36)) = V2 from hV2V] at BN
  rw [hV2V] at XN
  replace Bp := hidden (Bp.out.ext XN)
  replace hE := hidden (hE.out.trans XN)
  have Bm := hidden BN
  replace XN := hidden XN
  replace hV2V := hidden hV2V
  clear BN
  go_upto_region 3 with fail
  rw [hV2V.out]
  clear hV2V hm
  replace hC := hidden (Rd.ext hC.out XN.out : Cod _ _ _)
  replace hM := hidden (hM.out.ext XN.out)
  clear XN
  have cp0 := Bp.out.cell 0 _ rfl
  have cp1 := Bp.out.cell 1 _ rfl
  have cp2 := Bp.out.cell 2 _ rfl
  have cm0 := Bm.out.cell 0 _ rfl
  have cm1 := Bm.out.cell 1 _ rfl
  have hru := hidden (irun2_any (.slice none 0 0) (.slice ac 9 cc) (.slice am 0 cm) (.slice ax 16 cx) [] 1 (cntC 3) [] (List.replicate 16 0) 0 false 100 oka_nil (oki_cnt (by decide) (by decide)) (by decide) (by decide) (by decide) (by decide) ⟨by decide, by decide⟩ (fun _ h => by cases h) (u32_zeros 16) (fun _ h => by cases h) V2 (rd_none _ _) hC.out hM.out)
  rw [ex_cnt] at hru
  replace hru := hidden (cal_ok hru.out)
  go_wp2_with fail
  refine hru.out.mono ?_
  rintro x w3 ⟨ra, rc, ro, rfl, hRm, hRo, hX⟩
  obtain ⟨am, cm, ax, cx, rfl, rfl⟩ := hRm.shape 0 16 rfl rfl
  obtain ⟨ao, co, rfl, -⟩ := Rd.shape (show Rd w3 1 ro 3 _ from hRo)
  clear hRm
  clear cp0 cp1 cp2 cm0 cm1
  replace Bp := hidden (Bp.out.ext hX)
  replace Bm := hidden (Bm.out.ext hX)
  replace hE := hidden (hE.out.trans hX)
  replace hRo := hidden hRo
  clear hX hru hC hM Bp Bm
  obtain ⟨r, hr⟩ : ∃ p, w3.heap.size = p := ⟨_, rfl⟩
  have XN := (Ext.refl w3).alloc (.cells #[.slice am 0 cm, .slice ax 16 cx, .slice ao 3 co, .int .i64 23] 39)
  have BN := blk_at1 w3 [.slice am 0 cm, .slice ax 16 cx, .slice ao 3 co, .int .i64 23] 39 r hr
  obtain ⟨V3, hV3V⟩ : ∃ V, w3.alloc (.cells #[.slice am 0 cm, .slice ax 16 cx, .slice ao 3 co, .int .i64 23] 39) = V := ⟨_, rfl⟩
  rw [show (w3.alloc (.cells ([.slice am 0 cm, .slice ax 16 cx, .slice ao 3 co, .int .i64 23] : List Value).toArray 39)) = V3 from hV3V] at BN
  rw [hV3V] at XN
  replace hE := hidden (hE.out.trans XN)
  have Br := hidden BN
  replace XN := hidden XN
  replace hV3V := hidden hV3V
  clear BN
  go_upto_region 4 with fail
  rw [hV3V.out]
  clear hV3V hr
  replace hRo := hidden (hRo.out.ext XN.out)
  clear XN
  have XL := (Ext.refl V3).alloc (.cells #[.int .i64 0, .int .i64 1, .int .i64 0, .int .i64 0, .int .i64 11, .int .i64 0] 3)
  have hR : Rd _ 1 _ 6 _ := rd_newc V3 [.int .i64 0, .int .i64 1, .int .i64 0, .int .i64 0, .int .i64 11, .int .i64 0] 3 1 6 rfl (by decide)
  have hcl := hidden (lcode_any 0 _ divC (by unfold U32; decide) (by decide) _ (show Rd _ 1 _ (2 * divC.length) (divC.flatMap cL) from hR))
  clear hR
  replace XL := hidden XL
  go_wp2_with fail
  refine hcl.out.mono ?_
  rintro x w4 ⟨vc, rfl, hC, hX⟩
  obtain ⟨ac, cc, rfl, -⟩ := own_shape (show World.ownsRow _ _ 25 2 vc 3 _ from hC)
  replace hX := XL.out.trans hX
  replace Br := hidden (Br.out.ext hX)
  replace hE := hidden (hE.out.trans hX)
  replace hC := hidden (show Cod _ (.slice ac 3 cc) divC from Rd.of_own hC)
  replace hRo := hidden (hRo.out.ext hX)
  clear hX hcl XL
  obtain ⟨d, hd⟩ : ∃ p, w4.heap.size = p := ⟨_, rfl⟩
  have XN := (Ext.refl w4).alloc (.cells #[.slice none 0 0, .int .i64 0, .slice ac 3 cc] 29)
  have BN := blk_at1 w4 [.slice none 0 0, .int .i64 0, .slice ac 3 cc] 29 d hd
  obtain ⟨V4, hV4V⟩ : ∃ V, w4.alloc (.cells #[.slice none 0 0, .int .i64 0, .slice ac 3 cc] 29) = V := ⟨_, rfl⟩
  rw [show (w4.alloc (.cells ([.slice none 0 0, .int .i64 0, .slice ac 3 cc] : List Value).toArray 29)) = V4 from hV4V] at BN
  rw [hV4V] at XN
  replace Br := hidden (Br.out.ext XN)
  replace hE := hidden (hE.out.trans XN)
  have Bd := hidden BN
  replace XN := hidden XN
  replace hV4V := hidden hV4V
  clear BN
  go_upto_region 5 with fail
  rw [hV4V.out]
  clear hV4V hd
  replace hC := hidden (Rd.ext hC.out XN.out : Cod _ _ _)
  replace hRo := hidden (hRo.out.ext XN.out)
  clear XN
  have cd0 := Bd.out.cell 0 _ rfl
  have cd1 := Bd.out.cell 1 _ rfl
  have cd2 := Bd.out.cell 2 _ rfl
  have hst := hidden (istart2_any (.slice none 0 0) (.slice ac 3 cc) [] 0 divC oka_nil oki_div (by decide) (by decide) form_div V4 (rd_none _ _) hC.out)
  go_wp2_with fail
  refine hst.out.mono ?_
  rintro x w5 ⟨ma, mc, rfl, hM, hX⟩
  obtain ⟨am, cm, ax, cx, rfl, rfl⟩ := hM.shape 0 16 rfl rfl
  clear cd0 cd1 cd2
  replace Br := hidden (Br.out.ext hX)
  replace Bd := hidden (Bd.out.ext hX)
  replace hE := hidden (hE.out.trans hX)
  replace hC := hidden (Rd.ext hC.out hX : Cod _ _ _)
  replace hM := hidden hM
  replace hRo := hidden (hRo.out.ext hX)
  clear hX hst
  obtain ⟨n, hn⟩ : ∃ p, w5.heap.size = p := ⟨_, rfl⟩
  have XN := (Ext.refl w5).alloc (.cells #[.slice am 0 cm, .slice ax 16 cx] 36)
  have BN := blk_at1 w5 [.slice am 0 cm, .slice ax 16 cx] 36 n hn
  obtain ⟨V5, hV5V⟩ : ∃ V, w5.alloc (.cells #[.slice am 0 cm, .slice ax 16 cx] 36) = V := ⟨_, rfl⟩
  rw [show (w5.alloc (.cells ([.slice am 0 cm, .slice ax 16 cx] : List Value).toArray 36)) = V5 from hV5V] at BN
  rw [hV5V] at XN
  replace Br := hidden (Br.out.ext XN)
  replace Bd := hidden (Bd.out.ext XN)
  replace hE := hidden (hE.out.trans XN)
  have Bn := hidden BN
  replace XN := hidden XN
  replace hV5V := hidden hV5V
  clear BN
  go_upto_region 6 with fail
  rw [hV5V.out]
  clear hV5V hn
  replace hC := hidden (Rd.ext hC.out XN.out : Cod _ _ _)
  replace hM := hidden (hM.out.ext XN.out)
  replace hRo := hidden (hRo.out.ext XN.out)
  clear XN
  have cd0 := Bd.out.cell 0 _ rfl
  have cd1 := Bd.out.cell 1 _ rfl
  have cd2 := Bd.out.cell 2 _ rfl
  have cn0 := Bn.out.cell 0 _ rfl
  have cn1 := Bn.out.cell 1 _ rfl
  have hru := hidden (irun2_any (.slice none 0 0) (.slice ac 3 cc) (.slice am 0 cm) (.slice ax 16 cx) [] 0 divC [] (List.replicate 16 0) 0 false 3 oka_nil oki_div (by decide) (by decide) (by decide) (by decide) ⟨by decide, by decide⟩ (fun _ h => by cases h) (u32_zeros 16) (fun _ h => by cases h) V5 (rd_none _ _) hC.out hM.out)
  rw [ex_div] at hru
  replace hru := hidden (cal_err hru.out)
  go_wp2_with fail
  refine hru.out.mono ?_
  rintro x w6 ⟨rfl, hX⟩
  clear cd0 cd1 cd2 cn0 cn1
  replace Br := hidden (Br.out.ext hX)
  replace Bd := hidden (Bd.out.ext hX)
  replace Bn := hidden (Bn.out.ext hX)
  replace hE := hidden (hE.out.trans hX)
  replace hC := hidden (Rd.ext hC.out hX : Cod _ _ _)
  replace hM := hidden (hM.out.ext hX)
  replace hRo := hidden (hRo.out.ext hX)
  clear hX hru
  obtain ⟨e1, he1⟩ : ∃ p, w6.heap.size = p := ⟨_, rfl⟩
  have XN := (Ext.refl w6).alloc (.cells #[.slice none 0 0, .slice none 0 0, .slice none 0 0, .int .i64 0] 39)
  have BN := blk_at1 w6 [.slice none 0 0, .slice none 0 0, .slice none 0 0, .int .i64 0] 39 e1 he1
  obtain ⟨V6, hV6V⟩ : ∃ V, w6.alloc (.cells #[.slice none 0 0, .slice none 0 0, .slice none 0 0, .int .i64 0] 39) = V := ⟨_, rfl⟩
  rw [show (w6.alloc (.cells ([.slice none 0 0, .slice none 0 0, .slice none 0 0, .int .i64 0] : List Value).toArray 39)) = V6 from hV6V] at BN
  rw [hV6V] at XN
  replace Br := hidden (Br.out.ext XN)
  replace Bd := hidden (Bd.out.ext XN)
  replace Bn := hidden (Bn.out.ext XN)
  replace hE := hidden (hE.out.trans XN)
  have Be1 := hidden BN
  replace XN := hidden XN
  replace hV6V := hidden hV6V
  clear BN
  clear Be1
  go_upto_region 7 with fail
  rw [hV6V.out]
  clear hV6V he1
  replace hC := hidden (Rd.ext hC.out XN.out : Cod _ _ _)
  replace hM := hidden (hM.out.ext XN.out)
  replace hRo := hidden (hRo.out.ext XN.out)
  clear XN
  have cd0 := Bd.out.cell 0 _ rfl
  have cd1 := Bd.out.cell 1 _ rfl
  have cd2 := Bd.out.cell 2 _ rfl
  have cn0 := Bn.out.cell 0 _ rfl
  have cn1 := Bn.out.cell 1 _ rfl
  have hru := hidden (irun2_any (.slice none 0 0) (.slice ac 3 cc) (.slice am 0 cm) (.slice ax 16 cx) [] 0 divC [] (List.replicate 16 0) 0 false 2 oka_nil oki_div (by decide) (by decide) (by decide) (by decide) ⟨by decide, by decide⟩ (fun _ h => by cases h) (u32_zeros 16) (fun _ h => by cases h) V6 (rd_none _ _) hC.out hM.out)
  rw [ex_div2] at hru
  replace hru := hidden (cal_err hru.out)
  go_wp2_with fail
  refine hru.out.mono ?_
  rintro x w7 ⟨rfl, hX⟩
  clear cd0 cd1 cd2 cn0 cn1
  replace Br := hidden (Br.out.ext hX)
  replace Bd := hidden (Bd.out.ext hX)
  replace Bn := hidden (Bn.out.ext hX)
  replace hE := hidden (hE.out.trans hX)
  replace hC := hidden (Rd.ext hC.out hX : Cod _ _ _)
  replace hM := hidden (hM.out.ext hX)
  replace hRo := hidden (hRo.out.ext hX)
  clear hX hru
  obtain ⟨e2, he2⟩ : ∃ p, w7.heap.size = p := ⟨_, rfl⟩
  have XN := (Ext.refl w7).alloc (.cells #[.slice none 0 0, .slice none 0 0, .slice none 0 0, .int .i64 0] 39)
  have BN := blk_at1 w7 [.slice none 0 0, .slice none 0 0, .slice none 0 0, .int .i64 0] 39 e2 he2
  obtain ⟨V7, hV7V⟩ : ∃ V, w7.alloc (.cells #[.slice none 0 0, .slice none 0 0, .slice none 0 0, .int .i64 0] 39) = V := ⟨_, rfl⟩
  rw [show (w7.alloc (.cells ([.slice none 0 0, .slice none 0 0, .slice none 0 0, .int .i64 0] : List Value).toArray 39)) = V7 from hV7V] at BN
  rw [hV7V] at XN
  replace Br := hidden (Br.out.ext XN)
  replace Bd := hidden (Bd.out.ext XN)
  replace Bn := hidden (Bn.out.ext XN)
  replace hE := hidden (hE.out.trans XN)
  have Be2 := hidden BN
  replace XN := hidden XN
  replace hV7V := hidden hV7V
  clear BN
  clear Be2
  go_upto_region 8 with fail
  rw [hV7V.out]
  clear hV7V he2
  replace hRo := hidden (hRo.out.ext XN.out)
  clear XN hC hM Bd Bn
  have XL := (Ext.refl V7).alloc (.cells #[.int .i64 0, .int .i64 1, .int .i64 0, .int .i64 300, .int .i64 4, .int .i64 0] 3)
  have hR : Rd _ 1 _ 6 _ := rd_newc V7 [.int .i64 0, .int .i64 1, .int .i64 0, .int .i64 300, .int .i64 4, .int .i64 0] 3 1 6 rfl (by decide)
  have hcl := hidden (lcode_any 0 _ putC (by unfold U32; decide) (by decide) _ (show Rd _ 1 _ (2 * putC.length) (putC.flatMap cL) from hR))
  clear hR
  replace XL := hidden XL
  go_wp2_with fail
  refine hcl.out.mono ?_
  rintro x w8 ⟨vc, rfl, hC, hX⟩
  obtain ⟨ac, cc, rfl, -⟩ := own_shape (show World.ownsRow _ _ 25 2 vc 3 _ from hC)
  replace hX := XL.out.trans hX
  replace Br := hidden (Br.out.ext hX)
  replace hE := hidden (hE.out.trans hX)
  replace hC := hidden (show Cod _ (.slice ac 3 cc) putC from Rd.of_own hC)
  replace hRo := hidden (hRo.out.ext hX)
  clear hX hcl XL
  obtain ⟨u, hu⟩ : ∃ p, w8.heap.size = p := ⟨_, rfl⟩
  have XN := (Ext.refl w8).alloc (.cells #[.slice none 0 0, .int .i64 0, .slice ac 3 cc] 29)
  have BN := blk_at1 w8 [.slice none 0 0, .int .i64 0, .slice ac 3 cc] 29 u hu
  obtain ⟨V8, hV8⟩ : ∃ V, w8.alloc (.cells #[.slice none 0 0, .int .i64 0, .slice ac 3 cc] 29) = V := ⟨_, rfl⟩
  rw [show (w8.alloc (.cells ([.slice none 0 0, .int .i64 0, .slice ac 3 cc] : List Value).toArray 29)) = V8 from hV8] at BN
  rw [hV8] at XN
  replace BN := hidden BN
  replace XN := hidden XN
  replace hV8 := hidden hV8
  go_upto_region 9 with fail
  rw [hV8.out]
  clear hV8
  obtain ⟨q, hq⟩ : ∃ p, V8.heap.size = p := ⟨_, rfl⟩
  have XQ := (Ext.refl V8).alloc (.cells #[.bool false, .int .i64 2] 51)
  have BQ := blk_at1 V8 [.bool false, .int .i64 2] 51 q hq
  have BU := BN.out.ext XQ
  have k0 := BU.cell 0 _ rfl
  have k1 := BU.cell 1 _ rfl
  have k2 := BU.cell 2 _ rfl
  have l0 := BU.frozen 0
  have BQ2 := BQ.chg (((Chg.refl [u] _).setCell (p := ⟨u, 0, none⟩) (Or.inl (by simp)) (.slice (some ⟨q, 0, none⟩) 1 1))) (by have := BN.out.lt; simp; omega)
  have BU2 := BU.set 0 (.slice (some ⟨q, 0, none⟩) 1 1)
  have X9 := (XN.out.trans XQ).setCell (p := ⟨u, 0, none⟩) (Nat.le_of_eq hu) (.slice (some ⟨q, 0, none⟩) 1 1)
  replace BQ2 := hidden BQ2
  replace BU2 := hidden BU2
  replace X9 := hidden X9
  clear BQ BU BN XQ
  go_upto_region 10 with fail
  obtain ⟨V9, hV9⟩ : ∃ V, (V8.alloc (.cells #[.bool false, .int .i64 2] 51)).setCell ⟨u, 0, none⟩ (.slice (some ⟨q, 0, none⟩) 1 1) = V := ⟨_, rfl⟩
  have BQ := BQ2.out
  have BU := BU2.out
  have X9' := X9.out
  rw [show (V8.alloc (.cells ([.bool false, .int .i64 2] : List Value).toArray 51)) = V8.alloc (.cells #[.bool false, .int .i64 2] 51) from rfl, hV9] at BQ
  rw [hV9] at BU X9' ⊢
  clear hV9 k0 k1 k2 l0 BQ2 BU2 X9 hq hu
  clear XN
  replace Br := hidden (Br.out.ext X9')
  replace hE := hidden (hE.out.trans X9')
  replace hC := hidden (Rd.ext hC.out X9' : Cod _ _ _)
  replace hRo := hidden (hRo.out.ext X9')
  have hAr : Arr V9 (.slice (some ⟨q, 0, none⟩) 1 1) [(false, 2)] := rd_blkY (n := 1) (sz := 2) BQ rfl (by decide)
  have k0 := BU.cell 0 _ rfl
  have k1 := BU.cell 1 _ rfl
  have k2 := BU.cell 2 _ rfl
  have hfe := hidden (ifeed_any (.slice (some ⟨q, 0, none⟩) 1 1) (.slice ac 3 cc) (.slice none 0 0) [(false, 2)] 0 putC [] 3 (by unfold OkA; decide) oki_put (by decide) (by decide) (by decide) (by decide) (fun _ h => by cases h) V9 hAr hC.out (rd_none _ _))
  rw [ex_put] at hfe
  replace hfe := hidden (cal_ok hfe.out)
  clear X9' BQ BU hAr
  go_wp2_with fail
  refine hfe.out.mono ?_
  rintro x w10 ⟨va, vx, vo, rfl, hM, hVo, hX⟩
  obtain ⟨am, cm, ax, cx, rfl, rfl⟩ := hM.shape 1 16 rfl rfl
  obtain ⟨av, cv, rfl, -⟩ := Rd.shape (show Rd w10 1 vo 0 _ from hVo)
  clear hfe k0 k1 k2 hC hVo
  replace Br := hidden (Br.out.ext hX)
  replace hE := hidden (hE.out.trans hX)
  replace hRo := hidden (hRo.out.ext hX)
  replace hM := hidden hM
  clear hX
  obtain ⟨k, hk⟩ : ∃ p, w10.heap.size = p := ⟨_, rfl⟩
  have XN := (Ext.refl w10).alloc (.cells #[.slice am 1 cm, .slice ax 16 cx, .slice av 0 cv, .int .i64 3] 39)
  have BN := blk_at1 w10 [.slice am 1 cm, .slice ax 16 cx, .slice av 0 cv, .int .i64 3] 39 k hk
  obtain ⟨V10, hV10V⟩ : ∃ V, w10.alloc (.cells #[.slice am 1 cm, .slice ax 16 cx, .slice av 0 cv, .int .i64 3] 39) = V := ⟨_, rfl⟩
  rw [show (w10.alloc (.cells ([.slice am 1 cm, .slice ax 16 cx, .slice av 0 cv, .int .i64 3] : List Value).toArray 39)) = V10 from hV10V] at BN
  rw [hV10V] at XN
  replace Br := hidden (Br.out.ext XN)
  replace hE := hidden (hE.out.trans XN)
  have Bk := hidden BN
  replace XN := hidden XN
  replace hV10V := hidden hV10V
  clear BN
  go_upto_region 11 with fail
  rw [hV10V.out]
  clear hV10V hk
  replace hRo := hidden (hRo.out.ext XN.out)
  replace hM := hidden (hM.out.ext XN.out)
  clear XN
  have ck0 := Bk.out.cell 0 _ rfl
  have ck1 := Bk.out.cell 1 _ rfl
  have ck2 := Bk.out.cell 2 _ rfl
  have ck3 := Bk.out.cell 3 _ rfl
  have cr0 := Br.out.cell 0 _ rfl
  have cr1 := Br.out.cell 1 _ rfl
  have cr2 := Br.out.cell 2 _ rfl
  have cr3 := Br.out.cell 3 _ rfl
  have X8 := (Ext.refl V10).alloc (.cells #[.int .u8 0, .int .u8 1, .int .u8 2] 5)
  have heq := hidden (eq8_any (.slice ao 3 co) (.slice (some ⟨V10.heap.size, 0, none⟩) 3 3) [0, 1, 2] [0, 1, 2] _ (hRo.out.ext X8) (rd_newc V10 [.int .u8 0, .int .u8 1, .int .u8 2] 5 1 3 rfl (by decide)))
  replace X8 := hidden X8
  go_wp2_with fail
  refine heq.out.mono ?_
  rintro x w11 ⟨rfl, hX⟩
  replace hX := X8.out.trans hX
  simp only [decide_true]
  clear heq X8
  clear ck0 ck1 ck2 ck3 cr0 cr1 cr2 cr3
  replace Br := hidden (Br.out.ext hX)
  replace Bk := hidden (Bk.out.ext hX)
  replace hE := hidden (hE.out.trans hX)
  replace hM := hM.out.ext hX
  clear hX hRo
  obtain ⟨vs, m1, m2, -⟩ := hM
  obtain ⟨v0, rfl⟩ : ∃ v, vs = [v] := by
    have := m1.1
    match vs, this with
    | [v], _ => exact ⟨v, rfl⟩
  have m3 := m2 0 v0 [0, 44] rfl rfl
  obtain ⟨a0, c0, rfl, -⟩ := Rd.shape (show Rd w11 1 v0 2 _ from m3)
  obtain ⟨mb, mo, rfl, -, -⟩ := Rd.cells (cs := [.slice a0 2 c0]) (w := w11) (sz := 1) m1 (show 0 < 1 by decide)
  have n0 := rd_at m1 0 _ rfl
  rw [Nat.add_zero] at n0
  have ck0 := Bk.out.cell 0 _ rfl
  have ck1 := Bk.out.cell 1 _ rfl
  have ck2 := Bk.out.cell 2 _ rfl
  have ck3 := Bk.out.cell 3 _ rfl
  have cr0 := Br.out.cell 0 _ rfl
  have cr1 := Br.out.cell 1 _ rfl
  have cr2 := Br.out.cell 2 _ rfl
  have cr3 := Br.out.cell 3 _ rfl
  have X8 := (Ext.refl w11).alloc (.cells #[.int .u32 0, .int .u32 44] 22)
  have heq := hidden (eq32_any (.slice a0 2 c0) (.slice (some ⟨w11.heap.size, 0, none⟩) 2 2) [0, 44] [0, 44] _ (Rd.ext m3 X8) (rd_newc w11 [.int .u32 0, .int .u32 44] 22 1 2 rfl (by decide)))
  replace X8 := hidden X8
  clear m1 m2 m3
  go_wp2_with fail
  refine heq.out.mono ?_
  rintro x w12 ⟨rfl, hX⟩
  replace hX := X8.out.trans hX
  simp only [decide_true]
  clear heq X8 n0
  clear ck0 ck1 ck2 ck3 cr0 cr1 cr2 cr3
  replace Br := hidden (Br.out.ext hX)
  replace Bk := hidden (Bk.out.ext hX)
  replace hE := hidden (hE.out.trans hX)
  clear hX
  have ck0 := Bk.out.cell 0 _ rfl
  have ck1 := Bk.out.cell 1 _ rfl
  have ck2 := Bk.out.cell 2 _ rfl
  have ck3 := Bk.out.cell 3 _ rfl
  have cr0 := Br.out.cell 0 _ rfl
  have cr1 := Br.out.cell 1 _ rfl
  have cr2 := Br.out.cell 2 _ rfl
  have cr3 := Br.out.cell 3 _ rfl
  go_wp2_with fail
  go_ret
  exact ⟨rfl, hE.out⟩
end Go.Proofs.Ytgjjklajipekdaa

/- Layer 22: programs with an if, and programs with a loop, computed. -/
namespace Go.Proofs.Ytgjjklajipekdaa
open Go.RowKit
set_option linter.unusedVariables false
set_option linter.unusedSimpArgs false

abbrev z16 : List Int := List.replicate 16 0
theorem run_go {E : Env} {s t : MS} {n : Nat} (hpc : s.pc < E.C.length) (h : stepF E s = .go t) : runN E (n + 1) s = runN E n t := by
  conv => lhs; unfold runN
  rw [if_neg (by omega), h]
/-- One step: what is executed, what is popped, what comes of it. -/
theorem st_at {E : Env} {s : MS} {op arg : Int} {l r : List Vl} {t : MS} (hop : opS E s = op) (harg : argS E s = arg) (hf : s.steps < E.fuel) (hno : ¬ (op = 28 ∨ op = 31)) (hex : exiF E op arg = true) (hpop : popF (opAt op).2.1.data.toList s.st (baseF s.fr) = .ok (l, r))
    (hx : exeF E op arg l { s with st := r, steps := s.steps + 1 } = .go t) : stepF E s = .go { t with pc := t.pc + 1 } := by
  unfold stepF
  rw [hop, harg, if_neg (fun h => h.2 hf), if_neg (by rw [hex]; decide), hpop]
  have : s1F E s r = { s with st := r, steps := s.steps + 1 } := by unfold s1F; rw [hop, if_neg hno]
  simp only [this, hx]
  rfl
theorem chk_push {b : Int} (h : b ≤ 4294967295) : chkI 0 b = 0 := by
  unfold chkI
  have e1 : isOp 0 = true := by kernel_rfl
  have e2 : (opAt 0).2.2.2.1 = 4294967296 := by kernel_rfl
  rw [if_neg (by rw [e1]; decide), e2, if_neg (by omega)]
theorem form_code {L : Int} {C : List (Int × Int)} (h0 : 0 ≤ L) (h1 : L ≤ 16) (hl : C.length ≤ 1024) (hc : codE C = 0) : formE [] L C = 0 := by
  unfold formE
  rw [if_neg (by rw [show arrE [] = 0 from rfl]; decide), if_neg (by omega), if_neg (by omega), hc]
theorem use_of {L : Int} {C : List (Int × Int)} {P : List Int} (hf : formE [] L C = 0) (hp : pairR C = (P, 0)) : usE [] L C = 0 ∧ usP [] L C = P := by
  unfold usE usP
  rw [if_neg (by rw [hf]; decide), if_neg (by rw [hf]; decide), hp]
  exact ⟨rfl, rfl⟩
/-- What a run computes, out of steps. -/
theorem runR_of {L : Int} {C : List (Int × Int)} {P : List Int} {inp : Int} {en : Bool} {fu : Int} {n : Nat} {R : Out} (hC : OkI C) (hf : formE [] L C = 0) (hp : pairR C = (P, 0)) (hi : U32 inp) (h0 : 0 ≤ fu) (h1 : fu ≤ 281474976710656)
    (h : runN { A := [], L := L, C := C, P := P, inp := inp, ended := en, fuel := fu } n (startS { A := [], L := L, C := C, P := P, inp := inp, ended := en, fuel := fu } [] z16) = some R) : runR [] L C [] z16 inp en fu = R := by
  obtain ⟨u1, u2⟩ := use_of hf hp
  have hfit : fitsF [] [] z16 = true := by kernel_rfl
  have hck : chkM [] L C [] z16 = 0 := by unfold chkM; rw [if_pos hf, if_pos hfit]
  obtain ⟨r1, r2, r3⟩ := ready_of (A := []) (L := L) (C := C) (ar := []) (cx := z16) (inp := inp) (en := en) (fu := fu) hC u1 hfit hi h1 (fun _ h => by cases h) (fun x hx => by rw [List.eq_of_mem_replicate hx]; exact ⟨by decide, by decide⟩)
  have he : envOf [] L C inp en fu = { A := [], L := L, C := C, P := P, inp := inp, ended := en, fuel := fu } := by unfold envOf; rw [u2]
  unfold runR
  rw [if_neg (by rw [u1]; decide), if_neg (by rw [hck]; decide), if_pos ⟨h0, h1⟩]
  rw [he] at r1 r2 r3 ⊢
  exact runF_of r1 r2 r3 h
end Go.Proofs.Ytgjjklajipekdaa

/- The arithmetic of programs is that of layer 15: for all operations with two operands and all numbers. -/
namespace Go.Proofs.Ytgjjklajipekdaa
open Go.RowKit
set_option linter.unusedVariables false
set_option linter.unusedSimpArgs false
attribute [local go_sem ↓] Go.wp_at_zero Go.wp_at_succ

theorem cal_ty {op : Int} (h0 : 8 ≤ op) (h1 : op ≤ 22) : (opAt op).2.1.data.toList = [110, 110] := by
  rcases (show op = 8 ∨ op = 9 ∨ op = 10 ∨ op = 11 ∨ op = 12 ∨ op = 13 ∨ op = 14 ∨ op = 15 ∨ op = 16 ∨ op = 17 ∨ op = 18 ∨ op = 19 ∨ op = 20 ∨ op = 21 ∨ op = 22 by omega) with rfl | rfl | rfl | rfl | rfl | rfl | rfl | rfl | rfl | rfl | rfl | rfl | rfl | rfl | rfl <;> kernel_rfl
theorem cal_tr {op : Int} (h0 : 8 ≤ op) (h1 : op ≤ 22) : ((opAt op).2.2.1 == (⟨#[116]⟩ : ByteArray)) = decide (21 ≤ op) := by
  rcases (show op = 8 ∨ op = 9 ∨ op = 10 ∨ op = 11 ∨ op = 12 ∨ op = 13 ∨ op = 14 ∨ op = 15 ∨ op = 16 ∨ op = 17 ∨ op = 18 ∨ op = 19 ∨ op = 20 ∨ op = 21 ∨ op = 22 by omega) with rfl | rfl | rfl | rfl | rfl | rfl | rfl | rfl | rfl | rfl | rfl | rfl | rfl | rfl | rfl <;> kernel_rfl
theorem cal_ck {op : Int} (h0 : 8 ≤ op) (h1 : op ≤ 22) : chkI op 0 = 0 := by
  rcases (show op = 8 ∨ op = 9 ∨ op = 10 ∨ op = 11 ∨ op = 12 ∨ op = 13 ∨ op = 14 ∨ op = 15 ∨ op = 16 ∨ op = 17 ∨ op = 18 ∨ op = 19 ∨ op = 20 ∨ op = 21 ∨ op = 22 by omega) with rfl | rfl | rfl | rfl | rfl | rfl | rfl | rfl | rfl | rfl | rfl | rfl | rfl | rfl | rfl <;> kernel_rfl
def calC (op a b : Int) : List (Int × Int) := if 21 ≤ op then [(0, a), (0, b), (op, 0), (26, 0), (35, 3)] else [(0, a), (0, b), (op, 0), (35, 3)]
def calP (op : Int) : List Int := if 21 ≤ op then [-1, -1, -1, -1, -1] else [-1, -1, -1, -1]
theorem cal_pair {op a b : Int} (h0 : 8 ≤ op) (h1 : op ≤ 22) : pairR (calC op a b) = (calP op, 0) := by
  rcases (show op = 8 ∨ op = 9 ∨ op = 10 ∨ op = 11 ∨ op = 12 ∨ op = 13 ∨ op = 14 ∨ op = 15 ∨ op = 16 ∨ op = 17 ∨ op = 18 ∨ op = 19 ∨ op = 20 ∨ op = 21 ∨ op = 22 by omega) with rfl | rfl | rfl | rfl | rfl | rfl | rfl | rfl | rfl | rfl | rfl | rfl | rfl | rfl | rfl <;> kernel_rfl
theorem cal_form {op a b : Int} (h0 : 8 ≤ op) (h1 : op ≤ 22) (ha : a ≤ 4294967295) (hb : b ≤ 4294967295) : formE [] 0 (calC op a b) = 0 := by
  have e1 := chk_push ha
  have e2 := chk_push hb
  have e3 := cal_ck h0 h1
  unfold calC
  by_cases h : 21 ≤ op
  · rw [if_pos h]
    refine form_code (by decide) (by decide) (by simp) ?_
    show (if chkI 0 a ≠ 0 then chkI 0 a else if chkI 0 b ≠ 0 then chkI 0 b else if chkI op 0 ≠ 0 then chkI op 0 else codE [(26, 0), (35, 3)]) = 0
    rw [e1, e2, e3]
    kernel_rfl
  · rw [if_neg h]
    refine form_code (by decide) (by decide) (by simp) ?_
    show (if chkI 0 a ≠ 0 then chkI 0 a else if chkI 0 b ≠ 0 then chkI 0 b else if chkI op 0 ≠ 0 then chkI op 0 else codE [(35, 3)]) = 0
    rw [e1, e2, e3]
    kernel_rfl
theorem cal_oki {op a b : Int} (h0 : 8 ≤ op) (h1 : op ≤ 22) (ha0 : 0 ≤ a) (ha : a ≤ 4294967295) (hb0 : 0 ≤ b) (hb : b ≤ 4294967295) : OkI (calC op a b) := by
  intro x hx
  unfold calC at hx
  by_cases h : 21 ≤ op
  · rw [if_pos h] at hx
    simp only [List.mem_cons, List.not_mem_nil, or_false] at hx
    rcases hx with rfl | rfl | rfl | rfl | rfl <;> refine ⟨⟨?_, ?_⟩, ?_, ?_⟩ <;> simp only [] <;> omega
  · rw [if_neg h] at hx
    simp only [List.mem_cons, List.not_mem_nil, or_false] at hx
    rcases hx with rfl | rfl | rfl | rfl <;> refine ⟨⟨?_, ?_⟩, ?_, ?_⟩ <;> simp only [] <;> omega
theorem exe_calN (E : Env) (op arg : Int) (l : List Vl) (s : MS) (h0 : 8 ≤ op) (h1 : op ≤ 26) : exeF E op arg l s = calcF op l s := by
  unfold exeF
  repeat rw [if_neg (by omega)]
theorem st_err {E : Env} {s : MS} {op arg e : Int} {l r : List Vl} (hop : opS E s = op) (harg : argS E s = arg) (hf : s.steps < E.fuel) (hno : ¬ (op = 28 ∨ op = 31)) (hex : exiF E op arg = true) (hpop : popF (opAt op).2.1.data.toList s.st (baseF s.fr) = .ok (l, r))
    (hx : exeF E op arg l { s with st := r, steps := s.steps + 1 } = .err e) : stepF E s = .err e := by
  unfold stepF
  rw [hop, harg, if_neg (fun h => h.2 hf), if_neg (by rw [hex]; decide), hpop]
  have : s1F E s r = { s with st := r, steps := s.steps + 1 } := by unfold s1F; rw [hop, if_neg hno]
  simp only [this, hx]
  rfl
theorem run_err {E : Env} {s : MS} {n : Nat} {e : Int} (hpc : s.pc < E.C.length) (h : stepF E s = .err e) : runN E (n + 1) s = some (.error e) := by
  conv => lhs; unfold runN
  rw [if_neg (by omega), h]
theorem cal_exi (E : Env) {op : Int} (h0 : 8 ≤ op) : exiF E op 0 = true := by unfold exiF; rw [if_neg (by omega), if_neg (by omega)]
theorem cal_pop {op a b : Int} (h0 : 8 ≤ op) (h1 : op ≤ 22) : popF (opAt op).2.1.data.toList [(a, false), (b, false)] (baseF []) = .ok ([(a, false), (b, false)], []) := by
  rw [cal_ty h0 h1]; kernel_rfl
theorem calcF_err {op a b e : Int} {s : MS} (h : (apF op a b).2 = e) (he : e ≠ 0) : calcF op [(a, false), (b, false)] s = .err e := by
  unfold calcF
  show (if (apF op a b).2 ≠ 0 then Rs.err (apF op a b).2 else _) = _
  rw [h, if_pos he]
theorem calcF_ok {op a b n : Int} {s : MS} (h0 : 8 ≤ op) (h1 : op ≤ 22) (h : apF op a b = (n, 0)) (hs : s.st = []) : calcF op [(a, false), (b, false)] s = .go { s with st := [(n, decide (21 ≤ op))] } := by
  unfold calcF
  show (if (apF op a b).2 ≠ 0 then _ else pushF [((apF op a b).1, (opAt op).2.2.1 == ⟨#[116]⟩)] s) = _
  rw [h]
  simp only
  rw [if_neg (by decide)]
  unfold pushF
  rw [hs, if_neg (by show ¬ 32 < 1; decide), cal_tr h0 h1]
  rfl
def calE (op a b : Int) : Env := { A := [], L := 0, C := calC op a b, P := calP op, inp := 0, ended := true, fuel := 10 }
theorem cal_len (op a b : Int) : (3 : Int) < ((calC op a b).length : Int) := by
  unfold calC
  split
  · show (3 : Int) < ((5 : Nat) : Int); decide
  · show (3 : Int) < ((4 : Nat) : Int); decide
def calS (op n : Int) (b : Bool) : MS := { ar := [], cx := z16, pc := 3, st := [(n, b)], fr := [], lo := [], out := [], steps := 3 }
theorem cal_run {op a b : Int} (h0 : 8 ≤ op) (h1 : op ≤ 22) (m : Nat) : runN (calE op a b) (m + 3) (startS (calE op a b) [] z16) = match apF op a b with
    | (n, e) => if e ≠ 0 then some (.error e) else runN (calE op a b) m (calS op n (decide (21 ≤ op))) := by
  have hl := cal_len op a b
  have g0 : (calC op a b).getD 0 (0, 0) = (0, a) := by unfold calC; split <;> rfl
  have g1 : (calC op a b).getD 1 (0, 0) = (0, b) := by unfold calC; split <;> rfl
  have g2 : (calC op a b).getD 2 (0, 0) = (op, 0) := by unfold calC; split <;> rfl
  have k0 : stepF (calE op a b) (startS (calE op a b) [] z16) = .go { ar := [], cx := z16, pc := 1, st := [(a, false)], fr := [], lo := [], out := [], steps := 1 } := st_at (op := 0) (arg := a) (l := []) (r := []) (t := { ar := [], cx := z16, pc := 0, st := [(a, false)], fr := [], lo := [], out := [], steps := 1 }) (by show ((calC op a b).getD 0 (0, 0)).1 = 0; rw [g0]) (by show ((calC op a b).getD 0 (0, 0)).2 = a; rw [g0]) (by show (0 : Int) < 10; decide) (by decide) (by kernel_rfl) (by kernel_rfl) (by kernel_rfl)
  have k1 : stepF (calE op a b) { ar := [], cx := z16, pc := 1, st := [(a, false)], fr := [], lo := [], out := [], steps := 1 } = .go { ar := [], cx := z16, pc := 2, st := [(a, false), (b, false)], fr := [], lo := [], out := [], steps := 2 } := st_at (op := 0) (arg := b) (l := []) (r := [(a, false)]) (t := { ar := [], cx := z16, pc := 1, st := [(a, false), (b, false)], fr := [], lo := [], out := [], steps := 2 }) (by show ((calC op a b).getD 1 (0, 0)).1 = 0; rw [g1]) (by show ((calC op a b).getD 1 (0, 0)).2 = b; rw [g1]) (by show (1 : Int) < 10; decide) (by decide) (by kernel_rfl) (by kernel_rfl) (by kernel_rfl)
  rw [run_go (n := m + 2) (by show (0 : Int) < ((calC op a b).length : Int); omega) k0, run_go (n := m + 1) (by show (1 : Int) < ((calC op a b).length : Int); omega) k1]
  obtain ⟨⟨n, e⟩, hap⟩ : ∃ r, apF op a b = r := ⟨_, rfl⟩
  rw [hap]
  simp only
  by_cases he : e = 0
  · subst he
    rw [if_neg (by decide)]
    have k2 : stepF (calE op a b) { ar := [], cx := z16, pc := 2, st := [(a, false), (b, false)], fr := [], lo := [], out := [], steps := 2 } = .go (calS op n (decide (21 ≤ op))) := st_at (op := op) (arg := 0) (l := [(a, false), (b, false)]) (r := []) (t := { ar := [], cx := z16, pc := 2, st := [(n, decide (21 ≤ op))], fr := [], lo := [], out := [], steps := 3 }) (by show ((calC op a b).getD 2 (0, 0)).1 = op; rw [g2]) (by show ((calC op a b).getD 2 (0, 0)).2 = 0; rw [g2]) (by show (2 : Int) < 10; decide) (by omega) (cal_exi _ h0) (cal_pop h0 h1) (by rw [exe_calN _ _ _ _ _ h0 (by omega)]; exact calcF_ok h0 h1 hap rfl)
    rw [run_go (n := m) (by show (2 : Int) < ((calC op a b).length : Int); omega) k2]
  · rw [if_pos he]
    exact run_err (by show (2 : Int) < ((calC op a b).length : Int); omega) (st_err (op := op) (arg := 0) (l := [(a, false), (b, false)]) (r := []) (by show ((calC op a b).getD 2 (0, 0)).1 = op; rw [g2]) (by show ((calC op a b).getD 2 (0, 0)).2 = 0; rw [g2]) (by show (2 : Int) < 10; decide) (by omega) (cal_exi _ h0) (cal_pop h0 h1) (by rw [exe_calN _ _ _ _ _ h0 (by omega)]; exact calcF_err (by rw [hap]) he))
/-- What Feed returns. -/
def calR (op n e : Int) : Out := if e ≠ 0 then .error e else .ok ([], z16.set 3 n, [], if 21 ≤ op then 5 else 4)
theorem cal_end {op a b n : Int} (h0 : 8 ≤ op) (h1 : op ≤ 22) (hap : apF op a b = (n, 0)) : runN (calE op a b) 3 (calS op n (decide (21 ≤ op))) = some (calR op n 0) := by
  unfold calR
  rw [if_neg (by decide)]
  by_cases h : 21 ≤ op
  · rw [if_pos h, decide_eq_true h]
    have hn : n = 0 ∨ n = 1 := by
      rcases (show op = 21 ∨ op = 22 by omega) with rfl | rfl
      · rw [apF_in (by decide) (by decide) (Or.inr ⟨by decide, by decide⟩), apV_21] at hap
        simp only [Prod.mk.injEq, and_true] at hap
        rw [← hap]
        cases (a == b) <;> decide
      · rw [apF_in (by decide) (by decide) (Or.inr ⟨by decide, by decide⟩), apV_22] at hap
        simp only [Prod.mk.injEq, and_true] at hap
        rw [← hap]
        cases decide (a < b) <;> decide
    have hC : calE op a b = { A := [], L := 0, C := [(0, a), (0, b), (op, 0), (26, 0), (35, 3)], P := [-1, -1, -1, -1, -1], inp := 0, ended := true, fuel := 10 } := by unfold calE calC calP; rw [if_pos h, if_pos h]
    rw [hC]
    rcases hn with rfl | rfl <;> (show _ = _; kernel_rfl)
  · rw [if_neg h, decide_eq_false h]
    have hC : calE op a b = { A := [], L := 0, C := [(0, a), (0, b), (op, 0), (35, 3)], P := [-1, -1, -1, -1], inp := 0, ended := true, fuel := 10 } := by unfold calE calC calP; rw [if_neg h, if_neg h]
    rw [hC]
    show _ = _
    kernel_rfl
theorem cal_feed {op a b : Int} (h0 : 8 ≤ op) (h1 : op ≤ 22) (ha0 : 0 ≤ a) (ha : a ≤ 4294967295) (hb0 : 0 ≤ b) (hb : b ≤ 4294967295) : feedR [] 0 (calC op a b) [] 10 = calR op (apF op a b).1 (apF op a b).2 := by
  have hf := cal_form (b := b) h0 h1 ha hb
  have hp := cal_pair (a := a) (b := b) h0 h1
  have hC := cal_oki h0 h1 ha0 ha hb0 hb
  obtain ⟨⟨n, e⟩, hap⟩ : ∃ r, apF op a b = r := ⟨_, rfl⟩
  rw [hap]
  have hrun : runN (calE op a b) (3 + 3) (startS (calE op a b) [] z16) = some (calR op n e) := by
    rw [cal_run h0 h1 3, hap]
    simp only
    by_cases he : e = 0
    · subst he
      rw [if_neg (by decide)]
      exact cal_end h0 h1 hap
    · rw [if_pos he]
      unfold calR
      rw [if_pos he]
  have hr := runR_of hC hf hp ⟨by decide, by decide⟩ (by decide) (by decide) hrun
  unfold feedR
  rw [if_neg (by rw [(use_of hf hp).1]; decide), if_neg (by decide), if_pos ⟨by decide, by decide⟩]
  show feedF [] 0 (calC op a b) [] 10 1 0 [] z16 [] 0 = _
  unfold feedF
  rw [show (if 0 < ([] : List Int).length then ([] : List Int).getD 0 0 else 0) = 0 from rfl, show decide (0 = ([] : List Int).length) = true from rfl, show (10 : Int) - 0 = 10 from rfl, hr]
  show _ = calR op n e
  unfold calR
  by_cases he : e = 0
  · subst he
    rw [if_neg (by decide)]
    simp only [List.nil_append]
    rw [if_neg (by decide)]
    unfold feedF
    rw [Int.zero_add]
  · rw [if_pos he]
end Go.Proofs.Ytgjjklajipekdaa
