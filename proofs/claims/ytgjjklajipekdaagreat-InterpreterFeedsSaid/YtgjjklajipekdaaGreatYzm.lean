
import Derived.Test.YtgjjklajipekdaaGreatYza
import Derived.Test.YtgjjklajipekdaaGreatYzg
namespace Go.Proofs.YtgjjklajipekdaaGreat
set_option maxHeartbeats 16000000
set_option maxRecDepth 100000
open Go.RowKit
set_option linter.unusedVariables false
set_option linter.unusedSimpArgs false
attribute [local go_sem ↓] Go.wp_at_zero Go.wp_at_succ
theorem instr_info : (Tryz.prog.info? 63).map (fun i => (i.zero, i.size, i.bytes)) = some (some (.agg #[.int .i64 0, .int .u32 0]), 2, 16) := by kernel_rfl
def cL (x : Int × Int) : List Value := [.int .i64 x.1, .int .i64 x.2]
theorem cl_at : ∀ (C : List (Int × Int)) (k : Nat) (x : Int × Int), C[k]? = some x → (C.flatMap cL)[2 * k]? = some (.int .i64 x.1) ∧ (C.flatMap cL)[2 * k + 1]? = some (.int .i64 x.2)
 | [], k, x, h => by simp at h
 | a :: C, 0, x, h => by simp at h; subst h; exact ⟨rfl, rfl⟩
 | a :: C, k + 1, x, h => cl_at C k x (by simpa using h)
theorem lcode_any (L : Int) (v : Value) (C : List (Int × Int)) (hC : ∀ x ∈ C, U32 x.2) (hl : C.length ≤ 1000) (w : World) (h : Rd w 1 v (2 * C.length) (C.flatMap cL)) :
  Calls Tryz.prog 27 #[.int .i64 L, v] w fun x w' => ∃ vc, x = .returned (.agg #[.slice none 0 0, .int .i64 L, vc]) ∧ w'.ownsRow w.heap.size 63 2 vc C.length (C.flatMap cI) ∧ Ext w w' := by
 obtain ⟨i0, hi, hz0, hz1, hz2⟩ := info_parts instr_info
 have hia := hidden hi
 obtain ⟨n2, hn2⟩ := ex (2 * C.length)
 obtain ⟨m, hm⟩ := ex C.length
 obtain ⟨b, hb⟩ := ex w.heap.size
 rw [hn2] at h
 rw [hm] at hn2 hl ⊢
 rw [hb]
 obtain ⟨a, cap, rfl, hcap, hcap2, -⟩ := Rd.shape h
 have hR := hidden h
 have hbase := hidden hb
 obtain ⟨W1, hW1, X1, B1⟩ := alx w #[.slice none 0 0, .int .i64 0, .slice none 0 0] [.slice none 0 0, .int .i64 0, .slice none 0 0] 25 b hb
 have s1 : W1.heap.size = b + 1 := by rw [← hW1, ← hb]; exact Array.size_push ..
 obtain ⟨W4, hW4, X2, B2⟩ := alx W1 #[.slice none 0 0, .int .i64 L, .slice none 0 0] [.slice none 0 0, .int .i64 L, .slice none 0 0] 25 (b + 1) s1
 have s4 : W4.heap.size = b + 2 := by rw [← hW4]; exact (Array.size_push ..).trans (by rw [s1])
 have hW : Hid (((w.alloc (.cells #[.slice none 0 0, .int .i64 0, .slice none 0 0] 25)).alloc (.cells #[.slice none 0 0, .int .i64 L, .slice none 0 0] 25)) = W4) := hidden (by rw [hW1, hW4])
 have XW := hidden (X1.trans X2)
 have BR := hidden (B1.ext X2)
 have BP := hidden B2
 have hW20 := hidden s4
 have hmI := hidden hm
 have hCI := hidden hC
 clear X1 X2 B1 B2 hW1 hW4 s1 s4 h hi hm hC
 clear W1
 obtain ⟨p, hp⟩ := ex (b + 1)
 rw [hp] at BP
 go_enter Tryz.func27, Tryz.ntmps27
 go_wp2_with fail
 rw [hW.out]
 clear hb
 go_loopw [6] (fun ix wr => ∃ (k j : Nat) (al : Option Addr) (cl : Nat), k ≤ m ∧ j = 2 * k ∧ ix = .int .i64 (j : Int) ∧ Hid (wr.ownsRow (b + 2) 63 2 (.slice al k cl) k ((C.take k).flatMap cI)) ∧ Hid (Blk wr p 25 [.slice none 0 0, .int .i64 L, .slice al k cl]) ∧ Hid (Blk wr b 25 [.slice none 0 0, .int .i64 0, .slice none 0 0]) ∧ Hid (Ext w wr)) (fun ix _ => (2 * m + 1 - intOf ix).toNat)
 case atStart => exact ⟨0, 0, none, 0, by omega, rfl, rfl, hidden (World.ownsRow_nil _ _ _ _), BP, BR, XW⟩
 case round =>
  obtain ⟨k, j, al, cl, hk, hj, rfl, hrow, hblk, hres, hext⟩ := hrel
  obtain ⟨W1, hWW⟩ : ∃ Z, Z = wr := ⟨_, rfl⟩
  subst hWW
  obtain ⟨j1, hj1⟩ : ∃ j1 : Nat, (j : Int) + 1 = (j1 : Int) := ⟨j + 1, by omega⟩
  have hjw : IntKind.i64.wrap ((j : Int) + 1) = (j1 : Int) := by rw [IntWalk.i64_in _ (by omega), hj1]
  have hjw2 : IntKind.i64.wrap ((j : Int) + 2) = (j : Int) + 2 := IntWalk.i64_in _ (by omega)
  by_cases hlt : k < m
  ·have hlt' : (j1 : Int) < (n2 : Int) := by omega
   have hlt2 : (j : Int) < (n2 : Int) := by omega
   obtain ⟨z, hz⟩ : ∃ z, C[k]? = some z := ⟨_, List.getElem?_eq_getElem (by rw [hmI.out]; exact hlt)⟩
   obtain ⟨lb, lo, rfl, -, -⟩ := Rd.cells (cs := C.flatMap cL) (w := w) (sz := 1) hR.out (show 0 < n2 by omega)
   obtain ⟨g1, g2⟩ := cl_at C k z hz
   have hzu := hCI.out z (List.mem_of_getElem? hz)
   obtain ⟨x, y⟩ := z
   have hyw : IntKind.u32.wrap y = y := by rw [IntKind.wrap_u32]; obtain ⟨h1, h2⟩ := hzu; simp only at h1 h2; omega
   have d1 := hext.out.cell (rd_at hR.out j (.int .i64 x) (by rw [hj]; exact g1))
   have d2 := hext.out.cell (rd_at hR.out j1 (.int .i64 y) (by rw [show j1 = 2 * k + 1 by omega]; exact g2))
   have hlbI : Hid (lb < b) := hidden (by have := cell_lt (rd_at hR.out j (.int .i64 x) (by rw [hj]; exact g1)); rw [hbase.out] at this; exact this)
   have d0 := hblk.out.cell 2 _ rfl
   have hp2 : w.heap.size ≤ p := by rw [hbase.out]; omega
   have hxI := hidden hz
   have hjI := hidden hj
   have hb2 := hidden (show b + 2 ≤ W1.heap.size by have h1 := hblk.out.lt; omega)
   clear hj
   clear g1 g2 hz hzu hj1
   go_upto_region 5 with fail
   refine wp_region_D (S := fun w' => w'.cell? ⟨p, 2, none⟩ = some (.slice al k cl) ∧ w'.cell? ⟨lb, lo + j, none⟩ = some (.int .i64 x) ∧ w'.cell? ⟨lb, lo + j1, none⟩ = some (.int .i64 y)) (D := [16]) (by kernel_rfl) ⟨d0, d1, d2⟩ (fun HS => ?_)
   refine tk 0 [1, 14, 15, 16] (.pointer (some ⟨p, 2, none⟩)) HS ?_; try simp only [sx]
   refine tk 1 [14, 15, 16] (.slice al k cl) HS ?_; try simp only [sx]
   refine tk 2 [4, 5, 12, 13, 14, 15, 16] (.slice (some ⟨lb, lo, none⟩) n2 cap) HS ?_; try simp only [sx]
   refine tk 3 [4, 5, 12, 13, 14, 15, 16] (.int .i64 (j : Int)) HS ?_; try simp only [sx]
   refine tk 4 [5, 12, 13, 14, 15, 16] (.pointer (some ⟨lb, lo + j, none⟩)) HS ?_; try simp only [sx]
   refine tk 5 [12, 13, 14, 15, 16] (.int .i64 x) HS ?_; try simp only [sx]
   refine tk 6 [9, 10, 11, 12, 13, 14, 15, 16] (.slice (some ⟨lb, lo, none⟩) n2 cap) HS ?_; try simp only [sx]
   refine tk 7 [8, 9, 10, 11, 12, 13, 14, 15, 16] (.int .i64 (j : Int)) HS ?_; try simp only [sx]
   refine tk 8 [9, 10, 11, 12, 13, 14, 15, 16] (.int .i64 (j1 : Int)) HS ?_; try simp only [sx]
   refine tk 9 [10, 11, 12, 13, 14, 15, 16] (.pointer (some ⟨lb, lo + j1, none⟩)) HS ?_; try simp only [sx]
   refine tk 10 [11, 12, 13, 14, 15, 16] (.int .i64 y) HS ?_; try simp only [sx]
   refine tk 11 [12, 13, 14, 15, 16] (.int .u32 y) HS ?_; try simp only [sx]
   refine tk 12 [13, 14, 15, 16] (.agg #[.int .i64 x, .int .u32 y]) HS ?_; try simp only [sx]
   have XA := hidden ((Ext.refl W1).drew.alloc (.cells #[.int .i64 x, .int .u32 y] 63))
   have e0 := XA.out.cell d0
   have e1 := XA.out.cell d1
   have e2 := XA.out.cell d2
   refine valueD 13 (.slice (some ⟨W1.heap.size, 0, none⟩) 1 1) rfl rfl (by kernel_rfl) (by rfl) (w' := (W1.drew.alloc (.cells #[.int .i64 x, .int .u32 y] 63))) (by go_simp) (fun _ => ⟨e0, e1, e2⟩) ?_; try simp only [sx]
   have HOa := hidden (own_ext hrow.out XA.out)
   have HN := hidden (rd_newc W1.drew [.int .i64 x, .int .u32 y] 63 2 1 rfl (by decide))
   obtain ⟨W2, hW2⟩ := ex ((W1.drew.alloc (.cells #[.int .i64 x, .int .u32 y] 63)))
   rw [show (W1.drew.alloc (.cells ([.int .i64 x, .int .u32 y] : List Value).toArray 63)) = W2 from hW2] at HN
   rw [hW2] at XA e0 e1 e2 HOa ⊢
   clear hW2
   have HN' : Hid (Rd W2 2 (.slice (some ⟨W1.heap.size, 0, none⟩) 1 1) 1 [.int .i64 x, .int .u32 y]) := HN
   refine appendD 14 rfl rfl rfl (by kernel_rfl) _ _ 23 (by rfl) (b + 2) 63 i0 (.agg #[.int .i64 0, .int .u32 0]) 2 16 Tryz.underlying23 hia.out hz0 hz1 hz2 rfl (by decide) (.slice al k cl) k ((C.take k).flatMap cI) (by rfl) HOa.out (some ⟨W1.heap.size, 0, none⟩) 1 1 [.int .i64 x, .int .u32 y] (by rfl) HN'.out (by simp [Value.oneCell']) (by unfold maxLen; omega) (by omega) (by have := hb2.out; have := XA.out.size; omega) (by omega) ?_
   intro v'' w4 hown4 hgrow4 hat4
   obtain ⟨a4, c4, rfl, k41, k42, -⟩ := own_shape hown4
   have c40 : Chg (Value.slice al k cl).ownBlock.toList W2 w4 := (Chg.refl _ _).grown hgrow4 (fun k hk => Or.inl (by simp [hk]))
   have hBp := hblk.out.ext XA.out
   have hBr := hres.out.ext XA.out
   have hpq : p ∉ (Value.slice al k cl).ownBlock.toList := fun hm => own_ne_blk HOa.out hBp (by decide) (by simpa using hm)
   have hrq : b ∉ (Value.slice al k cl).ownBlock.toList := fun hm => own_ne_blk HOa.out hBr (by decide) (by simpa using hm)
   have hlq : lb ∉ (Value.slice al k cl).ownBlock.toList := fun hm => by have h1 := (own_lt HOa.out (show (Value.slice al k cl).ownBlock = some lb by simpa using hm)).1; have h2 := hlbI.out; omega
   have f0 := c40.cell hpq e0
   have f1 := c40.cell hlq e1
   have f2 := c40.cell hlq e2
   have hBp4 := hBp.chg c40 hpq
   have hBr4 := hidden (hBr.chg c40 hrq)
   have hfz := hBp4.frozen 2
   have hX4 := hidden ((Chg.of_ext [] (hext.out.trans XA.out)).grown hgrow4 (fun k hk => Or.inr (by have h1 := (own_lt HOa.out hk).1; have := hbase.out; omega))).ext
   replace hBp4 := hidden hBp4
   have hO4 := hidden hown4
   clear hown4 hgrow4 hat4 HOa HN HN' hBp hBr
   refine ⟨fun _ => ⟨f0, f1, f2⟩, ?_⟩; try simp only [sx]
   refine takeD 15 [16] (.pointer (some ⟨p, 2, none⟩)) rfl rfl (by kernel_rfl) (by kernel_rfl) (by kernel_rfl) (by kernel_rfl) (by decide) (by decide) (fun _ _ _ h => h) (by rfl) (fun w' hw' => by go_simp) ⟨f0, f1, f2⟩ ?_; try simp only [sx]
   refine storeD 16 rfl rfl (by kernel_rfl) (by rfl) (w' := w4.setCell ⟨p, 2, none⟩ (.slice a4 (k + 1) c4)) (by go_simp) (fun h => absurd (by decide) h) ?_
   refine wpAnyD_done (by kernel_rfl) ?_ _
   show _
   have c50 : Chg [p] w4 (w4.setCell ⟨p, 2, none⟩ (.slice a4 (k + 1) c4)) := (Chg.refl _ _).setCell (Or.inl (by simp)) _
   have hO5 := hidden (own_low hO4.out c50 (fun x hx => by rw [List.mem_singleton.1 hx]; omega))
   have htk : (C.take (k + 1)).flatMap cI = (C.take k).flatMap cI ++ [.int .i64 x, .int .u32 y] := by
    rw [take_snoc' hxI.out, List.flatMap_append]; rfl
   rw [← htk] at hO5
   have hB5 := hidden (hBp4.out.set 2 (.slice a4 (k + 1) c4))
   have hR5 := hidden (hBr4.out.chg c50 (by simp; omega))
   have hX5 := hidden (hX4.out.setCell (p := ⟨p, 2, none⟩) hp2 (.slice a4 (k + 1) c4))
   clear htk hO4 hBp4 hBr4 hX4 c40 c50
   go_wp2_with fail
   go_roundw
   case rel => exact ⟨k + 1, j + 2, _, _, by omega, by have := hjI.out; omega, by go_num, hO5, hB5, hR5, hX5⟩
   case measure => simp [intOf] <;> omega
  ·have hlt' : ¬ (j1 : Int) < (n2 : Int) := by omega
   obtain rfl : k = m := by omega
   obtain ⟨d0, d1, d2⟩ := hblk.out.c3
   obtain ⟨f0, f1, f2⟩ := hres.out.fz3
   obtain ⟨g0, g1, g2⟩ := hres.out.c3
   have ht : Hid (C.take k = C) := hidden (List.take_of_length_le (by rw [hmI.out]; exact Nat.le_refl _))
   rw [ht.out] at hrow
   clear hj1
   go_wp2_with fail
   have hB5 := ((hres.out.set 0 (.slice none 0 0)).set 1 (.int .i64 L)).set 2 (.slice al k cl)
   have c5 : Chg [b] W1 (((W1.setCell ⟨b, 0, none⟩ (.slice none 0 0)).setCell ⟨b, 1, none⟩ (.int .i64 L)).setCell ⟨b, 2, none⟩ (.slice al k cl)) := (((Chg.refl _ _).setCell (Or.inl (by simp)) _).setCell (Or.inl (by simp)) _).setCell (Or.inl (by simp)) _
   obtain ⟨z0, z1, z2⟩ := hB5.c3
   refine bodyPost_ret (v := .agg #[.slice none 0 0, .int .i64 L, .slice al k cl]) (by simp [results, Tryz.results27, go_sem, z0, z1, z2]) rfl ?_
   have k1 := hbase.out
   exact ⟨_, rfl, own_mono (own_low hrow.out c5 (fun x hx => by rw [List.mem_singleton.1 hx]; omega)) (by omega), ((hext.out.setCell (p := ⟨b, 0, none⟩) (Nat.le_of_eq k1) _).setCell (p := ⟨b, 1, none⟩) (Nat.le_of_eq k1) _).setCell (p := ⟨b, 2, none⟩) (Nat.le_of_eq k1) _⟩
def cntC (n : Int) : List (Int × Int) := [(0, n), (29, 0), (1, 0), (34, 0), (1, 0), (0, 1), (8, 0), (2, 0), (31, 0)]
def divC : List (Int × Int) := [(0, 1), (0, 0), (11, 0)]
def putC : List (Int × Int) := [(0, 1), (0, 300), (4, 0)]
theorem ex_cnt : runR [] 1 (cntC 3) [] (List.replicate 16 0) 0 false 100 = .ok ([], List.replicate 16 0, [0, 1, 2], 23) := by kernel_rfl
theorem ex_div : runR [] 0 divC [] (List.replicate 16 0) 0 false 3 = .error 17 := by kernel_rfl
theorem ex_div2 : runR [] 0 divC [] (List.replicate 16 0) 0 false 2 = .error 19 := by kernel_rfl
theorem ex_put : feedR [(false, 2)] 0 putC [] 3 = .ok ([[0, 44]], List.replicate 16 0, [], 3) := by kernel_rfl
theorem form_cnt : formE [] 1 (cntC 3) = 0 := by kernel_rfl
theorem form_div : formE [] 0 divC = 0 := by kernel_rfl
theorem rd_none (w : World) (sz : Nat) : Rd w sz (.slice none 0 0) 0 [] := ⟨by simp, none, 0, rfl, Nat.le_refl _, by decide, fun _ => rfl, fun h => absurd h (Nat.lt_irrefl _)⟩
theorem exe_feed {w : World} {E : Env} {R : Out} {x : Ending} {w' : World} (h : ExeP w E R x w') : FeedP w R x w' := by
 unfold ExeP at h
 unfold FeedP
 cases R with
 | error e => exact h
 | ok r =>
  obtain ⟨ar, cx, out, st⟩ := r
  obtain ⟨va, vc, vo, s', e, h1, h2, -, -, -, -, -, h3⟩ := h
  exact ⟨va, vc, vo, e, h1.read, Rd.of_own h2, h3⟩
theorem irun2_any (va vc ma mc : Value) (A : List (Bool × Int)) (L : Int) (C : List (Int × Int)) (ar : List (List Int)) (cx : List Int) (inp : Int) (en : Bool) (fu : Int) (hA : OkA A) (hC : OkI C) (hL0 : -9223372036854775808 ≤ L) (hL1 : L ≤ 9223372036854775807)
  (hf0 : -9223372036854775808 ≤ fu) (hf1 : fu ≤ 9223372036854775807) (hi : U32 inp) (hau : ∀ a ∈ ar, ∀ x ∈ a, U32 x) (hcu : ∀ x ∈ cx, U32 x) (hal : ∀ a ∈ ar, a.length ≤ 100000) (w : World) (ra : Arr w va A) (rc : Cod w vc C) (hM : MemR w ma mc ar cx) :
  Calls Tryz.prog 19 #[.agg #[va, .int .i64 L, vc], .agg #[ma, mc], .agg #[.int .u32 inp, .bool en, .int .i64 fu]] w (FeedP w (runR A L C ar cx inp en fu)) :=
 (irunf_any va vc ma mc A L C ar cx inp en fu hA hC hL0 hL1 hf0 hf1 hi hau hcu hal w ra rc hM).mono fun _ _ h => exe_feed h
theorem cal_err {w : World} {f : Nat} {args : Array Value} {e : Int} (h : Calls Tryz.prog f args w (FeedP w (.error e))) : Calls Tryz.prog f args w fun x w' => x = .returned (.tuple #[.agg #[.slice none 0 0, .slice none 0 0, .slice none 0 0, .int .i64 0], .int .i64 e]) ∧ Ext w w' := h
theorem cal_ok {w : World} {f : Nat} {args : Array Value} {ar : List (List Int)} {cx out : List Int} {st : Int} (h : Calls Tryz.prog f args w (FeedP w (.ok (ar, cx, out, st)))) : Calls Tryz.prog f args w fun x w' => ∃ va vc vo, x = .returned (.tuple #[.agg #[va, vc, vo, .int .i64 st], .int .i64 0]) ∧ MemR w' va vc ar cx ∧ Rd w' 1 vo out.length (out.map (Value.int .u8)) ∧ Ext w w' := h
theorem istart2_any (va vc : Value) (A : List (Bool × Int)) (L : Int) (C : List (Int × Int)) (hA : OkA A) (hC : OkI C) (hL0 : -9223372036854775808 ≤ L) (hL1 : L ≤ 9223372036854775807) (hf : formE A L C = 0) (w : World) (ra : Arr w va A) (rc : Cod w vc C) :
  Calls Tryz.prog 13 #[.agg #[va, .int .i64 L, vc]] w fun x w' => ∃ ma mc, x = .returned (.tuple #[.agg #[ma, mc], .int .i64 0]) ∧ MemR w' ma mc (zerosA A) (List.replicate 16 0) ∧ Ext w w' := by
 refine (istart_any va vc A L C hA hC hL0 hL1 w ra rc).mono ?_
 intro x w' h
 unfold StartP at h
 rw [if_pos hf] at h
 obtain ⟨ma, mc, e, h1, h2⟩ := h
 exact ⟨ma, mc, e, h1.read, h2⟩
theorem MemR.shape {w : World} {va vc : Value} {ar : List (List Int)} {cx : List Int} (h : MemR w va vc ar cx) (n m : Nat) (h1 : ar.length = n) (h2 : cx.length = m) : ∃ a c a' c', va = .slice a n c ∧ vc = .slice a' m c' := by
 subst h1
 subst h2
 obtain ⟨vs, e1, -, e2⟩ := h
 obtain ⟨a, c, e, -⟩ := Rd.shape e1
 obtain ⟨a', c', e', -⟩ := Rd.shape e2
 exact ⟨a, c, a', c', e, e'⟩
theorem rd_blkY {w : World} {b : Nat} {t : TypeId} {cs : List Value} {sz n : Nat} (h : Blk w b t cs) (hl : cs.length = n * sz) (hn : n ≤ 9223372036854775807) : Rd w sz (.slice (some ⟨b, 0, none⟩) n n) n cs := by
 refine ⟨hl, _, _, rfl, Nat.le_refl _, hn, by simp, fun _ => ⟨_, _, rfl, h.lt, fun j hj => ?_⟩⟩
 rw [Nat.zero_add]
 exact h.cell j _ (by rw [List.getD, List.getElem?_eq_getElem hj]; rfl)
theorem oki_cnt {n : Int} (h0 : 0 ≤ n) (h1 : n ≤ 4294967295) : OkI (cntC n) := by
 intro x hx
 simp only [cntC, List.mem_cons, List.not_mem_nil, or_false] at hx
 rcases hx with rfl | rfl | rfl | rfl | rfl | rfl | rfl | rfl | rfl <;> exact ⟨by simp, by first | exact h0 | decide, by first | exact h1 | decide⟩
theorem oki_div : OkI divC := by unfold OkI; decide
theorem oki_put : OkI putC := by unfold OkI; decide
theorem oka_nil : OkA [] := fun _ h => by cases h
theorem u32_zeros (n : Nat) : ∀ x ∈ List.replicate n (0 : Int), U32 x := fun x hx => by rw [List.eq_of_mem_replicate hx]; exact ⟨by decide, by decide⟩
theorem lcounting_any (n : Int) (h0 : 0 ≤ n) (h1 : n ≤ 4294967295) (w : World) :
  Calls Tryz.prog 24 #[.int .i64 n] w fun x w' => ∃ vc, x = .returned (.agg #[.slice none 0 0, .int .i64 1, vc]) ∧ Cod w' vc (cntC n) ∧ Ext w w' := by
 obtain ⟨b, hb⟩ := ex w.heap.size
 obtain ⟨W1, hW1, X1, B1⟩ := alx w #[.slice none 0 0, .int .i64 0, .slice none 0 0] [.slice none 0 0, .int .i64 0, .slice none 0 0] 25 b hb
 have X2 := (Ext.refl W1).alloc (.cells #[.int .i64 0, .int .i64 n, .int .i64 29, .int .i64 0, .int .i64 1, .int .i64 0, .int .i64 34, .int .i64 0, .int .i64 1, .int .i64 0, .int .i64 0, .int .i64 1, .int .i64 8, .int .i64 0, .int .i64 2, .int .i64 0, .int .i64 31, .int .i64 0] 3)
 have hR : Rd _ 1 _ 18 _ := rd_newc W1 [.int .i64 0, .int .i64 n, .int .i64 29, .int .i64 0, .int .i64 1, .int .i64 0, .int .i64 34, .int .i64 0, .int .i64 1, .int .i64 0, .int .i64 0, .int .i64 1, .int .i64 8, .int .i64 0, .int .i64 2, .int .i64 0, .int .i64 31, .int .i64 0] 3 1 18 rfl (by decide)
 have hcl := hidden (lcode_any 1 _ (cntC n) (by intro x hx; simp only [cntC, List.mem_cons, List.not_mem_nil, or_false] at hx; rcases hx with rfl | rfl | rfl | rfl | rfl | rfl | rfl | rfl | rfl <;> exact ⟨by first | exact h0 | decide, by first | exact h1 | decide⟩) (by simp [cntC]) _ (show Rd _ 1 _ (2 * (cntC n).length) ((cntC n).flatMap cL) from hR))
 have X12 := hidden (X1.trans X2)
 have B1I := hidden B1
 clear hR X2 B1
 go_enter Tryz.func24, Tryz.ntmps24
 go_upto_region 1 with fail
 (try rw [hW1])
 go_wp2_with fail
 refine hcl.out.mono ?_
 rintro x w2 ⟨vc, rfl, hO, hX⟩
 obtain ⟨ac, cc, rfl, -⟩ := own_shape (show w2.ownsRow _ 63 2 vc 9 _ from hO)
 have hB := B1I.out.ext (((Ext.refl W1).alloc (.cells #[.int .i64 0, .int .i64 n, .int .i64 29, .int .i64 0, .int .i64 1, .int .i64 0, .int .i64 34, .int .i64 0, .int .i64 1, .int .i64 0, .int .i64 0, .int .i64 1, .int .i64 8, .int .i64 0, .int .i64 2, .int .i64 0, .int .i64 31, .int .i64 0] 3)).trans hX)
 obtain ⟨f0, f1, f2⟩ := hB.fz3
 obtain ⟨g0, g1, g2⟩ := hB.c3
 have hBI := hidden hB
 have hOI := hidden hO
 have hXI := hidden (X12.out.trans hX)
 clear hB hO hX hW1 X1 hcl
 go_wp2_with fail
 have hB5 := ((hBI.out.set 0 (.slice none 0 0)).set 1 (.int .i64 1)).set 2 (.slice ac 9 cc)
 have c5 : Chg [b] w2 (((w2.setCell ⟨b, 0, none⟩ (.slice none 0 0)).setCell ⟨b, 1, none⟩ (.int .i64 1)).setCell ⟨b, 2, none⟩ (.slice ac 9 cc)) := (((Chg.refl _ _).setCell (Or.inl (by simp)) _).setCell (Or.inl (by simp)) _).setCell (Or.inl (by simp)) _
 obtain ⟨z0, z1, z2⟩ := hB5.c3
 refine bodyPost_ret (v := .agg #[.slice none 0 0, .int .i64 1, .slice ac 9 cc]) (by simp [results, Tryz.results24, go_sem, z0, z1, z2]) rfl ?_
 have hk : b + 1 ≤ (W1.alloc (.cells #[.int .i64 0, .int .i64 n, .int .i64 29, .int .i64 0, .int .i64 1, .int .i64 0, .int .i64 34, .int .i64 0, .int .i64 1, .int .i64 0, .int .i64 0, .int .i64 1, .int .i64 8, .int .i64 0, .int .i64 2, .int .i64 0, .int .i64 31, .int .i64 0] 3)).heap.size := by
  have := (B1I.out.ext ((Ext.refl W1).alloc (.cells #[.int .i64 0, .int .i64 n, .int .i64 29, .int .i64 0, .int .i64 1, .int .i64 0, .int .i64 34, .int .i64 0, .int .i64 1, .int .i64 0, .int .i64 0, .int .i64 1, .int .i64 8, .int .i64 0, .int .i64 2, .int .i64 0, .int .i64 31, .int .i64 0] 3))).lt
  exact this
 exact ⟨_, rfl, Rd.of_own (own_low hOI.out c5 (fun x hx => by rw [List.mem_singleton.1 hx]; omega)), ((hXI.out.setCell (p := ⟨b, 0, none⟩) (Nat.le_of_eq hb) _).setCell (p := ⟨b, 1, none⟩) (Nat.le_of_eq hb) _).setCell (p := ⟨b, 2, none⟩) (Nat.le_of_eq hb) _⟩
theorem awake_any (w : World) : Calls Tryz.prog 12 #[] w fun x w' => x = .returned (.bool true) ∧ Ext w w' := by
 go_enter Tryz.func12, Tryz.ntmps12
 go_wp2_with fail
 refine (lcounting_any 3 (by decide) (by decide) w).mono ?_
 rintro x w1 ⟨vc, rfl, hC, hX⟩
 obtain ⟨ac, cc, rfl, -⟩ := Rd.shape (show Rd w1 2 vc 9 _ from hC)
 replace hC := hidden hC
 have hE := hidden hX
 clear hX
 obtain ⟨p, hp⟩ := ex w1.heap.size
 obtain ⟨V1, hV1V, XN, BN⟩ := alx w1 #[.slice none 0 0, .int .i64 1, .slice ac 9 cc] [.slice none 0 0, .int .i64 1, .slice ac 9 cc] 25 p hp
 replace hE := hidden (hE.out.trans XN)
 have Bp := hidden BN
 replace XN := hidden XN
 replace hV1V := hidden hV1V
 clear BN
 go_upto_region 2 with fail
 rw [hV1V.out]
 clear hV1V hp
 replace hC := hidden (Rd.ext hC.out XN.out : Cod _ _ _)
 clear XN
 obtain ⟨cp0, cp1, cp2⟩ := Bp.out.c3
 have hst := hidden (istart2_any (.slice none 0 0) (.slice ac 9 cc) [] 1 (cntC 3) oka_nil (oki_cnt (by decide) (by decide)) (by decide) (by decide) form_cnt V1 (rd_none _ _) hC.out)
 go_wp2_with fail
 refine hst.out.mono ?_
 rintro x w2 ⟨ma, mc, rfl, hM, hX⟩
 obtain ⟨am, cm, ax, cx, rfl, rfl⟩ := hM.shape 0 16 rfl rfl
 clear cp0 cp1 cp2
 replace Bp := hidden (Bp.out.ext hX)
 replace hE := hidden (hE.out.trans hX)
 replace hC := hidden (Rd.ext hC.out hX : Cod _ _ _)
 replace hM := hidden hM
 clear hX hst
 obtain ⟨m, hm⟩ := ex w2.heap.size
 obtain ⟨V2, hV2V, XN, BN⟩ := alx w2 #[.slice am 0 cm, .slice ax 16 cx] [.slice am 0 cm, .slice ax 16 cx] 29 m hm
 replace Bp := hidden (Bp.out.ext XN)
 replace hE := hidden (hE.out.trans XN)
 have Bm := hidden BN
 replace XN := hidden XN
 replace hV2V := hidden hV2V
 clear BN
 go_upto_region 3 with fail
 rw [hV2V.out]
 clear hV2V hm
 replace hC := hidden (Rd.ext hC.out XN.out : Cod _ _ _)
 replace hM := hidden (hM.out.ext XN.out)
 clear XN
 obtain ⟨cp0, cp1, cp2⟩ := Bp.out.c3
 obtain ⟨cm0, cm1⟩ := Bm.out.c2
 have hru := hidden (irun2_any (.slice none 0 0) (.slice ac 9 cc) (.slice am 0 cm) (.slice ax 16 cx) [] 1 (cntC 3) [] (List.replicate 16 0) 0 false 100 oka_nil (oki_cnt (by decide) (by decide)) (by decide) (by decide) (by decide) (by decide) ⟨by decide, by decide⟩ (fun _ h => by cases h) (u32_zeros 16) (fun _ h => by cases h) V2 (rd_none _ _) hC.out hM.out)
 rw [ex_cnt] at hru
 replace hru := hidden (cal_ok hru.out)
 go_wp2_with fail
 refine hru.out.mono ?_
 rintro x w3 ⟨ra, rc, ro, rfl, hRm, hRo, hX⟩
 obtain ⟨am, cm, ax, cx, rfl, rfl⟩ := hRm.shape 0 16 rfl rfl
 obtain ⟨ao, co, rfl, -⟩ := Rd.shape (show Rd w3 1 ro 3 _ from hRo)
 clear hRm
 clear cp0 cp1 cp2 cm0 cm1
 replace Bp := hidden (Bp.out.ext hX)
 replace Bm := hidden (Bm.out.ext hX)
 replace hE := hidden (hE.out.trans hX)
 replace hRo := hidden hRo
 clear hX hru hC hM Bp Bm
 obtain ⟨r, hr⟩ := ex w3.heap.size
 obtain ⟨V3, hV3V, XN, BN⟩ := alx w3 #[.slice am 0 cm, .slice ax 16 cx, .slice ao 3 co, .int .i64 23] [.slice am 0 cm, .slice ax 16 cx, .slice ao 3 co, .int .i64 23] 48 r hr
 replace hE := hidden (hE.out.trans XN)
 have Br := hidden BN
 replace XN := hidden XN
 replace hV3V := hidden hV3V
 clear BN
 go_upto_region 4 with fail
 rw [hV3V.out]
 clear hV3V hr
 replace hRo := hidden (hRo.out.ext XN.out)
 clear XN
 have XL := (Ext.refl V3).alloc (.cells #[.int .i64 0, .int .i64 1, .int .i64 0, .int .i64 0, .int .i64 11, .int .i64 0] 3)
 have hR : Rd _ 1 _ 6 _ := rd_newc V3 [.int .i64 0, .int .i64 1, .int .i64 0, .int .i64 0, .int .i64 11, .int .i64 0] 3 1 6 rfl (by decide)
 have hcl := hidden (lcode_any 0 _ divC (by unfold U32; decide) (by decide) _ (show Rd _ 1 _ (2 * divC.length) (divC.flatMap cL) from hR))
 clear hR
 replace XL := hidden XL
 go_wp2_with fail
 refine hcl.out.mono ?_
 rintro x w4 ⟨vc, rfl, hC, hX⟩
 obtain ⟨ac, cc, rfl, -⟩ := own_shape (show World.ownsRow _ _ 63 2 vc 3 _ from hC)
 replace hX := XL.out.trans hX
 replace Br := hidden (Br.out.ext hX)
 replace hE := hidden (hE.out.trans hX)
 replace hC := hidden (show Cod _ (.slice ac 3 cc) divC from Rd.of_own hC)
 replace hRo := hidden (hRo.out.ext hX)
 clear hX hcl XL
 obtain ⟨d, hd⟩ := ex w4.heap.size
 obtain ⟨V4, hV4V, XN, BN⟩ := alx w4 #[.slice none 0 0, .int .i64 0, .slice ac 3 cc] [.slice none 0 0, .int .i64 0, .slice ac 3 cc] 25 d hd
 replace Br := hidden (Br.out.ext XN)
 replace hE := hidden (hE.out.trans XN)
 have Bd := hidden BN
 replace XN := hidden XN
 replace hV4V := hidden hV4V
 clear BN
 go_upto_region 5 with fail
 rw [hV4V.out]
 clear hV4V hd
 replace hC := hidden (Rd.ext hC.out XN.out : Cod _ _ _)
 replace hRo := hidden (hRo.out.ext XN.out)
 clear XN
 obtain ⟨cd0, cd1, cd2⟩ := Bd.out.c3
 have hst := hidden (istart2_any (.slice none 0 0) (.slice ac 3 cc) [] 0 divC oka_nil oki_div (by decide) (by decide) form_div V4 (rd_none _ _) hC.out)
 go_wp2_with fail
 refine hst.out.mono ?_
 rintro x w5 ⟨ma, mc, rfl, hM, hX⟩
 obtain ⟨am, cm, ax, cx, rfl, rfl⟩ := hM.shape 0 16 rfl rfl
 clear cd0 cd1 cd2
 replace Br := hidden (Br.out.ext hX)
 replace Bd := hidden (Bd.out.ext hX)
 replace hE := hidden (hE.out.trans hX)
 replace hC := hidden (Rd.ext hC.out hX : Cod _ _ _)
 replace hM := hidden hM
 replace hRo := hidden (hRo.out.ext hX)
 clear hX hst
 obtain ⟨n, hn⟩ := ex w5.heap.size
 obtain ⟨V5, hV5V, XN, BN⟩ := alx w5 #[.slice am 0 cm, .slice ax 16 cx] [.slice am 0 cm, .slice ax 16 cx] 29 n hn
 replace Br := hidden (Br.out.ext XN)
 replace Bd := hidden (Bd.out.ext XN)
 replace hE := hidden (hE.out.trans XN)
 have Bn := hidden BN
 replace XN := hidden XN
 replace hV5V := hidden hV5V
 clear BN
 go_upto_region 6 with fail
 rw [hV5V.out]
 clear hV5V hn
 replace hC := hidden (Rd.ext hC.out XN.out : Cod _ _ _)
 replace hM := hidden (hM.out.ext XN.out)
 replace hRo := hidden (hRo.out.ext XN.out)
 clear XN
 obtain ⟨cd0, cd1, cd2⟩ := Bd.out.c3
 obtain ⟨cn0, cn1⟩ := Bn.out.c2
 have hru := hidden (irun2_any (.slice none 0 0) (.slice ac 3 cc) (.slice am 0 cm) (.slice ax 16 cx) [] 0 divC [] (List.replicate 16 0) 0 false 3 oka_nil oki_div (by decide) (by decide) (by decide) (by decide) ⟨by decide, by decide⟩ (fun _ h => by cases h) (u32_zeros 16) (fun _ h => by cases h) V5 (rd_none _ _) hC.out hM.out)
 rw [ex_div] at hru
 replace hru := hidden (cal_err hru.out)
 go_wp2_with fail
 refine hru.out.mono ?_
 rintro x w6 ⟨rfl, hX⟩
 clear cd0 cd1 cd2 cn0 cn1
 replace Br := hidden (Br.out.ext hX)
 replace Bd := hidden (Bd.out.ext hX)
 replace Bn := hidden (Bn.out.ext hX)
 replace hE := hidden (hE.out.trans hX)
 replace hC := hidden (Rd.ext hC.out hX : Cod _ _ _)
 replace hM := hidden (hM.out.ext hX)
 replace hRo := hidden (hRo.out.ext hX)
 clear hX hru
 obtain ⟨e1, he1⟩ := ex w6.heap.size
 obtain ⟨V6, hV6V, XN, BN⟩ := alx w6 #[.slice none 0 0, .slice none 0 0, .slice none 0 0, .int .i64 0] [.slice none 0 0, .slice none 0 0, .slice none 0 0, .int .i64 0] 48 e1 he1
 replace Br := hidden (Br.out.ext XN)
 replace Bd := hidden (Bd.out.ext XN)
 replace Bn := hidden (Bn.out.ext XN)
 replace hE := hidden (hE.out.trans XN)
 have Be1 := hidden BN
 replace XN := hidden XN
 replace hV6V := hidden hV6V
 clear BN
 clear Be1
 go_upto_region 7 with fail
 rw [hV6V.out]
 clear hV6V he1
 replace hC := hidden (Rd.ext hC.out XN.out : Cod _ _ _)
 replace hM := hidden (hM.out.ext XN.out)
 replace hRo := hidden (hRo.out.ext XN.out)
 clear XN
 obtain ⟨cd0, cd1, cd2⟩ := Bd.out.c3
 obtain ⟨cn0, cn1⟩ := Bn.out.c2
 have hru := hidden (irun2_any (.slice none 0 0) (.slice ac 3 cc) (.slice am 0 cm) (.slice ax 16 cx) [] 0 divC [] (List.replicate 16 0) 0 false 2 oka_nil oki_div (by decide) (by decide) (by decide) (by decide) ⟨by decide, by decide⟩ (fun _ h => by cases h) (u32_zeros 16) (fun _ h => by cases h) V6 (rd_none _ _) hC.out hM.out)
 rw [ex_div2] at hru
 replace hru := hidden (cal_err hru.out)
 go_wp2_with fail
 refine hru.out.mono ?_
 rintro x w7 ⟨rfl, hX⟩
 clear cd0 cd1 cd2 cn0 cn1
 replace Br := hidden (Br.out.ext hX)
 replace Bd := hidden (Bd.out.ext hX)
 replace Bn := hidden (Bn.out.ext hX)
 replace hE := hidden (hE.out.trans hX)
 replace hC := hidden (Rd.ext hC.out hX : Cod _ _ _)
 replace hM := hidden (hM.out.ext hX)
 replace hRo := hidden (hRo.out.ext hX)
 clear hX hru
 obtain ⟨e2, he2⟩ := ex w7.heap.size
 obtain ⟨V7, hV7V, XN, BN⟩ := alx w7 #[.slice none 0 0, .slice none 0 0, .slice none 0 0, .int .i64 0] [.slice none 0 0, .slice none 0 0, .slice none 0 0, .int .i64 0] 48 e2 he2
 replace Br := hidden (Br.out.ext XN)
 replace Bd := hidden (Bd.out.ext XN)
 replace Bn := hidden (Bn.out.ext XN)
 replace hE := hidden (hE.out.trans XN)
 have Be2 := hidden BN
 replace XN := hidden XN
 replace hV7V := hidden hV7V
 clear BN
 clear Be2
 go_upto_region 8 with fail
 rw [hV7V.out]
 clear hV7V he2
 replace hRo := hidden (hRo.out.ext XN.out)
 clear XN hC hM Bd Bn
 have XL := (Ext.refl V7).alloc (.cells #[.int .i64 0, .int .i64 1, .int .i64 0, .int .i64 300, .int .i64 4, .int .i64 0] 3)
 have hR : Rd _ 1 _ 6 _ := rd_newc V7 [.int .i64 0, .int .i64 1, .int .i64 0, .int .i64 300, .int .i64 4, .int .i64 0] 3 1 6 rfl (by decide)
 have hcl := hidden (lcode_any 0 _ putC (by unfold U32; decide) (by decide) _ (show Rd _ 1 _ (2 * putC.length) (putC.flatMap cL) from hR))
 clear hR
 replace XL := hidden XL
 go_wp2_with fail
 refine hcl.out.mono ?_
 rintro x w8 ⟨vc, rfl, hC, hX⟩
 obtain ⟨ac, cc, rfl, -⟩ := own_shape (show World.ownsRow _ _ 63 2 vc 3 _ from hC)
 replace hX := XL.out.trans hX
 replace Br := hidden (Br.out.ext hX)
 replace hE := hidden (hE.out.trans hX)
 replace hC := hidden (show Cod _ (.slice ac 3 cc) putC from Rd.of_own hC)
 replace hRo := hidden (hRo.out.ext hX)
 clear hX hcl XL
 obtain ⟨u, hu⟩ := ex w8.heap.size
 obtain ⟨V8, hV8, XN, BN⟩ := alx w8 #[.slice none 0 0, .int .i64 0, .slice ac 3 cc] [.slice none 0 0, .int .i64 0, .slice ac 3 cc] 25 u hu
 replace BN := hidden BN
 replace XN := hidden XN
 replace hV8 := hidden hV8
 go_upto_region 9 with fail
 rw [hV8.out]
 clear hV8
 obtain ⟨q, hq⟩ := ex V8.heap.size
 have XQ := (Ext.refl V8).alloc (.cells #[.bool false, .int .i64 2] 70)
 have BQ := blk_at1 V8 [.bool false, .int .i64 2] 70 q hq
 have BU := BN.out.ext XQ
 obtain ⟨k0, k1, k2⟩ := BU.c3
 have l0 := BU.frozen 0
 have BQ2 := BQ.chg (((Chg.refl [u] _).setCell (p := ⟨u, 0, none⟩) (Or.inl (by simp)) (.slice (some ⟨q, 0, none⟩) 1 1))) (by have := BN.out.lt; simp; omega)
 have BU2 := BU.set 0 (.slice (some ⟨q, 0, none⟩) 1 1)
 have X9 := (XN.out.trans XQ).setCell (p := ⟨u, 0, none⟩) (Nat.le_of_eq hu) (.slice (some ⟨q, 0, none⟩) 1 1)
 replace BQ2 := hidden BQ2
 replace BU2 := hidden BU2
 replace X9 := hidden X9
 clear BQ BU BN XQ
 go_upto_region 10 with fail
 obtain ⟨V9, hV9⟩ := ex ((V8.alloc (.cells #[.bool false, .int .i64 2] 70)).setCell ⟨u, 0, none⟩ (.slice (some ⟨q, 0, none⟩) 1 1))
 have BQ := BQ2.out
 have BU := BU2.out
 have X9' := X9.out
 rw [show (V8.alloc (.cells ([.bool false, .int .i64 2] : List Value).toArray 70)) = V8.alloc (.cells #[.bool false, .int .i64 2] 70) from rfl, hV9] at BQ
 rw [hV9] at BU X9' ⊢
 clear hV9 k0 k1 k2 l0 BQ2 BU2 X9 hq hu
 clear XN
 replace Br := hidden (Br.out.ext X9')
 replace hE := hidden (hE.out.trans X9')
 replace hC := hidden (Rd.ext hC.out X9' : Cod _ _ _)
 replace hRo := hidden (hRo.out.ext X9')
 have hAr : Arr V9 (.slice (some ⟨q, 0, none⟩) 1 1) [(false, 2)] := rd_blkY (n := 1) (sz := 2) BQ rfl (by decide)
 obtain ⟨k0, k1, k2⟩ := BU.c3
 have hfe := hidden (ifeed_any (.slice (some ⟨q, 0, none⟩) 1 1) (.slice ac 3 cc) (.slice none 0 0) [(false, 2)] 0 putC [] 3 (by unfold OkA; decide) oki_put (by decide) (by decide) (by decide) (by decide) (fun _ h => by cases h) V9 hAr hC.out (rd_none _ _))
 rw [ex_put] at hfe
 replace hfe := hidden (cal_ok hfe.out)
 clear X9' BQ BU hAr
 go_wp2_with fail
 refine hfe.out.mono ?_
 rintro x w10 ⟨va, vx, vo, rfl, hM, hVo, hX⟩
 obtain ⟨am, cm, ax, cx, rfl, rfl⟩ := hM.shape 1 16 rfl rfl
 obtain ⟨av, cv, rfl, -⟩ := Rd.shape (show Rd w10 1 vo 0 _ from hVo)
 clear hfe k0 k1 k2 hC hVo
 replace Br := hidden (Br.out.ext hX)
 replace hE := hidden (hE.out.trans hX)
 replace hRo := hidden (hRo.out.ext hX)
 replace hM := hidden hM
 clear hX
 obtain ⟨k, hk⟩ := ex w10.heap.size
 obtain ⟨V10, hV10V, XN, BN⟩ := alx w10 #[.slice am 1 cm, .slice ax 16 cx, .slice av 0 cv, .int .i64 3] [.slice am 1 cm, .slice ax 16 cx, .slice av 0 cv, .int .i64 3] 48 k hk
 replace Br := hidden (Br.out.ext XN)
 replace hE := hidden (hE.out.trans XN)
 have Bk := hidden BN
 replace XN := hidden XN
 replace hV10V := hidden hV10V
 clear BN
 go_upto_region 11 with fail
 rw [hV10V.out]
 clear hV10V hk
 replace hRo := hidden (hRo.out.ext XN.out)
 replace hM := hidden (hM.out.ext XN.out)
 clear XN
 obtain ⟨ck0, ck1, ck2, ck3⟩ := Bk.out.c4
 obtain ⟨cr0, cr1, cr2, cr3⟩ := Br.out.c4
 have X8 := (Ext.refl V10).alloc (.cells #[.int .u8 0, .int .u8 1, .int .u8 2] 5)
 have heq := hidden (eq8_any (.slice ao 3 co) (.slice (some ⟨V10.heap.size, 0, none⟩) 3 3) [0, 1, 2] [0, 1, 2] _ (hRo.out.ext X8) (rd_newc V10 [.int .u8 0, .int .u8 1, .int .u8 2] 5 1 3 rfl (by decide)))
 replace X8 := hidden X8
 go_wp2_with fail
 refine heq.out.mono ?_
 rintro x w11 ⟨rfl, hX⟩
 replace hX := X8.out.trans hX
 simp only [decide_true]
 clear heq X8
 clear ck0 ck1 ck2 ck3 cr0 cr1 cr2 cr3
 replace Br := hidden (Br.out.ext hX)
 replace Bk := hidden (Bk.out.ext hX)
 replace hE := hidden (hE.out.trans hX)
 replace hM := hM.out.ext hX
 clear hX hRo
 obtain ⟨vs, m1, m2, -⟩ := hM
 obtain ⟨v0, rfl⟩ : ∃ v, vs = [v] := by
  have := m1.1
  match vs, this with
  | [v], _ => exact ⟨v, rfl⟩
 have m3 := m2 0 v0 [0, 44] rfl rfl
 obtain ⟨a0, c0, rfl, -⟩ := Rd.shape (show Rd w11 1 v0 2 _ from m3)
 obtain ⟨mb, mo, rfl, -, -⟩ := Rd.cells (cs := [.slice a0 2 c0]) (w := w11) (sz := 1) m1 (show 0 < 1 by decide)
 have n0 := rd_at m1 0 _ rfl
 rw [Nat.add_zero] at n0
 obtain ⟨ck0, ck1, ck2, ck3⟩ := Bk.out.c4
 obtain ⟨cr0, cr1, cr2, cr3⟩ := Br.out.c4
 have X8 := (Ext.refl w11).alloc (.cells #[.int .u32 0, .int .u32 44] 42)
 have heq := hidden (eq32_any (.slice a0 2 c0) (.slice (some ⟨w11.heap.size, 0, none⟩) 2 2) [0, 44] [0, 44] _ (Rd.ext m3 X8) (rd_newc w11 [.int .u32 0, .int .u32 44] 42 1 2 rfl (by decide)))
 replace X8 := hidden X8
 clear m1 m2 m3
 go_wp2_with fail
 refine heq.out.mono ?_
 rintro x w12 ⟨rfl, hX⟩
 replace hX := X8.out.trans hX
 simp only [decide_true]
 clear heq X8 n0
 clear ck0 ck1 ck2 ck3 cr0 cr1 cr2 cr3
 replace Br := hidden (Br.out.ext hX)
 replace Bk := hidden (Bk.out.ext hX)
 replace hE := hidden (hE.out.trans hX)
 clear hX
 obtain ⟨ck0, ck1, ck2, ck3⟩ := Bk.out.c4
 obtain ⟨cr0, cr1, cr2, cr3⟩ := Br.out.c4
 go_wp2_with fail
 go_ret
 exact ⟨rfl, hE.out⟩
theorem run_oks {E : Env} (hE : OkE E) : ∀ (n : Nat) (s : MS) (ar : List (List Int)) (cx out : List Int) (st : Int), OkS E s → 0 ≤ s.pc → runN E n s = some (.ok (ar, cx, out, st)) → ∃ s', OkS E s' ∧ s'.ar = ar ∧ s'.cx = cx ∧ s'.out = out ∧ s'.steps = st
 | 0, s, ar, cx, out, st, _, _, h => by cases h
 | n + 1, s, ar, cx, out, st, hs, h0, h => by
  unfold runN at h
  by_cases h1 : (E.C.length : Int) ≤ s.pc
  ·rw [if_pos h1] at h
   by_cases h2 : s.st = []
   ·rw [if_pos h2] at h
    simp only [Option.some.injEq, Except.ok.injEq, Prod.mk.injEq] at h
    obtain ⟨rfl, rfl, rfl, rfl⟩ := h
    exact ⟨s, hs, rfl, rfl, rfl, rfl⟩
   ·rw [if_neg h2] at h
    simp at h
  ·rw [if_neg h1] at h
   cases hx : stepF E s with
   | stuck => rw [hx] at h; cases h
   | err e => rw [hx] at h; simp at h
   | go t =>
    rw [hx] at h
    obtain ⟨i1, i2, -⟩ := keeps_step hE hs h0 (by omega) hx
    exact run_oks hE n t ar cx out st i1 i2 h
def wF (E : Env) (f : Int) : Env := { E with fuel := f }
def Qf (f : Int) (s : MS) (r r' : Rs) : Prop := ∀ t, r = .go t → s.steps ≤ t.steps ∧ (t.steps ≤ f → r' = .go t) ∧ (s.steps ≤ f → f < t.steps → r' = .err 19)
theorem Qf.same {f : Int} {s : MS} {r : Rs} (h : ∀ t, r = .go t → t.steps = s.steps) : Qf f s r r := fun t e => by
 have := h t e
 exact ⟨by omega, fun _ => e, fun h1 h2 => absurd h2 (by omega)⟩
theorem Qf.go {f : Int} {s t : MS} (h : t.steps = s.steps) : Qf f s (.go t) (.go t) := Qf.same fun _ e => by cases e; exact h
theorem Qf.stuck {f : Int} {s : MS} : Qf f s .stuck .stuck := fun _ e => by cases e
theorem Qf.err {f : Int} {s : MS} (e : Int) : Qf f s (.err e) (.err e) := fun _ e => by cases e
theorem Qf.push (f : Int) (s : MS) (l : List Vl) : Qf f s (pushF l s) (pushF l s) := Qf.same fun _ h => push_steps h
theorem Qf.tick {E : Env} {f : Int} {s s1 : MS} (h : s1.steps = s.steps) : Qf f s (tickF E s1) (tickF (wF E f) s1) := by
 intro t ht
 obtain ⟨e1, e2⟩ := tick_steps ht
 have ht' : t = { s1 with steps := s1.steps + 1 } := by
  unfold tickF at ht
  rw [if_pos e2] at ht
  cases ht
  rfl
 refine ⟨by omega, fun h1 => ?_, fun h1 h2 => ?_⟩
 ·unfold tickF
  rw [if_pos (show s1.steps < (wF E f).fuel by show s1.steps < f; omega), ht']
 ·unfold tickF
  rw [if_neg (show ¬ s1.steps < (wF E f).fuel by show ¬ s1.steps < f; omega)]
theorem Qf.ite {f : Int} {s : MS} {c : Prop} [Decidable c] {a b a' b' : Rs} (h1 : c → Qf f s a a') (h2 : ¬ c → Qf f s b b') : Qf f s (if c then a else b) (if c then a' else b') := by
 by_cases h : c
 ·rw [if_pos h, if_pos h]; exact h1 h
 ·rw [if_neg h, if_neg h]; exact h2 h
theorem exe_fuel (E : Env) (f op arg : Int) (l : List Vl) (s : MS) : Qf f s (exeF E op arg l s) (exeF (wF E f) op arg l s) := by
 unfold exeF
 refine Qf.ite (fun _ => Qf.push _ _ _) (fun _ => ?_)
 refine Qf.ite (fun _ => Qf.push _ _ _) (fun _ => ?_)
 refine Qf.ite (fun _ => Qf.go rfl) (fun _ => ?_)
 refine Qf.ite (fun _ => ?_) (fun _ => ?_)
 ·unfold getF
  exact Qf.ite (fun _ => Qf.err _) (fun _ => Qf.push _ _ _)
 refine Qf.ite (fun _ => ?_) (fun _ => ?_)
 ·unfold putF
  exact Qf.ite (fun _ => Qf.err _) (fun _ => Qf.go rfl)
 refine Qf.ite (fun _ => Qf.push _ _ _) (fun _ => ?_)
 refine Qf.ite (fun _ => Qf.go rfl) (fun _ => ?_)
 refine Qf.ite (fun _ => Qf.push _ _ _) (fun _ => ?_)
 refine Qf.ite (fun _ => ?_) (fun _ => ?_)
 ·unfold chooseF
  refine Qf.ite (fun _ => Qf.stuck) (fun _ => Qf.ite (fun _ => Qf.go rfl) (fun _ => ?_))
  show Qf f s (match toF E s.pc with | none => _ | some t => _) (match toF E s.pc with | none => _ | some t => _)
  split
  ·exact Qf.stuck
  ·exact Qf.ite (fun _ => Qf.go rfl) (fun _ => Qf.ite (fun _ => Qf.go rfl) (fun _ => Qf.stuck))
 refine Qf.ite (fun _ => ?_) (fun _ => ?_)
 ·unfold otherF
  split
  ·exact Qf.stuck
  ·refine Qf.ite (fun _ => Qf.err _) (fun _ => ?_)
   show Qf f s (match toF E s.pc with | none => _ | some t => _) (match toF E s.pc with | none => _ | some t => _)
   split
   ·exact Qf.stuck
   ·exact Qf.ite (fun _ => Qf.go rfl) (fun _ => Qf.stuck)
 refine Qf.ite (fun _ => ?_) (fun _ => ?_)
 ·unfold loopF
  refine Qf.ite (fun _ => Qf.err _) (fun _ => Qf.ite (fun _ => ?_) (fun _ => Qf.ite (fun _ => Qf.stuck) (fun _ => Qf.tick rfl)))
  show Qf f s (match toF E s.pc with | none => _ | some t => _) (match toF E s.pc with | none => _ | some t => _)
  split
  ·exact Qf.stuck
  ·exact Qf.go rfl
 refine Qf.ite (fun _ => ?_) (fun _ => ?_)
 ·unfold leaveF
  split
  ·exact Qf.stuck
  ·refine Qf.ite (fun _ => Qf.err _) (fun _ => Qf.ite (fun _ => Qf.go rfl) (fun _ => ?_))
   show Qf f s (match toF E s.pc with | none => _ | some t => _) (match toF E s.pc with | none => _ | some t => _)
   split
   ·exact Qf.stuck
   ·exact Qf.go rfl
 refine Qf.ite (fun _ => ?_) (fun _ => ?_)
 ·unfold endF
  split
  ·exact Qf.stuck
  ·refine Qf.ite (fun _ => Qf.err _) (fun _ => Qf.ite (fun _ => Qf.tick rfl) (fun _ => Qf.go rfl))
 refine Qf.ite (fun _ => Qf.push _ _ _) (fun _ => ?_)
 refine Qf.ite (fun _ => Qf.push _ _ _) (fun _ => ?_)
 refine Qf.ite (fun _ => ?_) (fun _ => ?_)
 ·unfold emitF
  exact Qf.ite (fun _ => Qf.go rfl) (fun _ => Qf.err _)
 refine Qf.ite (fun _ => Qf.go rfl) (fun _ => ?_)
 unfold calcF
 exact Qf.ite (fun _ => Qf.err _) (fun _ => Qf.push _ _ _)
theorem step_fuel (E : Env) (f : Int) (s : MS) : Qf f s (stepF E s) (stepF (wF E f) s) := by
 intro t ht
 unfold stepF at ht ⊢
 change _ ∧ ((_ → (if ¬(opS E s = 28 ∨ opS E s = 31) ∧ ¬s.steps < f then Rs.err 19 else if exiF E (opS E s) (argS E s) = false then Rs.err 2 else match popF (opAt (opS E s)).2.1.data.toList s.st (baseF s.fr) with | .error e => Rs.err e | .ok (l, r) => nextF (exeF (wF E f) (opS E s) (argS E s) l (s1F E s r))) = _) ∧ (_ → _ → (if ¬(opS E s = 28 ∨ opS E s = 31) ∧ ¬s.steps < f then Rs.err 19 else if exiF E (opS E s) (argS E s) = false then Rs.err 2 else match popF (opAt (opS E s)).2.1.data.toList s.st (baseF s.fr) with | .error e => Rs.err e | .ok (l, r) => nextF (exeF (wF E f) (opS E s) (argS E s) l (s1F E s r))) = _))
 by_cases h1 : ¬ (opS E s = 28 ∨ opS E s = 31) ∧ ¬ s.steps < E.fuel
 ·rw [if_pos h1] at ht; cases ht
 ·rw [if_neg h1] at ht
  by_cases h2 : exiF E (opS E s) (argS E s) = false
  ·rw [if_pos h2] at ht; cases ht
  ·rw [if_neg h2] at ht ⊢
   cases hp : popF (opAt (opS E s)).2.1.data.toList s.st (baseF s.fr) with
   | error e => rw [hp] at ht; cases ht
   | ok lr =>
    obtain ⟨l, r⟩ := lr
    rw [hp] at ht
    simp only at ht ⊢
    cases hx : exeF E (opS E s) (argS E s) l (s1F E s r) with
    | stuck => rw [hx] at ht; cases ht
    | err e => rw [hx] at ht; cases ht
    | go t' =>
     rw [hx] at ht
     unfold nextF at ht
     cases ht
     obtain ⟨q0, q1, q2⟩ := exe_fuel E f _ _ _ _ t' hx
     have hs1 : (s1F E s r).steps = if opS E s = 28 ∨ opS E s = 31 then s.steps else s.steps + 1 := rfl
     by_cases h3 : opS E s = 28 ∨ opS E s = 31
     ·rw [if_pos h3] at hs1
      refine ⟨by show s.steps ≤ t'.steps; omega, fun g => ?_, fun g1 g2 => ?_⟩
      ·rw [if_neg (fun h => h.1 h3), q1 g]; rfl
      ·rw [if_neg (fun h => h.1 h3), q2 (by omega) g2]; rfl
     ·rw [if_neg h3] at hs1
      refine ⟨by show s.steps ≤ t'.steps; omega, fun g => ?_, fun g1 g2 => ?_⟩
      ·change t'.steps ≤ f at g
       rw [if_neg (fun h => h.2 (by omega)), q1 g]; rfl
      ·change f < t'.steps at g2
       by_cases h4 : s.steps < f
       ·rw [if_neg (fun h => h.2 h4), q2 (by omega) g2]; rfl
       ·rw [if_pos ⟨h3, h4⟩]
theorem run_fuel (E : Env) (f : Int) : ∀ (n : Nat) (s : MS) (ar : List (List Int)) (cx out : List Int) (st : Int), runN E n s = some (.ok (ar, cx, out, st)) → s.steps ≤ f → s.steps ≤ st ∧ (st ≤ f → runN (wF E f) n s = some (.ok (ar, cx, out, st))) ∧ (f < st → runN (wF E f) n s = some (.error 19))
 | 0, s, ar, cx, out, st, h, _ => by cases h
 | n + 1, s, ar, cx, out, st, h, hf => by
  unfold runN at h ⊢
  by_cases h1 : (E.C.length : Int) ≤ s.pc
  ·rw [if_pos h1] at h
   by_cases h2 : s.st = []
   ·rw [if_pos h2] at h
    simp only [Option.some.injEq, Except.ok.injEq, Prod.mk.injEq] at h
    obtain ⟨rfl, rfl, rfl, rfl⟩ := h
    refine ⟨Int.le_refl _, fun _ => ?_, fun g => absurd g (by omega)⟩
    rw [if_pos (show ((wF E f).C.length : Int) ≤ s.pc from h1), if_pos h2]
   ·rw [if_neg h2] at h
    simp at h
  ·rw [if_neg h1] at h
   rw [if_neg (show ¬ ((wF E f).C.length : Int) ≤ s.pc from h1)]
   cases hx : stepF E s with
   | stuck => rw [hx] at h; cases h
   | err e => rw [hx] at h; simp at h
   | go t =>
    rw [hx] at h
    simp only at h
    obtain ⟨q0, q1, q2⟩ := step_fuel E f s t hx
    by_cases hle : t.steps ≤ f
    ·rw [q1 hle]
     obtain ⟨r0, r1, r2⟩ := run_fuel E f n t ar cx out st h hle
     exact ⟨by omega, r1, r2⟩
    ·rw [q2 hf (by omega)]
     have : t.steps ≤ st := by
      have := run_fuel E t.steps n t ar cx out st h (Int.le_refl _)
      exact this.1
     exact ⟨by omega, fun g => absurd g (by omega), fun _ => rfl⟩
theorem runR_fuel {A : List (Bool × Int)} {L : Int} {C : List (Int × Int)} {ar ar' : List (List Int)} {cx cx' out out' : List Int} {st st' fu fu' inp : Int} {en : Bool} (hC : OkI C) (hu : usE A L C = 0) (hi : U32 inp) (h : Mid A ar cx out st fu) (h' : Mid A ar cx out st fu')
  (hr : runR A L C ar cx inp en (fu - st) = .ok (ar', cx', out', st')) :
  0 ≤ st' ∧ (st + st' ≤ fu' → runR A L C ar cx inp en (fu' - st) = .ok (ar', cx', out', st')) ∧ (fu' < st + st' → runR A L C ar cx inp en (fu' - st) = .error 19) := by
 obtain ⟨e1, -, -, n, hn⟩ := mid_run (L := L) (en := en) (inp := inp) hC hu hi h
 obtain ⟨f1, f2, f3, m, hm⟩ := mid_run (L := L) (en := en) (inp := inp) hC hu hi h'
 rw [e1] at hr
 rw [hr] at hn
 have h1 := h'.s1
 obtain ⟨r0, r1, r2⟩ := run_fuel _ (fu' - st) n _ _ _ _ _ hn (by show (0 : Int) ≤ _; omega)
 change (0 : Int) ≤ st' at r0
 have hw : wF (envOf A L C inp en (fu - st)) (fu' - st) = envOf A L C inp en (fu' - st) := rfl
 rw [hw] at r1 r2
 have hs : startS (envOf A L C inp en (fu - st)) ar cx = startS (envOf A L C inp en (fu' - st)) ar cx := rfl
 rw [hs] at r1 r2
 refine ⟨r0, fun g => ?_, fun g => ?_⟩
 ·rw [f1]; exact runN_unique hm (r1 (by omega))
 ·rw [f1]; exact runN_unique hm (r2 (by omega))
theorem mid_after {A : List (Bool × Int)} {L : Int} {C : List (Int × Int)} {ar ar' : List (List Int)} {cx cx' out out' : List Int} {st st' fu inp : Int} {en : Bool} (hC : OkI C) (hu : usE A L C = 0) (hi : U32 inp) (h : Mid A ar cx out st fu)
  (hr : runR A L C ar cx inp en (fu - st) = .ok (ar', cx', out', st')) (hl : (out ++ out').length ≤ 65536) : Mid A ar' cx' (out ++ out') (st + st') fu := by
 obtain ⟨e1, e2, e3, n, hn⟩ := mid_run (L := L) (en := en) (inp := inp) hC hu hi h
 rw [e1] at hr
 rw [hr] at hn
 obtain ⟨s', hs, rfl, rfl, rfl, rfl⟩ := run_oks e2 n _ _ _ _ _ e3 (Int.le_refl _) hn
 exact mid_next hC hu hi h hn hs hl
theorem feed_fuel {A : List (Bool × Int)} {L : Int} {C : List (Int × Int)} {D : List Int} {fu fu' : Int} (hC : OkI C) (hu : usE A L C = 0) (hD : ∀ x ∈ D, 0 ≤ x ∧ x ≤ 255) (hf1 : fu' ≤ 281474976710656) : ∀ (m i : Nat) (ar ar' : List (List Int)) (cx cx' out out' : List Int) (st st' : Int), Mid A ar cx out st fu → st ≤ fu' → feedF A L C D fu m i ar cx out st = .ok (ar', cx', out', st') →
  st ≤ st' ∧ Mid A ar' cx' out' st' fu ∧ (st' ≤ fu' → feedF A L C D fu' m i ar cx out st = .ok (ar', cx', out', st')) ∧ (fu' < st' → feedF A L C D fu' m i ar cx out st = .error 19)
 | 0, i, ar, ar', cx, cx', out, out', st, st', hm, hs, h => by
  unfold feedF at h ⊢
  simp only [Except.ok.injEq, Prod.mk.injEq] at h
  obtain ⟨rfl, rfl, rfl, rfl⟩ := h
  exact ⟨Int.le_refl _, hm, fun _ => rfl, fun g => absurd g (by omega)⟩
 | m + 1, i, ar, ar', cx, cx', out, out', st, st', hm, hs, h => by
  unfold feedF at h ⊢
  obtain ⟨inp, hinp⟩ : ∃ inp, (if i < D.length then D.getD i 0 else 0) = inp := ⟨_, rfl⟩
  have hi : U32 inp := by
   rw [← hinp]
   by_cases hlt : i < D.length
   ·rw [if_pos hlt]
    have := hD _ (getD_mem (d := 0) hlt)
    exact ⟨by omega, by omega⟩
   ·rw [if_neg hlt]; exact ⟨by decide, by decide⟩
  rw [hinp] at h ⊢
  have hm' : Mid A ar cx out st fu' := ⟨hm.fit, hm.au, hm.cu, hm.ob, hm.ol, hm.s0, hs, hm.al, hf1⟩
  cases hr : runR A L C ar cx inp (decide (i = D.length)) (fu - st) with
  | error e => rw [hr] at h; simp at h
  | ok r =>
   obtain ⟨ar1, cx1, out1, st1⟩ := r
   rw [hr] at h
   simp only at h
   obtain ⟨q0, q1, q2⟩ := runR_fuel hC hu hi hm hm' hr
   by_cases hl : 65536 < (out ++ out1).length
   ·rw [if_pos hl] at h; simp at h
   ·rw [if_neg hl] at h
    have hma := mid_after hC hu hi hm hr (by omega)
    by_cases hle : st + st1 ≤ fu'
    ·rw [q1 hle]
     simp only
     rw [if_neg hl]
     obtain ⟨r0, r1, r2, r3⟩ := feed_fuel (fu' := fu') hC hu hD hf1 m (i + 1) _ _ _ _ _ _ _ _ hma hle h
     exact ⟨by omega, r1, r2, r3⟩
    ·rw [q2 (by omega)]
     obtain ⟨r0, r1, -, -⟩ := feed_fuel (fu' := fu) hC hu hD hm.f1 m (i + 1) _ _ _ _ _ _ _ _ hma hma.s1 h
     exact ⟨by omega, r1, fun g => absurd g (by omega), fun _ => rfl⟩
theorem feedR_fuel {A : List (Bool × Int)} {L : Int} {C : List (Int × Int)} {D : List Int} {fu fu' : Int} {ar : List (List Int)} {cx out : List Int} {st : Int} (hC : OkI C) (hD : ∀ x ∈ D, 0 ≤ x ∧ x ≤ 255) (h : feedR A L C D fu = .ok (ar, cx, out, st)) (h0 : 0 ≤ fu') (h1 : fu' ≤ 281474976710656) :
  0 ≤ st ∧ st ≤ fu ∧ (∀ x ∈ out, 0 ≤ x ∧ x ≤ 255) ∧ (st ≤ fu' → feedR A L C D fu' = .ok (ar, cx, out, st)) ∧ (fu' < st → feedR A L C D fu' = .error 19) := by
 unfold feedR at h
 by_cases hu : usE A L C = 0
 ·rw [if_neg (by simpa using hu)] at h
  by_cases hd : 65536 < D.length
  ·rw [if_pos hd] at h; simp at h
  ·rw [if_neg hd] at h
   by_cases hf : 0 ≤ fu ∧ fu ≤ 281474976710656
   ·rw [if_pos hf] at h
    have hmid := mid_start (formE_ok (usE_ok hu).1).2.1 hf.1 hf.2
    obtain ⟨r0, r1, r2, r3⟩ := feed_fuel (fu' := fu') hC hu hD h1 _ _ _ _ _ _ _ _ _ _ hmid h0 h
    have e : feedR A L C D fu' = feedF A L C D fu' (D.length + 1) 0 (zerosA A) (List.replicate 16 0) [] 0 := by
     unfold feedR
     rw [if_neg (by simpa using hu), if_neg hd, if_pos ⟨h0, h1⟩]
    rw [e]
    exact ⟨r0, r1.s1, r1.ob, r2, r3⟩
   ·rw [if_neg hf] at h; simp at h
 ·rw [if_pos hu] at h; simp at h
theorem bool_info : (Tryz.prog.info? 4).map (fun i => (i.zero, i.size, i.bytes)) = some (some (.bool false), 1, 1) := by kernel_rfl
def SomeB (x : Ending) : Prop := ∃ b, x = .returned (.bool b)
def FewB (n m : Nat) (x : Ending) : Prop := ∃ b, x = .returned (.bool b) ∧ (b = true → n ≤ 20 ∧ m ≤ 200)
theorem shallow_any (v : Value) (C : List (Int × Int)) (w : World) (h : Cod w v C) (hl : C.length ≤ 200) :
  Calls Tryz.prog 28 #[v] w fun x w' => SomeB x ∧ Ext w w' := by
 obtain ⟨i0, hi, hz0, hz1, hz2⟩ := info_parts bool_info
 have hia := hidden hi
 obtain ⟨n, hn⟩ := ex C.length
 obtain ⟨ac, cc, rfl, -⟩ := Rd.shape h
 unfold Cod at h
 rw [hn] at hl h ⊢
 have hR := hidden h
 replace hn := hidden hn
 clear h hi
 go_enter Tryz.func28, Tryz.ntmps28
 go_wp2_with fail
 go_loopw [3, 4, 5] (fun vo lo ix wr => ∃ (k q : Nat) (bs : List Bool) (z : Int), k ≤ n ∧ q ≤ k ∧ -(k : Int) ≤ z ∧ z ≤ (k : Int) ∧ lo = .int .i64 z ∧ ix = .int .i64 (k : Int) ∧ bs.length = q ∧ Hid (wr.ownsRow w.heap.size 4 1 vo q (bs.map Value.bool)) ∧ Hid (Ext w wr)) (fun _ _ ix _ => (n - intOf ix).toNat)
 case atStart => exact ⟨0, 0, [], 0, by omega, by omega, by omega, by omega, rfl, rfl, rfl, hidden (World.ownsRow_nil _ _ _ _), hidden (Ext.refl w)⟩
 case round =>
  obtain ⟨k, q, bs, z, hk, hq, hz3, hz4, rfl, rfl, hbs, hO, hX⟩ := hrel
  obtain ⟨W, hWW⟩ : ∃ Z, Z = wr := ⟨_, rfl⟩
  subst hWW
  obtain ⟨a, cp, rfl, hq1, hq2, hg⟩ := own_shape hO.out
  have hgI := hidden hg
  clear hg
  have hbsI := hidden hbs
  have hkw : IntKind.i64.wrap ((k : Int) + 1) = (k : Int) + 1 := IntWalk.i64_in _ (by omega)
  have hzw : IntKind.i64.wrap (z + 1) = z + 1 := IntWalk.i64_in _ (by omega)
  have hzw2 : IntKind.i64.wrap (z - 1) = z - 1 := IntWalk.i64_in _ (by omega)
  have hqw : IntKind.i64.wrap ((q : Int) - 1) = (q : Int) - 1 := IntWalk.i64_in _ (by omega)
  by_cases hlt : k < n
  ·have hlt' : (k : Int) < (n : Int) := by omega
   by_cases hz5 : z ≤ 3
   ·have q1 : decide (z ≤ 3) = true := by simpa using hz5
    obtain ⟨x, hx⟩ : ∃ x, C[k]? = some x := ⟨_, List.getElem?_eq_getElem (by rw [hn.out]; exact hlt)⟩
    obtain ⟨b, off, rfl, -, -⟩ := Rd.cells (cs := C.flatMap cI) (w := w) (sz := 2) hR.out (show 0 < n by omega)
    obtain ⟨x0, x1⟩ := rd2_at (E := cI) (fun _ => rfl) hR.out k x hx _ _ rfl
    replace x0 := hX.out.cell x0
    replace x1 := hX.out.cell x1
    obtain ⟨op, arg⟩ := x
    simp only at x0 x1
    clear hx
    by_cases h29 : op = 29
    ·subst h29
     have HO := hidden (own_ext hO.out ((Ext.refl W).alloc (.cells #[.bool true] 4)))
     have HN := hidden (rd_newc W [.bool true] 4 1 1 rfl (by decide))
     have hws := hX.out.size
     go_wp2_with (at_builtin; refine wpList_append_rd (by rfl) _ _ 93 (by rfl) w.heap.size 4 i0 (.bool false) 1 1 Tryz.underlying93 hia.out hz0 hz1 hz2 rfl (by decide) (.slice a q cp) q (bs.map Value.bool) (by rfl) HO.out (some ⟨W.heap.size, 0, none⟩) 1 1 [.bool true] (by rfl) HN.out (by simp [Value.oneCell']) (by unfold maxLen; omega) (by omega) (by have := ((Ext.refl W).alloc (.cells #[.bool true] 4)).size; omega) ?_; intro v' w4 hown4 hgrow4 hat4)
     have hO4 : Hid (w4.ownsRow w.heap.size 4 1 v' (q + 1) ((bs ++ [true]).map Value.bool)) := hidden (by rw [List.map_append]; exact hown4)
     have hX4 := hidden ((Chg.of_ext [] (hX.out.trans ((Ext.refl W).alloc (.cells #[.bool true] 4)))).grown hgrow4 (fun k hk => Or.inr (own_lt HO.out hk).1)).ext
     clear hown4 hgrow4 hat4 HO HN
     go_wp2_with fail
     go_roundw
     case rel => exact ⟨k + 1, q + 1, bs ++ [true], z + 1, by omega, by omega, by omega, by omega, by go_num, by go_num, by simp [hbs], hO4, hX4⟩
     case measure => simp [intOf]; omega
    ·by_cases h27 : op = 27
     ·subst h27
      have HO := hidden (own_ext hO.out ((Ext.refl W).alloc (.cells #[.bool false] 4)))
      have HN := hidden (rd_newc W [.bool false] 4 1 1 rfl (by decide))
      have hws := hX.out.size
      go_wp2_with (at_builtin; refine wpList_append_rd (by rfl) _ _ 93 (by rfl) w.heap.size 4 i0 (.bool false) 1 1 Tryz.underlying93 hia.out hz0 hz1 hz2 rfl (by decide) (.slice a q cp) q (bs.map Value.bool) (by rfl) HO.out (some ⟨W.heap.size, 0, none⟩) 1 1 [.bool false] (by rfl) HN.out (by simp [Value.oneCell']) (by unfold maxLen; omega) (by omega) (by have := ((Ext.refl W).alloc (.cells #[.bool false] 4)).size; omega) ?_; intro v' w4 hown4 hgrow4 hat4)
      have hO4 : Hid (w4.ownsRow w.heap.size 4 1 v' (q + 1) ((bs ++ [false]).map Value.bool)) := hidden (by rw [List.map_append]; exact hown4)
      have hX4 := hidden ((Chg.of_ext [] (hX.out.trans ((Ext.refl W).alloc (.cells #[.bool false] 4)))).grown hgrow4 (fun k hk => Or.inr (own_lt HO.out hk).1)).ext
      clear hown4 hgrow4 hat4 HO HN
      go_wp2_with fail
      go_roundw
      case rel => exact ⟨k + 1, q + 1, bs ++ [false], z, by omega, by omega, by omega, by omega, by go_num, by go_num, by simp [hbs], hO4, hX4⟩
      case measure => simp [intOf]; omega
     ·have e29 : (op == 29) = false := by simpa using h29
      have e27 : (op == 27) = false := by simpa using h27
      by_cases h31 : op = 31
      ·subst h31
       by_cases hq0 : q = 0
       ·subst hq0
        have e0 : decide ((0 : Int) ≤ -1) = false := by decide
        go_wp2_with fail
        go_roundw
        case rel => exact ⟨k + 1, 0, bs, z, by omega, by omega, by omega, by omega, by go_num, by go_num, hbsI.out, hO, hX⟩
        case measure => simp [intOf]; omega
       ·obtain ⟨p, rfl⟩ : ∃ p, q = p + 1 := ⟨q - 1, by omega⟩
        obtain ⟨g, rfl, -, -⟩ := hgI.out (by omega)
        have hpw : IntKind.i64.wrap (((p + 1 : Nat) : Int) - 1) = (p : Int) := by rw [IntWalk.i64_in _ (by omega)]; omega
        obtain ⟨bb, hbb⟩ : ∃ bb, bs[p]? = some bb := ⟨_, List.getElem?_eq_getElem (by rw [hbsI.out]; omega)⟩
        have hcb := own_cell hO.out p (.bool bb) (by rw [List.getElem?_map, hbb]; rfl)
        have hcut := cut_own (P := Tryz.prog) Tryz.underlying93 (sz := 1) (fun w => by simp [go_sem, hia.out, hz1]) (p + 1) cp p (some ⟨g, 0, none⟩) (p : Int) rfl (by omega) hq1
        have hO2 := own_cut hO.out (show p ≤ p + 1 by omega)
        have hO3 : Hid (W.ownsRow w.heap.size 4 1 (.slice (some ⟨g, 0, none⟩) p cp) p ((bs.take p).map Value.bool)) := hidden (by rw [List.map_take]; simpa using hO2)
        have hl3 : (bs.take p).length = p := by rw [List.length_take, hbsI.out]; omega
        clear hO2 hbb hqw hbs
        cases bb with
        | true =>
         go_wp2_with fail
         go_roundw
         case rel => exact ⟨k + 1, p, bs.take p, z - 1, by omega, by omega, by omega, by omega, by go_num, by go_num, hl3, hO3, hX⟩
         case measure => simp [intOf]; omega
        | false =>
         go_wp2_with fail
         go_roundw
         case rel => exact ⟨k + 1, p, bs.take p, z, by omega, by omega, by omega, by omega, by go_num, by go_num, hl3, hO3, hX⟩
         case measure => simp [intOf]; omega
      ·have e31 : (op == 31) = false := by simpa using h31
       go_wp2_with fail
       go_roundw
       case rel => exact ⟨k + 1, q, bs, z, by omega, by omega, by omega, by omega, by go_num, by go_num, hbsI.out, hO, hX⟩
       case measure => simp [intOf]; omega
   ·have q1 : decide (z ≤ 3) = false := by simpa using hz5
    go_wp2_with fail
    go_ret
    exact ⟨⟨_, rfl⟩, hX.out⟩
  ·have hlt' : ¬ (k : Int) < (n : Int) := by omega
   go_wp2_with fail
   go_ret
   exact ⟨⟨_, rfl⟩, hX.out⟩
theorem fewP_any (va vc : Value) (A : List (Bool × Int)) (L : Int) (C : List (Int × Int)) (w : World) (ra : Arr w va A) (rc : Cod w vc C) :
  Calls Tryz.prog 10 #[.agg #[va, .int .i64 L, vc]] w fun x w' => FewB A.length C.length x ∧ Ext w w' := by
 have X0 := (Ext.refl w).alloc (.cells #[va, .int .i64 L, vc] 25)
 have P0 := Blk.new w [va, .int .i64 L, vc] 25
 obtain ⟨n, hn⟩ := ex A.length
 obtain ⟨m, hm⟩ := ex C.length
 have hsh := (fun h => shallow_any vc C _ (Rd.ext rc X0) h)
 obtain ⟨aa, ca, rfl, hca, hca2, -⟩ := Rd.shape ra
 obtain ⟨ac, cc, rfl, -⟩ := Rd.shape rc
 unfold Arr at ra
 rw [hn] at ra
 obtain ⟨p0, p1, p2⟩ := P0.c3
 rw [hn] at P0 p0 X0 hsh ⊢
 rw [hm] at P0 p2 X0 hsh ⊢
 have raI := hidden (Rd.ext ra X0)
 have P0I := hidden P0
 replace hsh := hidden hsh
 have XI := hidden X0
 have hnI := hidden hn
 clear ra rc P0 X0 hn hm
 go_enter Tryz.func10, Tryz.ntmps10
 by_cases h20 : 20 < n
 ·have q1 : decide ((20 : Int) < (n : Int)) = true := by simp; omega
  go_wp2_with fail
  go_ret
  exact ⟨⟨_, rfl, fun h => by cases h⟩, XI.out⟩
 ·have q1 : decide ((20 : Int) < (n : Int)) = false := by simp; omega
  by_cases h200 : 200 < m
  ·have q2 : decide ((200 : Int) < (m : Int)) = true := by simp; omega
   go_wp2_with fail
   go_ret
   exact ⟨⟨_, rfl, fun h => by cases h⟩, XI.out⟩
  ·have q2 : decide ((200 : Int) < (m : Int)) = false := by simp; omega
   go_wp2_with fail
   refine (hsh.out (by omega)).mono ?_
   rintro x w1 ⟨⟨b, rfl⟩, hX⟩
   have P1 := P0I.out.ext hX
   have raI1 := hidden (Rd.ext raI.out hX)
   have XI1 := hidden (XI.out.trans hX)
   have u0 := P1.cell 0 _ rfl
   have P1I := hidden P1
   clear hsh P1 hX p0 p1 p2 raI
   cases b with
   | false =>
    go_wp2_with fail
    go_ret
    exact ⟨⟨_, rfl, fun h => by cases h⟩, XI1.out⟩
   | true =>
    go_wp2_with fail
    go_loopw [3] (fun ix wr => ∃ (k : Nat), k ≤ n ∧ ix = .int .i64 (k : Int) ∧ Hid (Ext w1 wr)) (fun ix _ => (n - intOf ix).toNat)
    case atStart => exact ⟨0, by omega, rfl, hidden (Ext.refl _)⟩
    case round =>
     obtain ⟨k, hk, rfl, hE⟩ := hrel
     clear u0
     have u0 := (P1I.out.ext hE.out).cell 0 _ rfl
     have hkw : IntKind.i64.wrap ((k : Int) + 1) = (k : Int) + 1 := IntWalk.i64_in _ (by omega)
     by_cases hlt : k < n
     ·have hlt' : (k : Int) < (n : Int) := by omega
      obtain ⟨x, hx⟩ : ∃ x, A[k]? = some x := ⟨_, List.getElem?_eq_getElem (by rw [hnI.out]; exact hlt)⟩
      obtain ⟨b, off, rfl, -, -⟩ := Rd.cells (cs := A.flatMap cA) (w := w1) (sz := 2) raI1.out (show 0 < n by omega)
      obtain ⟨x0, x1⟩ := rd2_at (E := cA) (fun _ => rfl) raI1.out k x hx _ _ rfl
      replace x0 := hE.out.cell x0
      replace x1 := hE.out.cell x1
      obtain ⟨wd, s⟩ := x
      simp only at x0 x1
      clear hx
      by_cases h3 : 300 < s
      ·have q3 : decide (300 < s) = true := by simpa using h3
       by_cases h6 : s ≤ 65536
       ·have q6 : decide (s ≤ 65536) = true := by simpa using h6
        go_wp2_with fail
        go_ret
        exact ⟨⟨_, rfl, fun h => by cases h⟩, XI1.out.trans hE.out⟩
       ·have q6 : decide (s ≤ 65536) = false := by simpa using h6
        go_wp2_with fail
        go_roundw
        case rel => exact ⟨k + 1, by omega, by go_num, hE⟩
        case measure => simp [intOf]; omega
      ·have q3 : decide (300 < s) = false := by simpa using h3
       go_wp2_with fail
       go_roundw
       case rel => exact ⟨k + 1, by omega, by go_num, hE⟩
       case measure => simp [intOf]; omega
     ·have hlt' : ¬ (k : Int) < (n : Int) := by omega
      go_wp2_with fail
      go_ret
      exact ⟨⟨_, rfl, fun _ => ⟨by omega, by omega⟩⟩, XI1.out.trans hE.out⟩
end Go.Proofs.YtgjjklajipekdaaGreat
