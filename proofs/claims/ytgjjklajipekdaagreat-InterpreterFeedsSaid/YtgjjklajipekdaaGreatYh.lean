
import Derived.Test.YtgjjklajipekdaaGreatJo
import Derived.Test.YtgjjklajipekdaaGreatVg
import Derived.OwnWalk
import Derived.Recover
import Derived.Deep.QuietTactic
import Derived.BigQuiet
import Derived.StillTailTactics
import Derived.Test.YtgjjklajipekdaaGreatR
import Derived.Lib.SliceRun
import Derived.Laws.RangeString
namespace Go.Proofs.YtgjjklajipekdaaGreat
set_option maxHeartbeats 16000000
set_option maxRecDepth 100000
open Go.RowKit
set_option linter.unusedVariables false
set_option linter.unusedSimpArgs false
attribute [local go_sem ↓] Go.wp_at_zero Go.wp_at_succ
def vcell (v : Vl) : List Value := [.int .u32 v.1, .bool v.2]
def fcell (f : Frm) : List Value := [.int .i64 f.base, .int .i64 (if f.loop = true then f.beg else 0), .int .i64 f.left, .bool f.loop]
def mcP (V : Vs) (X : EV) (E : Env) (s : MS) : List Value := [V.arr, V.cx, X.a, .int .i64 E.L, X.c, X.p, .int .u32 E.inp, .bool E.ended, .int .i64 E.fuel, .int .i64 s.pc, V.st, V.fr, V.lo, V.out, .int .i64 s.steps]
def LP : Lay := ⟨106, 166, 184, 4, vcell, fcell, mcP⟩
def failI (e : Int) : Ending := .panicked [{ v := .iface 100 (.agg #[.int .i64 e]), recovered := false }]
def MP (w : World) (B q : Nat) (V : Vs) (X : EV) (E : Env) (r : Rs) (x : Ending) (w' : World) : Prop :=
 match r with
 | .stuck => False
 | .err e => x = failI e ∧ Chg (SV q V) w w'
 | .go s' => x = .returned (.tuple #[]) ∧ ∃ V', MSt LP w' B q V' X E s' ∧ Chg (SV q V) w w' ∧ ToV w.heap.size q V V'
theorem idem_true (e : Int) (w : World) : Calls Tryz.prog 70 #[.bool true, .int .i64 e] w fun x w' => x = .returned (.tuple #[]) ∧ w' = w := by
 go_enter Tryz.func70, Tryz.ntmps70
 go_wp2
 go_end0
 exact ⟨rfl, rfl⟩
theorem idem_false (e : Int) (w : World) : Calls Tryz.prog 70 #[.bool false, .int .i64 e] w fun x w' => x = failI e ∧ w' = w := by
 go_enter Tryz.func70, Tryz.ntmps70
 go_wp2
 exact ⟨rfl, rfl, rfl⟩
theorem inum_any (n : Int) (w : World) : Calls Tryz.prog 122 #[.int .u32 n] w fun x w' => x = .returned (.agg #[.int .u32 n, .bool false]) ∧ Ext w w' := by
 go_enter Tryz.func122, Tryz.ntmps122
 go_wp2_with fail
 refine bodyPost_ret (v := .agg #[.int .u32 n, .bool false]) (by simp [results, Tryz.results122, go_sem]) rfl ⟨rfl, ?_⟩
 exact (Ext.refl w).alloc _
theorem iflag_any (b : Bool) (w : World) : Calls Tryz.prog 124 #[.bool b] w fun x w' => x = .returned (.agg #[.int .u32 (if b = true then 1 else 0), .bool true]) ∧ Ext w w' := by
 cases b
 ·go_enter Tryz.func124, Tryz.ntmps124
  go_wp2_with fail
  refine bodyPost_ret (v := .agg #[.int .u32 0, .bool true]) (by simp [results, Tryz.results124, go_sem]) rfl ⟨rfl, ?_⟩
  exact (Ext.refl w).alloc _
 ·go_enter Tryz.func124, Tryz.ntmps124
  go_wp2_with fail
  refine bodyPost_ret (v := .agg #[.int .u32 1, .bool true]) (by simp [results, Tryz.results124, go_sem]) rfl ⟨rfl, ?_⟩
  exact (Ext.refl w).alloc _
theorem MSt.cell {Y : Lay} {w : World} {B q : Nat} {V : Vs} {X : EV} {E : Env} {s : MS} (h : MSt Y w B q V X E s) (i : Nat) (v : Value) (hv : (Y.mc V X E s)[i]? = some v) : w.cell? ⟨q, i, none⟩ = some v := h.blk.cell i v hv
theorem MSt.row {Y : Lay} {w : World} {B q : Nat} {V : Vs} {X : EV} {E : Env} {s : MS} (h : MSt Y w B q V X E s) (i : Nat) (r : Row) (hr : (rowsG Y V s)[i]? = some r) : r.own w B := h.rows.own r (List.mem_of_getElem? hr)
theorem flat_at {α : Type} {E : α → List Value} {m : Nat} (hE : ∀ x, (E x).length = m) {l : List α} {k j : Nat} {x : α} {u : Value} (hx : l[k]? = some x) (hu : (E x)[j]? = some u) : (l.flatMap E)[k * m + j]? = some u := by
 have hj : j < m := by rw [← hE x]; exact (List.getElem?_eq_some_iff.1 hu).1
 rw [flat_get E m hE l k j x hx hj]; exact hu
theorem last_at {α : Type} {l : List α} {x : α} (h : l.getLast? = some x) : l[l.length - 1]? = some x := by rw [← List.getLast?_eq_getElem?]; exact h
theorem ibase_any (w : World) (B q : Nat) (V : Vs) (X : EV) (E : Env) (s : MS) (h : MSt LP w B q V X E s) (hs : OkS E s) : Calls Tryz.prog 109 #[.pointer (some ⟨q, 0, none⟩)] w fun x w' => x = .returned (.int .i64 (baseF s.fr)) ∧ Ext w w' := by
 have hf := h.row 3 _ rfl
 have c11 := h.cell 11 _ rfl
 unfold Row.own at hf
 simp only at hf
 have h8 := hs.fr
 cases hl : s.fr.getLast? with
 | none =>
  have h0 : s.fr = [] := List.getLast?_eq_none_iff.1 hl
  have hb : baseF s.fr = 0 := by unfold baseF; rw [hl]
  rw [hb]
  rw [h0] at hf
  obtain ⟨a, cap, hv, hcap, hcap2, -⟩ := own_shape hf
  rw [hv] at c11
  simp only [List.length_nil] at c11 hcap
  clear hf h hs
  go_enter Tryz.func109, Tryz.ntmps109
  go_wp2_with fail
  go_ret
  exact ⟨rfl, Ext.refl _⟩
 | some f =>
  have hb : baseF s.fr = f.base := by unfold baseF; rw [hl]
  rw [hb]
  have hla := last_at hl
  obtain ⟨a, cap, hv, hcap, hcap2, hg⟩ := own_shape hf
  have hpos : 0 < s.fr.length := by
   rcases hn : s.fr with _ | ⟨x, l⟩
   ·rw [hn] at hl; cases hl
   ·simp
  obtain ⟨g, rfl, -, hgl⟩ := hg hpos
  have hc0 := own_cell (by rw [hv] at hf; exact hf) ((s.fr.length - 1) * 4 + 0) _ (flat_at (E := fcell) (fun _ => rfl) hla (j := 0) rfl)
  rw [hv] at c11
  obtain ⟨n, hn⟩ := ex s.fr.length
  rw [hn] at hc0 hcap c11 hpos h8
  obtain ⟨m, rfl⟩ : ∃ m, n = m + 1 := ⟨n - 1, by omega⟩
  simp only [Nat.add_sub_cancel, Nat.add_zero] at hc0
  have hw1 : IntKind.i64.wrap (((m + 1 : Nat) : Int) - 1) = (m : Int) := by rw [IntWalk.i64_in _ (by omega)]; omega
  have hne : ((m + 1 : Nat) : Int) = (m : Int) + 1 := by omega
  clear hf h hs hv hla hl hb
  replace hn := hidden hn
  go_enter Tryz.func109, Tryz.ntmps109
  go_wp2_with fail
  go_quiet (fail)
  all_goals go_wp2_with fail
  all_goals go_ret
  exact ⟨rfl, (Ext.refl w).drewN _⟩
theorem istep_any (w : World) (B q : Nat) (V : Vs) (X : EV) (E : Env) (s : MS) (h : MSt LP w B q V X E s) (hs : OkS E s) (hE : OkE E) : Calls Tryz.prog 69 #[.pointer (some ⟨q, 0, none⟩)] w (MP w B q V X E (tickF E s)) := by
 have c14 := h.cell 14 _ rfl
 have c8 := h.cell 8 _ rfl
 have f14 := h.blk.frozen 14
 have hb := hs.s0
 have hb1 := hs.s1
 have ht := hidden (idem_true 19)
 have hf := hidden (idem_false 19)
 obtain ⟨hM1, hM2⟩ := h.ext (Ext.refl w).drew |>.cellq 14 (.int .i64 (s.steps + 1)) (s' := { s with steps := s.steps + 1 }) rfl rfl rfl
 replace hM1 := hidden hM1
 replace hM2 := hidden ((Chg.refl (SV q V) w).drew.trans hM2 (fun x hx => Or.inl hx))
 obtain ⟨fu, hfu⟩ := ex E.fuel
 obtain ⟨st, hst⟩ := ex s.steps
 rw [hst] at c14 hb hb1 hM1 hM2
 rw [hfu] at c8
 have hw1 : IntKind.i64.wrap (st + 1) = st + 1 := IntWalk.i64_in _ (by omega)
 by_cases hlt : st < fu
 ·have hR : Hid (tickF E s = .go { s with steps := st + 1 }) := by show _ = _; unfold tickF; rw [hst, hfu, if_pos hlt]
  have hdec : decide (st < fu) = true := decide_eq_true hlt
  replace hst := hidden hst
  replace hfu := hidden hfu
  clear h hs hE
  go_enter Tryz.func69, Tryz.ntmps69
  go_wp2_with fail
  go_still_tail 10, (by kernel_rfl)
  change wpList _ _ _ _ _ w.drew
  go_wp2_with fail
  refine (ht.out _).mono ?_
  rintro x w1 ⟨rfl, hw1⟩
  subst hw1
  go_wp2_with fail
  go_end0
  show MP _ _ _ _ _ _ (tickF E s) _ _
  rw [hR.out]
  exact ⟨rfl, V, hM1.out, hM2.out, ToV.refl _ _ _⟩
 ·have hR : Hid (tickF E s = .err 19) := by show _ = _; unfold tickF; rw [hst, hfu, if_neg hlt]
  have hdec : decide (st < fu) = false := decide_eq_false hlt
  replace hst := hidden hst
  replace hfu := hidden hfu
  clear h hs hE
  go_enter Tryz.func69, Tryz.ntmps69
  go_wp2_with fail
  go_still_tail 10, (by kernel_rfl)
  change wpList _ _ _ _ _ w.drew
  go_wp2_with fail
  refine (hf.out _).mono ?_
  rintro x w1 ⟨rfl, hw1⟩
  subst hw1
  unfold failI
  go_wp2_with fail
  refine ⟨rfl, ?_⟩
  show MP _ _ _ _ _ _ (tickF E s) _ _
  rw [hR.out]
  exact ⟨rfl, (Chg.refl _ w).drew⟩
theorem value_info : (Tryz.prog.info? 166).map (fun i => (i.zero, i.size, i.bytes)) = some (some (.agg #[.int .u32 0, .bool false]), 2, 8) := by kernel_rfl
theorem frame_info : (Tryz.prog.info? 184).map (fun i => (i.zero, i.size, i.bytes)) = some (some (.agg #[.int .i64 0, .int .i64 0, .int .i64 0, .bool false]), 4, 32) := by kernel_rfl
theorem ipush_any (w : World) (B q : Nat) (V : Vs) (X : EV) (E : Env) (s : MS) (h : MSt LP w B q V X E s) (hB : B ≤ w.heap.size) (hs : OkS E s) (l : List Vl) (hl2 : l.length ≤ 2) (vl : Value) (hl : Rd w 2 vl l.length (l.flatMap vcell)) :
  Calls Tryz.prog 112 #[.pointer (some ⟨q, 0, none⟩), vl] w (MP w B q V X E (pushF l s)) := by
 obtain ⟨i0, hi, hz0, hz1, hz2⟩ := info_parts value_info
 obtain ⟨av, cv, rfl, hcv, hcv2, -⟩ := Rd.shape hl
 have hrow := h.row 2 _ rfl
 unfold Row.own at hrow
 simp only at hrow
 have c10 := h.cell 10 _ rfl
 have f10 := h.blk.frozen 10
 have h32 := hs.st
 have hone : ∀ u ∈ l.flatMap vcell, u.oneCell' = true := by
  intro u hu
  obtain ⟨v, -, hv⟩ := List.mem_flatMap.1 hu
  simp only [vcell, List.mem_cons, List.not_mem_nil, or_false] at hv
  rcases hv with rfl | rfl <;> rfl
 have hset : Hid (∀ (v' : Value) (w1 : World), w1.ownsRow B 166 2 v' (s.st.length + l.length) (s.st.flatMap vcell ++ l.flatMap vcell) → w.grownBy w1 V.st.ownBlock → (v'.ownBlock = V.st.ownBlock ∨ v'.ownBlock = some w.heap.size) →
   MSt LP (w1.setCell ⟨q, 10, none⟩ v') B q { V with st := v' } X E { s with st := s.st ++ l } ∧ Chg (SV q V) w (w1.setCell ⟨q, 10, none⟩ v') ∧ ToV w.heap.size q V { V with st := v' } ∧ w1.cell? ⟨q, 10, none⟩ = some V.st ∧ w1.frozen? ⟨q, 10, none⟩ = false) := by
  intro v' w1 g1 g2 g3
  have c : Chg V.st.ownBlock.toList w w1 := (Chg.refl _ w).grown g2 (fun k hk => Or.inl (by simp [hk]))
  have hq : q ∉ V.st.ownBlock.toList := fun hm => (List.nodup_cons.1 h.rows.nodup).1 (mem_blks.2 ⟨_, List.mem_of_getElem? (i := 2) rfl, by simpa using hm⟩)
  obtain ⟨m1, m2, m3⟩ := h.setRow (i := 2) (j := 10) (r' := ⟨166, 2, v', (s.st ++ l).length, (s.st ++ l).flatMap vcell⟩) (V' := { V with st := v' }) (s' := { s with st := s.st ++ l }) rfl c (fun x hx => Or.inl (by simpa using hx))
   (by unfold Row.own; simp only [List.length_append, List.flatMap_append]; exact g1) (fun x hx => by rcases g3 with e | e <;> rw [e] at hx; exact Or.inl hx; simp only [Option.some.injEq] at hx; exact Or.inr (by omega)) rfl h.al rfl
  exact ⟨m1, m2, m3, c.cell hq c10, c.frozen hq c10 f10⟩
 have hd1 := hidden (idem_true 14)
 have hd0 := hidden (idem_false 14)
 obtain ⟨V0, hV0⟩ := ex V.st
 rw [hV0] at hrow c10
 obtain ⟨n, hn⟩ := ex s.st.length
 obtain ⟨m, hm⟩ := ex l.length
 obtain ⟨cs, hcs⟩ := ex (s.st.flatMap LP.vc)
 obtain ⟨ns, hns⟩ := ex (l.flatMap vcell)
 have hR : Hid (pushF l s = if 32 < n + m then .err 14 else .go { s with st := s.st ++ l }) := by show _ = _; unfold pushF; rw [List.length_append, hn, hm]
 rw [hn, hcs] at hrow
 rw [hm, hns] at hl
 rw [hns] at hone
 rw [hn] at h32
 rw [hm] at hl2 hcv
 rw [hn, hm, hns, show s.st.flatMap vcell = cs from hcs, hV0] at hset
 rw [hm]
 replace hrow := hidden hrow
 replace hl := hidden hl
 replace hia := hidden hi
 replace hone := hidden hone
 replace hV0 := hidden hV0
 replace hn := hidden hn
 replace hm := hidden hm
 replace hcs := hidden hcs
 replace hns := hidden hns
 clear h hs hi
 go_enter Tryz.func112, Tryz.ntmps112
 go_upto_region 1 with (at_builtin; refine wpList_append_rd (by rfl) _ _ 103 (by rfl) B 166 i0 (.agg #[.int .u32 0, .bool false]) 2 8 Tryz.underlying103 hia.out hz0 hz1 hz2 rfl (by decide) V0 n cs (by rfl) hrow.out av m cv ns (by rfl) hl.out hone.out (by unfold maxLen; omega) (by omega) (by omega) ?_; intro v' w4 hown4 hgrow4 hat4; obtain ⟨m1, m2, m3, m4, m5⟩ := hset.out v' w4 hown4 hgrow4 hat4; obtain ⟨a4, c4, rfl, k41, k42, -⟩ := own_shape hown4; clear hown4 hgrow4 hat4)
 obtain ⟨W4, hW4⟩ := ex (w4.setCell ⟨q, 10, none⟩ (.slice a4 (n + m) c4))
 rw [hW4] at m1 m2 ⊢
 have k10 := m1.cell 10 _ rfl
 replace m1 := hidden m1
 replace m2 := hidden m2
 replace m3 := hidden m3
 clear m4 m5 hW4 c10 f10
 by_cases hlt : 32 < n + m
 ·have hdec : decide ((n : Int) + (m : Int) ≤ 32) = false := decide_eq_false (by omega)
  go_wp2_with fail
  refine (hd0.out _).mono ?_
  rintro x w1 ⟨rfl, hw1⟩
  rw [hw1]
  unfold failI
  go_wp2_with fail
  refine ⟨rfl, ?_⟩
  show MP _ _ _ _ _ _ (pushF l s) _ _
  rw [hR.out, if_pos hlt]
  exact ⟨rfl, m2.out⟩
 ·have hdec : decide ((n : Int) + (m : Int) ≤ 32) = true := decide_eq_true (by omega)
  go_wp2_with fail
  refine (hd1.out _).mono ?_
  rintro x w1 ⟨rfl, hw1⟩
  rw [hw1]
  go_wp2_with fail
  go_end0
  show MP _ _ _ _ _ _ (pushF l s) _ _
  rw [hR.out, if_neg hlt]
  exact ⟨rfl, _, m1.out, m2.out, m3.out⟩
theorem own_cut {w : World} {B : Nat} {e : TypeId} {sz n cap m : Nat} {a : Option Addr} {cs : List Value} (h : w.ownsRow B e sz (.slice a n cap) n cs) (hm : m ≤ n) : w.ownsRow B e sz (.slice a m cap) m (cs.take (m * sz)) := by
 have hl : cs.length = n * sz := h.1
 have hms : m * sz ≤ n * sz := Nat.mul_le_mul_right _ hm
 refine ⟨by rw [List.length_take]; omega, ?_⟩
 rcases h.2 with ⟨h1, h2⟩ | ⟨g, cap', cur, hv, hb, hg, h1, h2, h3, h4⟩
 ·simp only [Value.slice.injEq] at h1
  obtain ⟨rfl, h0, rfl⟩ := h1
  obtain rfl : m = 0 := by omega
  exact Or.inl ⟨rfl, by simp⟩
 ·simp only [Value.slice.injEq, true_and] at hv
  obtain ⟨rfl, rfl⟩ := hv
  refine Or.inr ⟨g, cap, cur, rfl, hb, hg, by omega, h2, h3, ?_⟩
  have := congrArg (List.take (m * sz)) h4
  rw [List.take_take, Nat.min_eq_left hms] at this
  exact this
theorem cut_own {P : Program} {t e : TypeId} {sz : Nat} (ht0 : P.underlying t = some (.slice e)) (hs : ∀ w, (sizeOf e).run P w = .ok sz w) (n cap h : Nat) (a : Option Addr) (hi : Int) (eh : hi = h) (h2 : h ≤ n) (h3 : n ≤ cap) :
  ∀ w, (Instr.sliceAt t (.slice a n cap) none (some (.int .i64 hi)) none).run P w = .ok (.slice a h cap) w := by
 intro w
 have he : P.elem t = e := by unfold Program.elem; rw [ht0]
 have ht : P.underlying t = some (.slice (P.elem t)) := by rw [he]; exact ht0
 rw [run_sliceAt_slice w t _ _ _ _ ht, run_slice_h w t _ _ _ ht _ _ (by omega) (by omega), he, hs]
 subst eh
 have hz : ∀ ad : Addr, ad.add 0 = ad := fun ad => by unfold Addr.add; simp
 simp only [Result.andThen, Nat.sub_zero, Nat.zero_mul]
 cases a <;> simp [Go.sliced, hz]
theorem flat_drop {α : Type} {E : α → List Value} {sz : Nat} (hE : ∀ x, (E x).length = sz) : ∀ (l : List α) (m : Nat), (l.flatMap E).drop (m * sz) = (l.drop m).flatMap E
 | [], m => by simp
 | x :: l, 0 => by simp
 | x :: l, m + 1 => by
  rw [List.flatMap_cons, List.drop_succ_cons, Nat.add_mul, Nat.one_mul, Nat.add_comm, ← List.drop_drop, List.drop_left' (hE x)]
  exact flat_drop hE l m
theorem flat_take {α : Type} {E : α → List Value} {sz : Nat} (hE : ∀ x, (E x).length = sz) : ∀ (l : List α) (m : Nat), (l.flatMap E).take (m * sz) = (l.take m).flatMap E
 | [], m => by simp
 | x :: l, 0 => by simp
 | x :: l, m + 1 => by
  rw [List.flatMap_cons, List.take_succ_cons, List.flatMap_cons, Nat.add_mul, Nat.one_mul, Nat.add_comm, List.take_append, hE x, List.take_of_length_le (by rw [hE x]; omega), Nat.add_sub_cancel_left, flat_take hE l m]
theorem vcell_one (l : List Vl) : ∀ u ∈ l.flatMap vcell, u.oneCell' = true := by
 intro u hu
 obtain ⟨v, -, hv⟩ := List.mem_flatMap.1 hu
 simp only [vcell, List.mem_cons, List.not_mem_nil, or_false] at hv
 rcases hv with rfl | rfl <;> rfl
theorem iclonev_any (v : Value) (l : List Vl) (w : World) (h : Rd w 2 v l.length (l.flatMap vcell)) (hl : l.length ≤ 2000) :
  Calls Tryz.prog 110 #[v] w fun x w' => ∃ v', x = .returned v' ∧ w'.ownsRow w.heap.size 166 2 v' l.length (l.flatMap vcell) ∧ Ext w w' := by
 obtain ⟨n, hn⟩ := ex l.length
 obtain ⟨a, cap, rfl, hcap, hcap2, hnil⟩ := Rd.shape h
 have qT : ∀ (w : World) (a : Option Addr) (n c n' c' : Nat), (binOp .eql 103 (.slice a n c) (.slice none n' c')).run Tryz.prog w = .ok (.bool a.isNone) w := fun w a n c n' c' => Lib.run_eql_slice_nil w _ _ a n c n' c' Tryz.underlying103
 rw [hn] at h hl hcap ⊢
 cases a with
 | none =>
  have hc := hnil rfl
  subst hc
  obtain rfl : n = 0 := by omega
  have hC : l = [] := List.length_eq_zero_iff.1 hn
  subst hC
  clear h hn
  go_enter Tryz.func110, Tryz.ntmps110
  go_wp2_with fail
  go_ret
  exact ⟨_, rfl, ⟨by simp, Or.inl ⟨rfl, rfl⟩⟩, Ext.refl w⟩
 | some ad =>
  obtain ⟨i0, hi, hz0, hz1, hz2⟩ := info_parts value_info
  have hia := hidden hi
  have HR := hidden (h.ext ((Ext.refl w).alloc (.cells #[] 166)))
  have HO := hidden (own_zero w 166 2)
  replace hn := hidden hn
  clear h hi
  go_enter Tryz.func110, Tryz.ntmps110
  go_wp2_with (at_builtin; refine wpList_append_rd (by rfl) _ _ 103 (by rfl) w.heap.size 166 i0 (.agg #[.int .u32 0, .bool false]) 2 8 Tryz.underlying103 hia.out hz0 hz1 hz2 rfl (by decide) (.slice (some ⟨w.heap.size, 0, none⟩) 0 0) 0 [] (by rfl) HO.out (some ad) n cap (l.flatMap vcell) (by rfl) HR.out (vcell_one l) (by unfold maxLen; omega) (by omega) (by simp) ?_; intro v' w4 hown4 hgrow4 hat4)
  go_ret
  have hX4 : Ext w w4 := ((Chg.of_ext [] ((Ext.refl w).alloc (.cells #[] 166))).grown hgrow4 (fun k hk => Or.inr (own_lt HO.out hk).1)).ext
  refine ⟨_, rfl, ?_, hX4⟩
  simpa using hown4
def ok1 (t : UInt8) (v : Vl) : Bool := if t = 110 then !v.2 else if t = 116 then v.2 else true
theorem tyOk_cons (t : UInt8) (ts : List UInt8) (v : Vl) (vs : List Vl) : tyOk (t :: ts) (v :: vs) = (ok1 t v && tyOk ts vs) := rfl
theorem tyOk_true : ∀ (ts : List UInt8) (l : List Vl), (∀ (j : Nat) (t : UInt8) (v : Vl), ts[j]? = some t → l[j]? = some v → ok1 t v = true) → tyOk ts l = true
 | [], [], _ => rfl
 | [], _ :: _, _ => rfl
 | _ :: _, [], _ => rfl
 | t :: ts, v :: l, h => by
  rw [tyOk_cons, h 0 t v rfl rfl, tyOk_true ts l (fun j => h (j + 1))]; rfl
theorem tyOk_false : ∀ (ts : List UInt8) (l : List Vl) (j : Nat) (t : UInt8) (v : Vl), ts[j]? = some t → l[j]? = some v → ok1 t v = false → tyOk ts l = false
 | [], _, _, _, _, h, _, _ => by simp at h
 | _ :: _, [], _, _, _, _, h, _ => by simp at h
 | t :: ts, v :: l, 0, t', v', h, h', h'' => by simp at h h'; subst h; subst h'; rw [tyOk_cons, h'']; rfl
 | t :: ts, v :: l, j + 1, t', v', h, h', h'' => by
  rw [tyOk_cons, tyOk_false ts l j t' v' (by simpa using h) (by simpa using h') h'', Bool.and_false]
def PopP (w : World) (B q : Nat) (V : Vs) (X : EV) (E : Env) (s : MS) (r : Except Int (List Vl × List Vl)) (x : Ending) (w' : World) : Prop :=
 match r with
 | .error e => x = failI e ∧ Chg (SV q V) w w'
 | .ok (l, r) => ∃ vl V', x = .returned vl ∧ Rd w' 2 vl l.length (l.flatMap vcell) ∧ (∀ k, vl.ownBlock = some k → B ≤ k ∧ k ∉ SV q V') ∧ MSt LP w' B q V' X E { s with st := r } ∧ Chg (SV q V) w w' ∧ ToV w.heap.size q V V'
theorem ipop_any (ty : ByteArray) (hty : ty.size ≤ 2) (hasc : ∀ j (h : j < ty.size), (ty[j]'h).toNat < 128) (w : World) (B q : Nat) (V : Vs) (X : EV) (E : Env) (s : MS) (h : MSt LP w B q V X E s) (hB : B ≤ w.heap.size) (hs : OkS E s) :
  Calls Tryz.prog 73 #[.pointer (some ⟨q, 0, none⟩), .string ty] w (PopP w B q V X E s (popF ty.data.toList s.st (baseF s.fr))) := by
 have hbase := ibase_any w B q V X E s h hs
 have hd1 := hidden (idem_true 14)
 have hd0 := hidden (idem_false 14)
 have he1 := hidden (idem_true 13)
 have he0 := hidden (idem_false 13)
 have hrow := h.row 2 _ rfl
 unfold Row.own at hrow
 simp only at hrow
 obtain ⟨av, cv, hV0, hcv, hcv2, -⟩ := own_shape hrow
 have c10 := h.cell 10 _ rfl
 have f10 := h.blk.frozen 10
 have h32 := hs.st
 have hM := hidden h
 have hb0 : 0 ≤ baseF s.fr := by
  unfold baseF
  split
  ·exact Int.le_refl _
  next f hf => exact (hs.frv f (last_mem hf)).1
 have hb1 : baseF s.fr ≤ 32 := by
  unfold baseF
  split
  ·omega
  next f hf => exact (hs.frv f (last_mem hf)).2.1
 rw [hV0] at hrow c10
 obtain ⟨R, hR⟩ := ex (popF ty.data.toList s.st (baseF s.fr))
 obtain ⟨b, hb⟩ := ex (baseF s.fr)
 obtain ⟨N, hN⟩ := ex s.st.length
 obtain ⟨k, hk⟩ := ex ty.size
 have hkl : ty.data.toList.length = k := by rw [← hk]; simp
 rw [hR]
 rw [hb] at hbase hR hb0 hb1
 rw [hN] at hrow h32 c10 hcv
 unfold popF at hR
 rw [hN, hkl] at hR
 replace hbase := hidden hbase
 clear h hs
 by_cases hlt : (N : Int) - (k : Int) < b
 ·rw [if_pos hlt] at hR
  obtain ⟨t, ht⟩ := ex ((N : Int) - (k : Int))
  have hw1 : IntKind.i64.wrap ((N : Int) - (k : Int)) = t := by rw [IntWalk.i64_in _ (by omega)]; exact ht
  have hdec : decide (b ≤ t) = false := decide_eq_false (by omega)
  replace ht := hidden ht
  replace hR := hidden hR
  replace hN := hidden hN
  replace hkl := hidden hkl
  clear hrow
  go_enter Tryz.func73, Tryz.ntmps73
  go_wp2_with fail
  refine hbase.out.mono ?_
  rintro x w1 ⟨rfl, hX⟩
  replace hX := hidden hX
  go_wp2_with fail
  refine (hd0.out _).mono ?_
  rintro x w2 ⟨rfl, hw2⟩
  rw [hw2]
  unfold failI
  go_wp2_with fail
  refine ⟨rfl, ?_⟩
  show PopP _ _ _ _ _ _ _ R _ _
  rw [← hR.out]
  exact ⟨rfl, Chg.of_ext _ hX.out⟩
 ·rw [if_neg hlt] at hR
  obtain ⟨m, hm⟩ := ex (N - k)
  have hmN : m + k = N := by omega
  rw [hm] at hR
  have hw1 : IntKind.i64.wrap ((N : Int) - (k : Int)) = (m : Int) := by rw [IntWalk.i64_in _ (by omega)]; omega
  have hdec : decide (b ≤ (m : Int)) = true := decide_eq_true (by omega)
  have hdl : (s.st.drop m).length = k := by rw [List.length_drop]; omega
  obtain ⟨a2, c2, hrun, hRd, hbl⟩ := cut_l (P := Tryz.prog) (t := 103) Tryz.underlying103 Tryz.sizeOf166 (Rd.of_own hrow) m (m : Int) rfl (by omega)
  rw [show N - m = k by omega] at hrun hRd hbl
  have hfd : (s.st.flatMap LP.vc).drop (m * 2) = (s.st.drop m).flatMap vcell := flat_drop (E := vcell) (sz := 2) (fun _ => rfl) s.st m
  rw [hfd] at hRd
  have hcut := cut_own (P := Tryz.prog) (t := 103) Tryz.underlying103 Tryz.sizeOf166 N cv m av (m : Int) rfl (by omega) hcv
  have hRow2 := own_cut hrow (show m ≤ N by omega)
  rw [show (s.st.flatMap LP.vc).take (m * 2) = (s.st.take m).flatMap LP.vc from flat_take (E := vcell) (sz := 2) (fun _ => rfl) s.st m] at hRow2
  obtain ⟨L, hL⟩ := ex (s.st.drop m)
  obtain ⟨T, hT⟩ := ex (s.st.take m)
  have hTl : T.length = m := by rw [← hT, List.length_take]; omega
  have hLm : ∀ v ∈ L, v ∈ s.st := fun v hv => List.mem_of_mem_drop (by rw [hL]; exact hv)
  rw [hL] at hRd hdl hR
  rw [hT] at hRow2 hR
  have hcl := fun W (c : Ext w W) => iclonev_any (.slice a2 k c2) L W (by rw [hdl]; exact hRd.ext c) (by omega)
  rw [hdl] at hcl
  replace hcl := hidden hcl
  replace hRd := hidden hRd
  replace hRow2 := hidden hRow2
  replace hR := hidden hR
  replace hN := hidden hN
  replace hkl := hidden hkl
  replace hdl := hidden hdl
  replace hTl := hidden hTl
  replace hL := hidden hL
  replace hT := hidden hT
  replace hV0 := hidden hV0
  replace hbl := hidden hbl
  replace hrow := hidden hrow
  have hk' := hidden hk
  have hnx : Hid (∀ (pos : Nat) (hp : pos < k), ∃ b : UInt8, ty.data.toList[pos]? = some b ∧ ∀ (W : World) (t : TypeId), (Instr.next (.pointer (some ⟨W.heap.size, 0, none⟩)) true t).run Tryz.prog (W.iter ty pos) = .ok (.tuple #[.bool true, .int .i64 pos, .int .i32 b.toNat]) (W.iter ty (pos + 1))) := by
   intro pos hp
   have hp' : pos < ty.size := by rw [hk]; exact hp
   exact ⟨ty[pos]'hp', by rw [List.getElem?_eq_getElem (by simpa using hp')]; rfl, fun W t => run_next_ascii W ty pos t hp' (hasc pos hp')⟩
  have hne : Hid (∀ (W : World) (t : TypeId), (Instr.next (.pointer (some ⟨W.heap.size, 0, none⟩)) true t).run Tryz.prog (W.iter ty k) = .ok (.tuple #[.bool false]) (W.iter ty k)) := fun W t => run_next_end W ty k t (by omega)
  clear hfd
  go_enter Tryz.func73, Tryz.ntmps73
  go_wp2_with fail
  refine hbase.out.mono ?_
  rintro x w1 ⟨rfl, hX⟩
  have k10 := hX.cell c10
  have g10 := hX.frozen c10 f10
  replace hX := hidden hX
  clear c10 f10
  go_wp2_with fail
  refine (hd1.out _).mono ?_
  rintro x w2 ⟨rfl, hw2⟩
  rw [hw2]
  clear hw2 hk
  go_wp2_with fail
  refine (hcl.out w1 hX.out).mono ?_
  rintro x w2 ⟨vl, rfl, hOl, hX2⟩
  have j10 := hX2.cell k10
  have h10 := hX2.frozen k10 g10
  have hs1 := hX.out.size
  have hs2 := hX2.size
  obtain ⟨al, cl, rfl, hcl1, hcl2, hal⟩ := own_shape hOl
  have hX3 := hidden (hX.out.trans hX2)
  have hOl2 := hidden hOl
  clear hX2 hOl k10 g10
  obtain ⟨W, hW⟩ := ex w2
  subst hW
  go_wp2_with fail
  go_loopw [7, 8] (fun u7 u8 wr => ∃ (pos : Nat), pos ≤ k ∧ wr = w2.iter ty pos ∧ Hid (∀ (j : Nat), j < pos → ∀ (t : UInt8) (v : Vl), ty.data.toList[j]? = some t → L[j]? = some v → ok1 t v = true)) (fun _ _ wr => k - wr.iterPos w2.heap.size)
  case atStart => exact ⟨0, Nat.zero_le _, rfl, hidden (fun j hj => by omega)⟩
  case round =>
   obtain ⟨pos, hpos, rfl, hok⟩ := hrel
   by_cases hp : pos < k
   ·obtain ⟨b8, hb8, hnx1⟩ := hnx.out pos hp
    have hnx2 := hnx1 w2
    obtain ⟨⟨x, tr⟩, hv⟩ : ∃ v, L[pos]? = some v := ⟨L[pos]'(by rw [hdl.out]; exact hp), List.getElem?_eq_getElem _⟩
    obtain ⟨g, rfl, hg1, hg2⟩ := hal (by omega)
    have hc := own_cell hOl2.out (pos * 2 + 1) _ (flat_at (E := vcell) (m := 2) (fun _ => rfl) hv (j := 1) rfl)
    have hc2 : (w2.iter ty (pos + 1)).cell? ⟨g, pos * 2 + 1, none⟩ = some (.bool tr) := ((Ext.refl w2).alloc (.stringIter ty (pos + 1))).cell hc
    have hok2 : Hid (ok1 b8 (x, tr) = true → ∀ (j : Nat), j < pos + 1 → ∀ (t : UInt8) (v : Vl), ty.data.toList[j]? = some t → L[j]? = some v → ok1 t v = true) := by
     intro h1 j hj t v ht hv2
     by_cases hjp : j < pos
     ·exact hok.out j hjp t v ht hv2
     ·obtain rfl : j = pos := by omega
      rw [hb8] at ht
      rw [hv] at hv2
      cases ht
      cases hv2
      exact h1
    have hbad : Hid (ok1 b8 (x, tr) = false → R = .error 13) := by
     intro h1
     rw [← hR.out, tyOk_false _ _ _ _ _ hb8 hv h1]
     rfl
    have hXi := hidden (hX3.out.trans ((Ext.refl w2).alloc (.stringIter ty (pos + 1))))
    replace hv := hidden hv
    clear hnx1 hc hok j10 h10 hrun hcut
    have hpk : (pos : Int) < (k : Int) := by omega
    by_cases h110 : b8 = 110
    ·subst h110
     rw [show ((110 : UInt8).toNat : Int) = 110 from rfl] at hnx2
     cases tr
     ·go_wp2_with fail
      refine (he1.out _).mono ?_
      rintro x w5 ⟨rfl, hw5⟩
      rw [hw5]
      go_wp2_with fail
      go_roundw
      case rel => exact ⟨pos + 1, by omega, rfl, hidden (hok2.out rfl)⟩
      case measure => simp; omega
     ·go_wp2_with fail
      refine (he0.out _).mono ?_
      rintro x w5 ⟨rfl, hw5⟩
      rw [hw5]
      unfold failI
      go_wp2_with fail
      refine ⟨rfl, ?_⟩
      show PopP _ _ _ _ _ _ _ R _ _
      rw [hbad.out rfl]
      exact ⟨rfl, Chg.of_ext _ hXi.out⟩
    ·by_cases h116 : b8 = 116
     ·subst h116
      rw [show ((116 : UInt8).toNat : Int) = 116 from rfl] at hnx2
      cases tr
      ·go_wp2_with fail
       refine (he0.out _).mono ?_
       rintro x w5 ⟨rfl, hw5⟩
       rw [hw5]
       unfold failI
       go_wp2_with fail
       refine ⟨rfl, ?_⟩
       show PopP _ _ _ _ _ _ _ R _ _
       rw [hbad.out rfl]
       exact ⟨rfl, Chg.of_ext _ hXi.out⟩
      ·go_wp2_with fail
       refine (he1.out _).mono ?_
       rintro x w5 ⟨rfl, hw5⟩
       rw [hw5]
       go_wp2_with fail
       go_roundw
       case rel => exact ⟨pos + 1, by omega, rfl, hidden (hok2.out rfl)⟩
       case measure => simp; omega
     ·have h1 : ((b8.toNat : Int) != 110) = true := by
       simp only [bne_iff_ne, ne_eq]
       intro e
       exact h110 (UInt8.toNat_inj.1 (by have : b8.toNat = 110 := by omega
                                         rw [this]; rfl))
      have h2 : ((b8.toNat : Int) != 116) = true := by
       simp only [bne_iff_ne, ne_eq]
       intro e
       exact h116 (UInt8.toNat_inj.1 (by have : b8.toNat = 116 := by omega
                                         rw [this]; rfl))
      have h3 : ok1 b8 (x, tr) = true := by unfold ok1; rw [if_neg h110, if_neg h116]
      obtain ⟨rn, hrn⟩ : ∃ rn : Int, (b8.toNat : Int) = rn := ⟨_, rfl⟩
      rw [hrn] at hnx2 h1 h2
      clear hrn h110 h116
      go_wp2_with fail
      refine (he1.out _).mono ?_
      rintro x w5 ⟨rfl, hw5⟩
      rw [hw5]
      go_wp2_with fail
      go_roundw
      case rel => exact ⟨pos + 1, by omega, rfl, hidden (hok2.out h3)⟩
      case measure => simp; omega
   ·obtain rfl : pos = k := by omega
    have hne1 := hne.out w2
    have hg10 : (w2.iter ty pos).cell? ⟨q, 10, none⟩ = some (.slice av N cv) := ((Ext.refl w2).alloc (.stringIter ty pos)).cell j10
    have hf10 : (w2.iter ty pos).frozen? ⟨q, 10, none⟩ = false := ((Ext.refl w2).alloc (.stringIter ty pos)).frozen j10 h10
    have hXi := hidden (hX3.out.trans ((Ext.refl w2).alloc (.stringIter ty pos)))
    have hOl3 := hidden (own_ext hOl2.out ((Ext.refl w2).alloc (.stringIter ty pos)))
    have hRw := own_ext hRow2.out hXi.out
    have hMi := hM.out.ext hXi.out
    obtain ⟨m1, m2, m3⟩ := hMi.setRow (i := 2) (j := 10) (S := []) (r' := ⟨166, 2, .slice av m cv, T.length, T.flatMap vcell⟩) (V' := { V with st := .slice av m cv }) (s' := { s with st := T }) rfl (Chg.refl _ _) (by simp)
     (by unfold Row.own; rw [hTl.out]; exact hRw) (fun x hx => by rw [show (⟨LP.tv, 2, V.st, s.st.length, s.st.flatMap LP.vc⟩ : Row).v = V.st from rfl, hV0.out]; left; revert hx; cases av <;> exact id) rfl hMi.al rfl
    have hRok : Hid (R = .ok (L, T)) := by
     show _ = _
     rw [← hR.out, tyOk_true _ _ (fun j t v ht hv => hok.out j (by have := (List.getElem?_eq_some_iff.1 ht).1; rw [hkl.out] at this; exact this) t v ht hv)]
     rfl
    have hlt1 := hidden (fun x (hx : x ∈ SV q V) => (hM.out.lt hx).2)
    replace m1 := hidden m1
    replace m2 := hidden m2
    replace m3 := hidden m3
    replace hRw := hidden hRw
    replace hMi := hidden hMi
    clear hrun j10 h10 hok
    go_wp2_with fail
    go_ret
    show PopP _ _ _ _ _ _ _ R _ _
    rw [hRok.out]
    have hcq : Chg [q] (w2.iter ty pos) ((w2.iter ty pos).setCell ⟨q, 10, none⟩ (.slice av m cv)) := (Chg.refl _ _).setCell (Or.inl (by simp)) _
    have hqlt : q < w.heap.size := hlt1.out q (by simp [SV])
    refine ⟨_, _, rfl, ?_, fun k' hk' => ?_, m1.out, (Chg.of_ext _ hXi.out).trans m2.out (fun x hx => Or.inl hx), fun x hx => ?_⟩
    ·rw [hdl.out]
     refine Rd.chg (Rd.of_own hOl3.out) hcq (fun x hx _ e => ?_)
     have := (own_lt hOl3.out e).1
     simp at hx; omega
    ·have h5 := own_lt hOl3.out hk'
     refine ⟨by omega, fun hm => ?_⟩
     have h6 := own_lt hOl2.out hk'
     rcases m3.out k' hm with h1 | h1
     ·have := hlt1.out k' h1; omega
     ·have := ((Ext.refl w2).alloc (.stringIter ty pos)).size
      have e2 : (w2.iter ty pos).heap.size = w2.heap.size + 1 := by simp [World.iter]
      omega
    ·rcases m3.out x hx with h1 | h1
     ·exact Or.inl h1
     ·have := hXi.out.size; exact Or.inr (by omega)
structure Pre (w : World) (B q : Nat) (V : Vs) (X : EV) (E : Env) (s : MS) (op arg : Int) (l : List Vl) (vl : Value) : Prop where
 m : MSt LP w B q V X E s
 hb : B ≤ w.heap.size
 ok : OkS E s
 okE : OkE E
 opc : opC E.C s.pc.toNat = op
 p0 : 0 ≤ s.pc
 p1 : s.pc < E.C.length
 ha : U32 arg
 ctx : op = 35 → arg < 16
 ex : exiF E op arg = true
 ll : l.length = (opAt op).2.1.size
 lu : ∀ v ∈ l, U32 v.1
 rd : Rd w 2 vl l.length (l.flatMap vcell)
 off : ∀ k, vl.ownBlock = some k → B ≤ k ∧ k ∉ SV q V
 ns : exeF E op arg l s ≠ .stuck
def Meth (f : Nat) (op : Int) : Prop := ∀ (w : World) (B q : Nat) (V : Vs) (X : EV) (E : Env) (s : MS) (arg : Int) (l : List Vl) (vl : Value), Pre w B q V X E s op arg l vl →
 Calls Tryz.prog f #[.pointer (some ⟨q, 0, none⟩), .agg #[.int .i64 op, .int .u32 arg], vl] w (MP w B q V X E (exeF E op arg l s))
theorem MP.of_ext {w w1 : World} {B q : Nat} {V : Vs} {X : EV} {E : Env} {r : Rs} {x : Ending} {w' : World} (c : Ext w w1) (h : MP w1 B q V X E r x w') : MP w B q V X E r x w' := by
 cases r with
 | stuck => exact h
 | err e => exact ⟨h.1, (Chg.of_ext _ c).trans h.2 (fun x hx => Or.inl hx)⟩
 | go s' =>
  obtain ⟨h1, V', h2, h3, h4⟩ := h
  exact ⟨h1, V', h2, (Chg.of_ext _ c).trans h3 (fun x hx => Or.inl hx), fun x hx => (h4 x hx).imp id (fun h => Nat.le_trans c.size h)⟩
theorem exe0 (E : Env) (arg : Int) (l : List Vl) (s : MS) : exeF E 0 arg l s = pushF [(arg, false)] s := by unfold exeF; rw [if_pos rfl]
theorem exe1 (E : Env) (arg : Int) (l : List Vl) (s : MS) : exeF E 1 arg l s = pushF [(s.lo.getD arg.toNat 0, false)] s := by unfold exeF; (repeat rw [if_neg (by decide)]); rw [if_pos rfl]
theorem exe2 (E : Env) (arg : Int) (l : List Vl) (s : MS) : exeF E 2 arg l s = .go { s with lo := s.lo.set arg.toNat (vl l 0).1 } := by unfold exeF; (repeat rw [if_neg (by decide)]); rw [if_pos rfl]
theorem exe3 (E : Env) (arg : Int) (l : List Vl) (s : MS) : exeF E 3 arg l s = getF arg (vl l 0).1 s := by unfold exeF; (repeat rw [if_neg (by decide)]); rw [if_pos rfl]
theorem exe4 (E : Env) (arg : Int) (l : List Vl) (s : MS) : exeF E 4 arg l s = putF E arg (vl l 0).1 (vl l 1).1 s := by unfold exeF; (repeat rw [if_neg (by decide)]); rw [if_pos rfl]
theorem exe5 (E : Env) (arg : Int) (l : List Vl) (s : MS) : exeF E 5 arg l s = pushF [vl l 0, vl l 0] s := by unfold exeF; (repeat rw [if_neg (by decide)]); rw [if_pos rfl]
theorem exe6 (E : Env) (arg : Int) (l : List Vl) (s : MS) : exeF E 6 arg l s = .go s := by unfold exeF; (repeat rw [if_neg (by decide)]); rw [if_pos rfl]
theorem exe7 (E : Env) (arg : Int) (l : List Vl) (s : MS) : exeF E 7 arg l s = pushF [vl l 1, vl l 0] s := by unfold exeF; (repeat rw [if_neg (by decide)]); rw [if_pos rfl]
theorem exe30 (E : Env) (arg : Int) (l : List Vl) (s : MS) : exeF E 30 arg l s = leaveF E (vl l 0).1 s := by unfold exeF; (repeat rw [if_neg (by decide)]); rw [if_pos rfl]
theorem exe32 (E : Env) (arg : Int) (l : List Vl) (s : MS) : exeF E 32 arg l s = pushF [(E.inp, false)] s := by unfold exeF; (repeat rw [if_neg (by decide)]); rw [if_pos rfl]
theorem exe33 (E : Env) (arg : Int) (l : List Vl) (s : MS) : exeF E 33 arg l s = pushF [(if E.ended = true then 1 else 0, true)] s := by unfold exeF; (repeat rw [if_neg (by decide)]); rw [if_pos rfl]
theorem exe34 (E : Env) (arg : Int) (l : List Vl) (s : MS) : exeF E 34 arg l s = emitF (vl l 0).1 s := by unfold exeF; (repeat rw [if_neg (by decide)]); rw [if_pos rfl]
theorem exe35 (E : Env) (arg : Int) (l : List Vl) (s : MS) : exeF E 35 arg l s = .go { s with cx := s.cx.set arg.toNat (vl l 0).1 } := by unfold exeF; (repeat rw [if_neg (by decide)]); rw [if_pos rfl]
theorem rd_newc (w : World) (cs : List Value) (t : TypeId) (sz n : Nat) (h : cs.length = n * sz) (hn : n ≤ maxLen) : Rd (w.alloc (.cells cs.toArray t)) sz (.slice (some ⟨w.heap.size, 0, none⟩) n n) n cs := by
 have hb := Blk.new w cs t
 refine ⟨h, some ⟨w.heap.size, 0, none⟩, n, rfl, Nat.le_refl _, hn, (fun e => by cases e), fun _ => ⟨w.heap.size, 0, rfl, hb.lt, fun j hj => ?_⟩⟩
 rw [Nat.zero_add]
 exact hb.cell j _ (by simp [List.getD, hj])
theorem push1 {w : World} {B q : Nat} {V : Vs} {X : EV} {E : Env} {s : MS} (h : MSt LP w B q V X E s) (hB : B ≤ w.heap.size) (hs : OkS E s) (W : World) (c : Ext w W) (n : Int) (t : Bool) :
  Calls Tryz.prog 112 #[.pointer (some ⟨q, 0, none⟩), .slice (some ⟨W.heap.size, 0, none⟩) 1 1] (W.alloc (.cells #[.int .u32 n, .bool t] 166)) (MP w B q V X E (pushF [(n, t)] s)) := by
 have c1 := c.alloc (.cells #[.int .u32 n, .bool t] 166)
 refine (ipush_any _ B q V X E s (h.ext c1) (Nat.le_trans hB c1.size) hs [(n, t)] (by simp) _ (rd_newc W [.int .u32 n, .bool t] _ 2 1 rfl (by decide))).mono ?_
 intro x w' hm
 exact hm.of_ext c1
theorem push2 {w : World} {B q : Nat} {V : Vs} {X : EV} {E : Env} {s : MS} (h : MSt LP w B q V X E s) (hB : B ≤ w.heap.size) (hs : OkS E s) (W : World) (c : Ext w W) (v u : Vl) :
  Calls Tryz.prog 112 #[.pointer (some ⟨q, 0, none⟩), .slice (some ⟨W.heap.size, 0, none⟩) 2 2] (W.alloc (.cells #[.int .u32 v.1, .bool v.2, .int .u32 u.1, .bool u.2] 166)) (MP w B q V X E (pushF [v, u] s)) := by
 have c1 := c.alloc (.cells #[.int .u32 v.1, .bool v.2, .int .u32 u.1, .bool u.2] 166)
 refine (ipush_any _ B q V X E s (h.ext c1) (Nat.le_trans hB c1.size) hs [v, u] (by simp) _ (rd_newc W [.int .u32 v.1, .bool v.2, .int .u32 u.1, .bool u.2] _ 2 2 rfl (by decide))).mono ?_
 intro x w' hm
 exact hm.of_ext c1
theorem Pre.v0 {w : World} {B q : Nat} {V : Vs} {X : EV} {E : Env} {s : MS} {op arg : Int} {l : List Vl} {v : Value} (h : Pre w B q V X E s op arg l v) (i : Nat) (hi : i < l.length) :
  ∃ b o cap, v = .slice (some ⟨b, o, none⟩) l.length cap ∧ b ∉ SV q V ∧ b < w.heap.size ∧ w.cell? ⟨b, o + i * 2, none⟩ = some (.int .u32 (vl l i).1) ∧ w.cell? ⟨b, o + i * 2 + 1, none⟩ = some (.bool (vl l i).2) := by
 have hr := h.rd
 obtain ⟨a, cap, rfl, h1, h2, h3⟩ := Rd.shape hr
 obtain ⟨b, o, rfl, hb, hc⟩ := hr.cells (by omega)
 have hv : l[i]? = some (vl l i) := by unfold vl; rw [List.getD_eq_getElem?_getD, List.getElem?_eq_getElem hi]; rfl
 have hlen : (l.flatMap vcell).length = l.length * 2 := hr.len
 refine ⟨b, o, cap, rfl, (h.off b rfl).2, hb, ?_, ?_⟩
 ·have := hc (i * 2) (by omega)
  rw [this]
  congr 1
  have := flat_at (E := vcell) (m := 2) (fun _ => rfl) hv (j := 0) (u := .int .u32 (vl l i).1) rfl
  simp only [Nat.add_zero] at this
  rw [List.getD_eq_getElem?_getD, this]; rfl
 ·have := hc (i * 2 + 1) (by omega)
  rw [Nat.add_assoc, this]
  congr 1
  have := flat_at (E := vcell) (m := 2) (fun _ => rfl) hv (j := 1) (u := .bool (vl l i).2) rfl
  rw [List.getD_eq_getElem?_getD, this]; rfl
theorem m_constant : Meth 92 0 := by
 intro w B q V X E s arg l v h
 rw [exe0]
 have hp := fun W c => push1 h.m h.hb h.ok W c arg false
 generalize pushF [(arg, false)] s = R at hp ⊢
 replace hp := hidden hp
 clear h
 go_enter Tryz.func92, Tryz.ntmps92
 go_wp2_with fail
 refine (inum_any _ _).mono ?_
 rintro x w1 ⟨rfl, hX⟩
 have hc := hidden (((Ext.refl w).alloc _).trans hX)
 clear hX
 go_wp2_with fail
 refine (hp.out w1 hc.out).mono ?_
 intro x w2 hm
 cases R with
 | stuck => exact hm.elim
 | err e =>
  obtain ⟨rfl, hm⟩ := hm
  replace hm := hidden hm
  unfold failI
  go_wp2_with fail
  exact ⟨rfl, rfl, hm.out⟩
 | go s' =>
  obtain ⟨rfl, hm⟩ := hm
  replace hm := hidden hm
  go_wp2_with fail
  go_end0
  exact ⟨rfl, hm.out⟩
end Go.Proofs.YtgjjklajipekdaaGreat
