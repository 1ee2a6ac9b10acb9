/- Byte slices: read, owned. -/
import Derived.Test.YtpfelklhejpnnaaRows
import Derived.Test.YtpfelklhejpnnaaMz
import Derived.Laws.OwnMore
import Derived.Test.YtpfelklhejpnnaaT
import Derived.Maps.RangeRun
namespace Go.Proofs.Ytpfelklhejpnnaa
open Go.RowKit
set_option linter.unusedVariables false

/-- Bytes as values. -/
def bs (l : List Int) : List Value := l.map (Value.int .u8)
theorem bs_len (l : List Int) : (bs l).length = l.length := by simp [bs]
theorem bs_get (l : List Int) (i : Nat) (h : i < l.length) : (bs l).getD i undef = .int .u8 (l.getD i 0) := by simp [bs, List.getD, h]
theorem bs_app (l m : List Int) : bs (l ++ m) = bs l ++ bs m := by simp [bs]
theorem bs_set (l : List Int) (i : Nat) (x : Int) : (bs l).set i (.int .u8 x) = bs (l.set i x) := by simp [bs, List.map_set]
def Bytes (l : List Int) : Prop := ∀ x ∈ l, 0 ≤ x ∧ x ≤ 255
theorem Bytes.get {l : List Int} (h : Bytes l) (i : Nat) (hi : i < l.length) : 0 ≤ l.getD i 0 ∧ l.getD i 0 ≤ 255 := by
  simp [List.getD, hi]; exact h _ (List.getElem_mem hi)
theorem Bytes.snoc {l : List Int} (h : Bytes l) {x : Int} (h0 : 0 ≤ x) (h1 : x ≤ 255) : Bytes (l ++ [x]) := by
  intro y hy
  rcases List.mem_append.1 hy with hy | hy
  · exact h y hy
  · simp at hy; omega
theorem u8info : (Try.prog.info? 5).map (fun i => (i.zero, i.size, i.bytes)) = some (some (.int .u8 0), 1, 1) := by kernel_rfl
/-- Owned bytes. -/
def Own8 (w : World) (B : Nat) (v : Value) (l : List Int) : Prop := w.ownsRow B 5 1 v l.length (bs l)
theorem Own8.shape {w : World} {B : Nat} {v : Value} {l : List Int} (h : Own8 w B v l) :
    (v = .slice none 0 0 ∧ l = []) ∨ ∃ g cap, v = .slice (some ⟨g, 0, none⟩) l.length cap ∧ B ≤ g ∧ g < w.heap.size ∧ l.length ≤ cap ∧ cap ≤ 9223372036854775807 := by
  rcases h.2 with ⟨h1, h2⟩ | ⟨g, cap, cur, hv, hb, hg, h1, h2, _⟩
  · exact Or.inl ⟨h1, List.eq_nil_of_length_eq_zero h2⟩
  · exact Or.inr ⟨g, cap, hv, hb, (Array.getElem?_eq_some_iff.1 hg).1, h1, h2⟩
/-- Bytes that are read. -/
def Rd8 (w : World) (v : Value) (l : List Int) : Prop := Rd w 1 v l.length (bs l)
theorem Own8.rd {w : World} {B : Nat} {v : Value} {l : List Int} (h : Own8 w B v l) : Rd8 w v l := Rd.of_own h
theorem bs_one (l : List Int) : ∀ u ∈ bs l, u.oneCell' = true := by
  intro u hu
  simp [bs] at hu
  obtain ⟨a, -, rfl⟩ := hu
  rfl
/-- Bytes do not lie in a block that holds none. -/
theorem Rd8.off_any {w : World} {v : Value} {l : List Int} {q : Nat} {t : TypeId} {cs : List Value} (h : Rd8 w v l) (hB : Blk w q t cs) (hn : ∀ u ∈ cs, ∀ n, u ≠ .int .u8 n) : 0 < l.length → v.ownBlock ≠ some q := by
  intro hl hv
  obtain ⟨_, a', cap', rfl, _, _, _, h6⟩ := h
  obtain ⟨b', off', rfl, -, hc⟩ := h6 hl
  simp [Value.ownBlock] at hv
  subst hv
  have h1 := hc 0 (by rw [bs_len]; exact hl)
  rw [bs_get l 0 hl, Nat.add_zero] at h1
  unfold Blk at hB
  simp only [World.cell?, hB] at h1
  have h2 : cs[off']? = some (.int .u8 (l.getD 0 0)) := by simpa using h1
  exact hn _ (List.mem_of_getElem? h2) _ rfl
/-- A row's block is none that is known whole and of another type. -/
theorem own_ne_blk {w : World} {B : Nat} {e t : TypeId} {sz n q : Nat} {v : Value} {xs cs : List Value} (h : w.ownsRow B e sz v n xs) (hB : Blk w q t cs) (hne : t ≠ e) : v.ownBlock ≠ some q := by
  intro hv
  rcases h.2 with ⟨rfl, _⟩ | ⟨g, cap, cur, rfl, _, hg, _⟩
  · simp [Value.ownBlock] at hv
  · simp [Value.ownBlock] at hv
    subst hv
    unfold Blk at hB
    rw [hB] at hg
    simp at hg
    exact hne hg.2
theorem Rd8.nil (w : World) : Rd8 w (.slice none 0 0) [] := Rd.nil w 1
theorem Rd8.at {w : World} {b off n cap : Nat} {l : List Int} (h : Rd8 w (.slice (some ⟨b, off, none⟩) n cap) l) (i : Nat) (hi : i < l.length) : w.cell? ⟨b, off + i, none⟩ = some (.int .u8 (l.getD i 0)) := by
  obtain ⟨_, a', cap', h2, _, _, _, h6⟩ := h
  simp only [Value.slice.injEq] at h2
  obtain ⟨rfl, -, rfl⟩ := h2
  obtain ⟨b', off', e, -, hc⟩ := h6 (by omega)
  simp only [Option.some.injEq, Addr.mk.injEq, and_true] at e
  obtain ⟨rfl, rfl⟩ := e
  rw [hc i (by rw [bs_len]; exact hi), bs_get l i hi]
/-- Where the bytes of a slice that holds some lie. -/
theorem Rd8.some {w : World} {a : Option Addr} {n cap : Nat} {l : List Int} (h : Rd8 w (.slice a n cap) l) (hn : 0 < l.length) : ∃ b off, a = Option.some ⟨b, off, none⟩ ∧ b < w.heap.size := by
  obtain ⟨_, a', cap', h2, _, _, _, h6⟩ := h
  simp only [Value.slice.injEq] at h2
  obtain ⟨rfl, -, rfl⟩ := h2
  obtain ⟨b', off', e, hb, -⟩ := h6 hn
  exact ⟨b', off', e, hb⟩
theorem Own8.len {w : World} {B g n cap : Nat} {D : List Int} (h : Own8 w B (.slice (Option.some ⟨g, 0, none⟩) n cap) D) : n = D.length := by
  rcases h.2 with ⟨h1, _⟩ | ⟨g', cap', cur, hv, _⟩
  · simp at h1
  · simp only [Value.slice.injEq] at hv; exact hv.2.1
theorem Own8.frozen {w : World} {B g n cap : Nat} {D : List Int} (h : Own8 w B (.slice (Option.some ⟨g, 0, none⟩) n cap) D) (j : Nat) : w.frozen? ⟨g, j, none⟩ = false := by
  obtain rfl := h.len
  exact World.ownsRow.frozenAt h j
theorem Own8.set {w : World} {B g n cap : Nat} {D : List Int} (h : Own8 w B (.slice (Option.some ⟨g, 0, none⟩) n cap) D) (j : Nat) (y : Int) : Own8 (w.setCell ⟨g, j, none⟩ (.int .u8 y)) B (.slice (Option.some ⟨g, 0, none⟩) n cap) (D.set j y) := by
  obtain rfl := h.len
  have := (World.ownsRow.stored h j (.int .u8 y)).1
  unfold Own8
  rw [List.length_set, ← bs_set]
  exact this
/-- Fresh: in no old block. -/
def Fresh (w : World) (v : Value) : Prop := ∀ y, y < w.heap.size → v.ownBlock ≠ some y
theorem Fresh.nil (w : World) : Fresh w (.slice none 0 0) := fun y hy h => by simp [Value.ownBlock] at h
theorem Fresh.of_own {w w' : World} {e : TypeId} {sz n B : Nat} {v : Value} {cs : List Value} (h : w'.ownsRow B e sz v n cs) (hB : w.heap.size ≤ B) : Fresh w v := fun y hy hv => by
  have := (own_lt h hv).1
  omega
end Go.Proofs.Ytpfelklhejpnnaa

/- slices.Clone of bytes. -/
namespace Go.Proofs.Ytpfelklhejpnnaa
open Go.RowKit
set_option linter.unusedVariables false

set_option maxHeartbeats 400000 in
theorem clone_any (v : Value) (l : List Int) (hl : l.length ≤ 900000) (w : World) (h : Rd8 w v l) :
    Calls Try.prog 46 #[v] w fun x w' => ∃ v', x = .returned v' ∧ Own8 w' w.heap.size v' l ∧ Ext w w' := by
  have q22 : ∀ (w : World) (a : Option Addr) (n c n' c' : Nat), (binOp .eql 22 (.slice a n c) (.slice none n' c')).run Try.prog w = .ok (.bool a.isNone) w := fun w a n c n' c' => Lib.run_eql_slice_nil w _ _ a n c n' c' Try.underlying22
  obtain ⟨a, cap, rfl, h1, h2, h3⟩ := Rd.shape h
  cases a with
  | none =>
    have hc := h3 rfl
    subst hc
    have hl0 : l.length = 0 := by omega
    rw [hl0]
    have he : Hid (l = []) := List.eq_nil_of_length_eq_zero hl0
    clear hl0 h1 hl h
    go_enter Try.func46, Try.ntmps46
    go_wp2_with fail
    go_ret
    exact ⟨_, rfl, by rw [he.out]; exact World.ownsRow_nil _ _ _ _, Ext.refl _⟩
  | some ad =>
    obtain ⟨i0, hi, hz0, hz1, hz2⟩ := info_parts u8info
    have hz : World.ownsRow (w.alloc (.cells #[] 5)) w.heap.size 5 1 (.slice (some ⟨w.heap.size, 0, none⟩) 0 0) 0 [] := World.ownsRow_made w #[] 0 (Nat.le_refl _) (Nat.zero_le _) rfl
    have hr := Rd.alloc h (.cells #[] 5)
    have H := hidden h
    clear h
    go_enter Try.func46, Try.ntmps46
    go_wp2_with (at_builtin; refine wpList_append_own _ rfl _ _ 22 rfl w.heap.size 5 i0 (.int .u8 0) 1 1 Try.underlying22 hi hz0 hz1 hz2 rfl (by decide) _ 0 [] rfl hz ad l.length cap (bs l) rfl (by simp [bs]) hr.news (bs_one l) (by unfold maxLen; omega) (by omega) (by simp) ?_; intro v1 w1 hown hgrow hnil)
    go_ret
    refine ⟨v1, rfl, ?_, ?_⟩
    · rw [Nat.zero_add, List.nil_append] at hown
      exact hown
    · exact (((Chg.refl [] w).alloc _).grown hgrow (fun k hk => Or.inr (by injection hk with hk; exact Nat.le_of_eq hk))).ext
end Go.Proofs.Ytpfelklhejpnnaa

/- General: a map with integers for keys, anywhere in memory: its length, a new entry, a look-up, a range over it. -/
namespace Go.Proofs.Ytpfelklhejpnnaa
open Go.RowKit Go.MapKept Go.ChangeMaps
set_option linter.unusedVariables false
set_option linter.unusedSimpArgs false

theorem ents_len : ∀ (l : List (Int × Value)) (n : Nat), (ents n l).length = l.length
  | [], _ => rfl
  | p :: r, n => by simp [ents, ents_len r (n + 1)]
theorem run_len_tbl {P : Program} {w : World} {t kt et ty : TypeId} (ht : P.underlying t = some (.map kt et)) {r : Nat} (l : List (Int × Value)) (hb : w.heap[r]? = some (tblObj l)) :
    (Builtin.len_ #[t] ty #[.map (some r)]).run P w = .ok (.int .i64 (l.length : Int)) w := by
  have hb' : w.heap[r]? = some (.map (ents 0 l).toArray l.length) := hb
  simp [Builtin.len_, run_underlying ht, MapKept.run_getObj_map hb', Result.andThen, ents_len, goInt]
theorem run_insert_at {P : Program} {w : World} {t kt et : TypeId} (ht : P.underlying t = some (.map kt et)) (hk : P.underlying kt = some (.int .i64)) {r : Nat} (l : List (Int × Value)) (hb0 : w.heap[r]? = some (tblObj l)) (k : Int) (v : Value) (hnew : look k l = none) :
    (Instr.mapUpdate t (.map (some r)) (.int .i64 k) v).run P w = .ok () (setBlock w r (tblObj (l ++ [(k, v)]))) := by
  have hb : w.heap[r]? = some (.map (ents 0 l).toArray l.length) := hb0
  have hf := (find_ents k l 0 0).1 hnew
  unfold Instr.mapUpdate
  simp only [Sem.run_bind, run_underlying ht, Result.andThen, Go.MapKept.run_getObj_map hb, run_checkKey hk (show IsKey (.int .i64) (.int .i64 k) from rfl), run_findKey hk (l := (ents 0 l)) hf]
  rw [run_setObj_map _ hb]
  congr 1
  unfold setBlock
  congr 2
  unfold tblObj
  rw [ents_snoc]
  simp
theorem chg_setBlock (w : World) (r : Nat) (o : Obj) : Chg [r] w (setBlock w r o) := ⟨rfl, rfl, rfl, by simp [setBlock], fun k _ hs => by
  simp at hs
  simp [setBlock, Array.getElem?_setIfInBounds, Ne.symm hs]⟩
theorem setBlock_at {w : World} {r : Nat} (h : r < w.heap.size) (o : Obj) : (setBlock w r o).heap[r]? = some o := by simp [setBlock, h]
/-- Entries in memory: keys, byte strings; their slices' blocks are from B on. -/
def MapM (W : World) (mb B : Nat) (es : List (Int × List Int)) : Prop :=
  ∃ l : List (Int × Value), W.heap[mb]? = some (tblObj l) ∧ l.length = es.length ∧ ∀ (i : Nat) (p : Int × Value) (e : Int × List Int), l[i]? = some p → es[i]? = some e → p.1 = e.1 ∧ Rd8 W p.2 e.2 ∧ ∀ g, p.2.ownBlock = some g → B ≤ g
theorem MapM.chg {W W' : World} {S : List Nat} {mb B : Nat} {es : List (Int × List Int)} (h : MapM W mb B es) (hC : Chg S W W') (hS : ∀ x ∈ S, x < B ∧ x ≠ mb) : MapM W' mb B es := by
  obtain ⟨l, h1, h2, h3⟩ := h
  refine ⟨l, hC.heap (fun hm => (hS _ hm).2 rfl) h1, h2, fun i p e hp he => ?_⟩
  obtain ⟨g1, g2, g3⟩ := h3 i p e hp he
  exact ⟨g1, g2.chg hC (fun x hx _ hb => by have := g3 x hb; have := (hS x hx).1; omega), g3⟩
theorem look_some {k : Int} : ∀ {l : List (Int × Value)}, (∃ p ∈ l, p.1 = k) → ∃ v, look k l = some v
  | [], h => by obtain ⟨p, hp, -⟩ := h; cases hp
  | p :: r, h => by
    by_cases e : k = p.1
    · exact ⟨p.2, by simp [look, e]⟩
    · obtain ⟨q, hq, hk⟩ := h
      rcases List.mem_cons.1 hq with rfl | hq
      · exact absurd hk.symm e
      · obtain ⟨v, hv⟩ := look_some ⟨q, hq, hk⟩
        exact ⟨v, by simp only [look, e, if_false]; exact hv⟩
theorem MapM.keys {W : World} {B : Nat} {es : List (Int × List Int)} {l : List (Int × Value)} (h2 : l.length = es.length) (h3 : ∀ (i : Nat) (p : Int × Value) (e : Int × List Int), l[i]? = some p → es[i]? = some e → p.1 = e.1 ∧ Rd8 W p.2 e.2 ∧ ∀ g, p.2.ownBlock = some g → B ≤ g) (k : Int) :
    (∃ p ∈ l, p.1 = k) ↔ ∃ e ∈ es, e.1 = k := by
  constructor
  · rintro ⟨p, hp, rfl⟩
    obtain ⟨i, hi, rfl⟩ := List.mem_iff_getElem.1 hp
    exact ⟨es[i]'(by omega), List.getElem_mem _, ((h3 i _ _ (List.getElem?_eq_getElem hi) (List.getElem?_eq_getElem (by omega))).1).symm⟩
  · rintro ⟨e, he, rfl⟩
    obtain ⟨i, hi, rfl⟩ := List.mem_iff_getElem.1 he
    exact ⟨l[i]'(by omega), List.getElem_mem _, (h3 i _ _ (List.getElem?_eq_getElem (by omega)) (List.getElem?_eq_getElem hi)).1⟩
theorem MapM.put {W : World} {mb B : Nat} {es : List (Int × List Int)} {l : List (Int × Value)} (h1 : W.heap[mb]? = some (tblObj l)) (h2 : l.length = es.length) (h3 : ∀ (i : Nat) (p : Int × Value) (e : Int × List Int), l[i]? = some p → es[i]? = some e → p.1 = e.1 ∧ Rd8 W p.2 e.2 ∧ ∀ g, p.2.ownBlock = some g → B ≤ g)
    (hm : mb < B) (k : Int) (v : Value) (D : List Int) (hv : Rd8 W v D) (hg : ∀ g, v.ownBlock = some g → B ≤ g) : MapM (setBlock W mb (tblObj (l ++ [(k, v)]))) mb B (es ++ [(k, D)]) := by
  have hC := chg_setBlock W mb (tblObj (l ++ [(k, v)]))
  refine ⟨l ++ [(k, v)], setBlock_at (Array.getElem?_eq_some_iff.1 h1).1 _, by simp [h2], fun i p e hp he => ?_⟩
  by_cases hi : i < l.length
  · rw [List.getElem?_append_left hi] at hp
    rw [List.getElem?_append_left (by omega)] at he
    obtain ⟨g1, g2, g3⟩ := h3 i p e hp he
    exact ⟨g1, g2.chg hC (fun x hx _ hb => by simp at hx; have := g3 x hb; omega), g3⟩
  · have hil : i = l.length := by
      have := (List.getElem?_eq_some_iff.1 hp).1
      simp at this
      omega
    rw [hil, List.getElem?_concat_length] at hp
    rw [hil, h2, List.getElem?_concat_length] at he
    cases hp
    cases he
    exact ⟨rfl, hv.chg hC (fun x hx _ hb => by simp at hx; have := hg x hb; omega), hg⟩
end Go.Proofs.Ytpfelklhejpnnaa
