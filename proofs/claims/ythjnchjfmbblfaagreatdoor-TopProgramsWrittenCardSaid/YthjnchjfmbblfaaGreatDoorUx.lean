/- Byte slices: read, owned. -/
import Derived.Test.YthjnchjfmbblfaaGreatDoorRows
import Derived.Test.YthjnchjfmbblfaaGreatDoorMz
import Derived.Laws.OwnMore
import Derived.Test.YthjnchjfmbblfaaGreatDoorIp
import Derived.Maps.RangeRun
namespace Go.Proofs.YthjnchjfmbblfaaGreatDoor
open Go.RowKit
set_option linter.unusedVariables false

/-- Bytes as values. -/
def bs (l : List Int) : List Value := l.map (Value.int .u8)
theorem bs_len (l : List Int) : (bs l).length = l.length := by simp [bs]
theorem bs_get (l : List Int) (i : Nat) (h : i < l.length) : (bs l).getD i undef = .int .u8 (l.getD i 0) := by simp [bs, List.getD, h]
theorem bs_app (l m : List Int) : bs (l ++ m) = bs l ++ bs m := by simp [bs]
theorem bs_set (l : List Int) (i : Nat) (x : Int) : (bs l).set i (.int .u8 x) = bs (l.set i x) := by simp [bs, List.map_set]
def Bytes (l : List Int) : Prop := ∀ x ∈ l, 0 ≤ x ∧ x ≤ 255
theorem Bytes.get {l : List Int} (h : Bytes l) (i : Nat) (hi : i < l.length) : 0 ≤ l.getD i 0 ∧ l.getD i 0 ≤ 255 := by
  simp [List.getD, hi]; exact h _ (List.getElem_mem hi)
theorem Bytes.snoc {l : List Int} (h : Bytes l) {x : Int} (h0 : 0 ≤ x) (h1 : x ≤ 255) : Bytes (l ++ [x]) := by
  intro y hy
  rcases List.mem_append.1 hy with hy | hy
  · exact h y hy
  · simp at hy; omega
theorem u8info : (Tryz.prog.info? 5).map (fun i => (i.zero, i.size, i.bytes)) = some (some (.int .u8 0), 1, 1) := by kernel_rfl
/-- Owned bytes. -/
def Own8 (w : World) (B : Nat) (v : Value) (l : List Int) : Prop := w.ownsRow B 5 1 v l.length (bs l)
theorem Own8.shape {w : World} {B : Nat} {v : Value} {l : List Int} (h : Own8 w B v l) :
    (v = .slice none 0 0 ∧ l = []) ∨ ∃ g cap, v = .slice (some ⟨g, 0, none⟩) l.length cap ∧ B ≤ g ∧ g < w.heap.size ∧ l.length ≤ cap ∧ cap ≤ 9223372036854775807 := by
  rcases h.2 with ⟨h1, h2⟩ | ⟨g, cap, cur, hv, hb, hg, h1, h2, _⟩
  · exact Or.inl ⟨h1, List.eq_nil_of_length_eq_zero h2⟩
  · exact Or.inr ⟨g, cap, hv, hb, (Array.getElem?_eq_some_iff.1 hg).1, h1, h2⟩
/-- Bytes that are read. -/
def Rd8 (w : World) (v : Value) (l : List Int) : Prop := Rd w 1 v l.length (bs l)
theorem Own8.rd {w : World} {B : Nat} {v : Value} {l : List Int} (h : Own8 w B v l) : Rd8 w v l := Rd.of_own h
theorem bs_one (l : List Int) : ∀ u ∈ bs l, u.oneCell' = true := by
  intro u hu
  simp [bs] at hu
  obtain ⟨a, -, rfl⟩ := hu
  rfl
/-- Bytes do not lie in a block that holds none. -/
theorem Rd8.off_any {w : World} {v : Value} {l : List Int} {q : Nat} {t : TypeId} {cs : List Value} (h : Rd8 w v l) (hB : Blk w q t cs) (hn : ∀ u ∈ cs, ∀ n, u ≠ .int .u8 n) : 0 < l.length → v.ownBlock ≠ some q := by
  intro hl hv
  obtain ⟨_, a', cap', rfl, _, _, _, h6⟩ := h
  obtain ⟨b', off', rfl, -, hc⟩ := h6 hl
  simp [Value.ownBlock] at hv
  subst hv
  have h1 := hc 0 (by rw [bs_len]; exact hl)
  rw [bs_get l 0 hl, Nat.add_zero] at h1
  unfold Blk at hB
  simp only [World.cell?, hB] at h1
  have h2 : cs[off']? = some (.int .u8 (l.getD 0 0)) := by simpa using h1
  exact hn _ (List.mem_of_getElem? h2) _ rfl
/-- A row's block is none that is known whole and of another type. -/
theorem own_ne_blk {w : World} {B : Nat} {e t : TypeId} {sz n q : Nat} {v : Value} {xs cs : List Value} (h : w.ownsRow B e sz v n xs) (hB : Blk w q t cs) (hne : t ≠ e) : v.ownBlock ≠ some q := by
  intro hv
  rcases h.2 with ⟨rfl, _⟩ | ⟨g, cap, cur, rfl, _, hg, _⟩
  · simp [Value.ownBlock] at hv
  · simp [Value.ownBlock] at hv
    subst hv
    unfold Blk at hB
    rw [hB] at hg
    simp at hg
    exact hne hg.2
theorem Rd8.nil (w : World) : Rd8 w (.slice none 0 0) [] := Rd.nil w 1
theorem Rd8.at {w : World} {b off n cap : Nat} {l : List Int} (h : Rd8 w (.slice (some ⟨b, off, none⟩) n cap) l) (i : Nat) (hi : i < l.length) : w.cell? ⟨b, off + i, none⟩ = some (.int .u8 (l.getD i 0)) := by
  obtain ⟨_, a', cap', h2, _, _, _, h6⟩ := h
  simp only [Value.slice.injEq] at h2
  obtain ⟨rfl, -, rfl⟩ := h2
  obtain ⟨b', off', e, -, hc⟩ := h6 (by omega)
  simp only [Option.some.injEq, Addr.mk.injEq, and_true] at e
  obtain ⟨rfl, rfl⟩ := e
  rw [hc i (by rw [bs_len]; exact hi), bs_get l i hi]
/-- Where the bytes of a slice that holds some lie. -/
theorem Rd8.some {w : World} {a : Option Addr} {n cap : Nat} {l : List Int} (h : Rd8 w (.slice a n cap) l) (hn : 0 < l.length) : ∃ b off, a = Option.some ⟨b, off, none⟩ ∧ b < w.heap.size := by
  obtain ⟨_, a', cap', h2, _, _, _, h6⟩ := h
  simp only [Value.slice.injEq] at h2
  obtain ⟨rfl, -, rfl⟩ := h2
  obtain ⟨b', off', e, hb, -⟩ := h6 hn
  exact ⟨b', off', e, hb⟩
theorem Own8.len {w : World} {B g n cap : Nat} {D : List Int} (h : Own8 w B (.slice (Option.some ⟨g, 0, none⟩) n cap) D) : n = D.length := by
  rcases h.2 with ⟨h1, _⟩ | ⟨g', cap', cur, hv, _⟩
  · simp at h1
  · simp only [Value.slice.injEq] at hv; exact hv.2.1
theorem Own8.frozen {w : World} {B g n cap : Nat} {D : List Int} (h : Own8 w B (.slice (Option.some ⟨g, 0, none⟩) n cap) D) (j : Nat) : w.frozen? ⟨g, j, none⟩ = false := by
  obtain rfl := h.len
  exact World.ownsRow.frozenAt h j
theorem Own8.set {w : World} {B g n cap : Nat} {D : List Int} (h : Own8 w B (.slice (Option.some ⟨g, 0, none⟩) n cap) D) (j : Nat) (y : Int) : Own8 (w.setCell ⟨g, j, none⟩ (.int .u8 y)) B (.slice (Option.some ⟨g, 0, none⟩) n cap) (D.set j y) := by
  obtain rfl := h.len
  have := (World.ownsRow.stored h j (.int .u8 y)).1
  unfold Own8
  rw [List.length_set, ← bs_set]
  exact this
/-- Fresh: in no old block. -/
def Fresh (w : World) (v : Value) : Prop := ∀ y, y < w.heap.size → v.ownBlock ≠ some y
theorem Fresh.nil (w : World) : Fresh w (.slice none 0 0) := fun y hy h => by simp [Value.ownBlock] at h
theorem Fresh.of_own {w w' : World} {e : TypeId} {sz n B : Nat} {v : Value} {cs : List Value} (h : w'.ownsRow B e sz v n cs) (hB : w.heap.size ≤ B) : Fresh w v := fun y hy hv => by
  have := (own_lt h hv).1
  omega
end Go.Proofs.YthjnchjfmbblfaaGreatDoor

/- slices.Clone of bytes. -/
namespace Go.Proofs.YthjnchjfmbblfaaGreatDoor
open Go.RowKit
set_option linter.unusedVariables false

set_option maxHeartbeats 400000 in
theorem clone_any (v : Value) (l : List Int) (hl : l.length ≤ 900000) (w : World) (h : Rd8 w v l) :
    Calls Tryz.prog 47 #[v] w fun x w' => ∃ v', x = .returned v' ∧ Own8 w' w.heap.size v' l ∧ Ext w w' := by
  have q22 : ∀ (w : World) (a : Option Addr) (n c n' c' : Nat), (binOp .eql 36 (.slice a n c) (.slice none n' c')).run Tryz.prog w = .ok (.bool a.isNone) w := fun w a n c n' c' => Lib.run_eql_slice_nil w _ _ a n c n' c' Tryz.underlying36
  obtain ⟨a, cap, rfl, h1, h2, h3⟩ := Rd.shape h
  cases a with
  | none =>
    have hc := h3 rfl
    subst hc
    have hl0 : l.length = 0 := by omega
    rw [hl0]
    have he : Hid (l = []) := List.eq_nil_of_length_eq_zero hl0
    clear hl0 h1 hl h
    go_enter Tryz.func47, Tryz.ntmps47
    go_wp2_with fail
    go_ret
    exact ⟨_, rfl, by rw [he.out]; exact World.ownsRow_nil _ _ _ _, Ext.refl _⟩
  | some ad =>
    obtain ⟨i0, hi, hz0, hz1, hz2⟩ := info_parts u8info
    have hz : World.ownsRow (w.alloc (.cells #[] 5)) w.heap.size 5 1 (.slice (some ⟨w.heap.size, 0, none⟩) 0 0) 0 [] := World.ownsRow_made w #[] 0 (Nat.le_refl _) (Nat.zero_le _) rfl
    have hr := Rd.alloc h (.cells #[] 5)
    have H := hidden h
    clear h
    go_enter Tryz.func47, Tryz.ntmps47
    go_wp2_with (at_builtin; refine wpList_append_own _ rfl _ _ 36 rfl w.heap.size 5 i0 (.int .u8 0) 1 1 Tryz.underlying36 hi hz0 hz1 hz2 rfl (by decide) _ 0 [] rfl hz ad l.length cap (bs l) rfl (by simp [bs]) hr.news (bs_one l) (by unfold maxLen; omega) (by omega) (by simp) ?_; intro v1 w1 hown hgrow hnil)
    go_ret
    refine ⟨v1, rfl, ?_, ?_⟩
    · rw [Nat.zero_add, List.nil_append] at hown
      exact hown
    · exact (((Chg.refl [] w).alloc _).grown hgrow (fun k hk => Or.inr (by injection hk with hk; exact Nat.le_of_eq hk))).ext
end Go.Proofs.YthjnchjfmbblfaaGreatDoor

/- General: a map with strings for keys, anywhere in memory: a new entry, a look-up. -/
namespace Go.Proofs.YthjnchjfmbblfaaGreatDoor
open Go.RowKit Go.MapKept Go.ChangeMaps
set_option linter.unusedVariables false
set_option linter.unusedSimpArgs false

def entsS : Nat → List (ByteArray × Value) → List MapEntry
  | _, [] => []
  | n, p :: r => ⟨.string p.1, p.2, n⟩ :: entsS (n + 1) r
def tblS (l : List (ByteArray × Value)) : Obj := .map (entsS 0 l).toArray l.length
def lookS (k : ByteArray) : List (ByteArray × Value) → Option Value
  | [] => none
  | p :: r => if k = p.1 then some p.2 else lookS k r
theorem entsS_snoc (k : ByteArray) (v : Value) : ∀ (l : List (ByteArray × Value)) (n : Nat), entsS n (l ++ [(k, v)]) = entsS n l ++ [⟨.string k, v, n + l.length⟩]
  | [], n => rfl
  | p :: r, n => by
    show _ :: entsS (n + 1) (r ++ [(k, v)]) = _
    rw [entsS_snoc k v r (n + 1)]
    simp [entsS]
    omega
theorem lookS_snoc (k : ByteArray) (v : Value) (x : ByteArray) : ∀ l : List (ByteArray × Value), lookS x (l ++ [(k, v)]) = match lookS x l with | some u => some u | none => if x = k then some v else none
  | [] => by simp [lookS]
  | p :: r => by
    show (if x = p.1 then some p.2 else lookS x (r ++ [(k, v)])) = _
    rw [lookS_snoc k v x r]
    by_cases h : x = p.1
    · simp [lookS, h]
    · simp [lookS, h]
theorem find_entsS (k : ByteArray) : ∀ (l : List (ByteArray × Value)) (n i : Nat), (lookS k l = none → Instr.findNow .string (.string k) (entsS n l) i = some none) ∧ (∀ v, lookS k l = some v → ∃ j, Instr.findNow .string (.string k) (entsS n l) i = some (some (j, v)))
  | [], n, i => ⟨fun _ => rfl, fun v h => by cases h⟩
  | p :: r, n, i => by
    have ih := find_entsS k r (n + 1) (i + 1)
    by_cases h : k = p.1
    · subst h
      have hbe : (p.1 == p.1) = true := (bytes_beq _ _).2 rfl
      refine ⟨fun e => ?_, fun v e => ⟨i, ?_⟩⟩
      · simp [lookS] at e
      · simp only [lookS, if_true, Option.some.injEq] at e
        subst e
        simp [entsS, Instr.findNow, Instr.sameNow, hbe]
    · have hbe : (k == p.1) = false := by
        rw [Bool.eq_false_iff]
        exact fun e => h ((bytes_beq _ _).1 e)
      refine ⟨fun e => ?_, fun v e => ?_⟩
      · simp only [lookS, h, if_false] at e
        have := ih.1 e
        simp [entsS, Instr.findNow, Instr.sameNow, hbe, this]
      · simp only [lookS, h, if_false] at e
        obtain ⟨j, hj⟩ := ih.2 v e
        exact ⟨j, by simp [entsS, Instr.findNow, Instr.sameNow, hbe, hj]⟩
theorem run_insert_S {P : Program} {w : World} {t kt et : TypeId} (ht : P.underlying t = some (.map kt et)) (hk : P.underlying kt = some .string) {r : Nat} (l : List (ByteArray × Value)) (hb0 : w.heap[r]? = some (tblS l)) (k : ByteArray) (v : Value) (hnew : lookS k l = none) :
    (Instr.mapUpdate t (.map (some r)) (.string k) v).run P w = .ok () (setBlock w r (tblS (l ++ [(k, v)]))) := by
  have hb : w.heap[r]? = some (.map (entsS 0 l).toArray l.length) := hb0
  have hf := (find_entsS k l 0 0).1 hnew
  unfold Instr.mapUpdate
  simp only [Sem.run_bind, run_underlying ht, Result.andThen, Go.MapKept.run_getObj_map hb, run_checkKey hk (show IsKey .string (.string k) from trivial), run_findKey hk (l := (entsS 0 l)) hf]
  rw [run_setObj_map _ hb]
  congr 1
  unfold setBlock
  congr 2
  unfold tblS
  rw [entsS_snoc]
  simp
theorem run_lookS {P : Program} {w : World} {t kt et : TypeId} (ht : P.underlying t = some (.map kt et)) (hk : P.underlying kt = some .string) {r : Nat} (l : List (ByteArray × Value)) (hb : w.heap[r]? = some (tblS l)) (k : ByteArray) (v : Value) (h : lookS k l = some v) :
    (Instr.lookup t (.map (some r)) (.string k) true).run P w = .ok (.tuple #[v, .bool true]) w := by
  have hb' : w.heap[r]? = some (.map (entsS 0 l).toArray l.length) := hb
  obtain ⟨j, hf⟩ := (find_entsS k l 0 0).2 v h
  unfold Instr.lookup
  simp only [Sem.run_bind, run_underlying ht, Result.andThen, Go.MapKept.run_getObj_map hb', run_checkKey hk (show IsKey .string (.string k) from trivial), Sem.run_pure, run_findKey hk (l := (entsS 0 l)) hf]
  rfl
theorem run_lookS_none {P : Program} {w : World} {t kt et : TypeId} (ht : P.underlying t = some (.map kt et)) (hk : P.underlying kt = some .string) {r : Nat} (l : List (ByteArray × Value)) (hb : w.heap[r]? = some (tblS l)) (k : ByteArray) (z : Value) (hz : (zeroValue et).run P w = .ok z w) (h : lookS k l = none) :
    (Instr.lookup t (.map (some r)) (.string k) true).run P w = .ok (.tuple #[z, .bool false]) w := by
  have hb' : w.heap[r]? = some (.map (entsS 0 l).toArray l.length) := hb
  have hf := (find_entsS k l 0 0).1 h
  unfold Instr.lookup
  simp only [Sem.run_bind, run_underlying ht, Result.andThen, Go.MapKept.run_getObj_map hb', run_checkKey hk (show IsKey .string (.string k) from trivial), Sem.run_pure, run_findKey hk (l := (entsS 0 l)) hf, hz]
  rfl
theorem chg_setBlock (w : World) (r : Nat) (o : Obj) : Chg [r] w (setBlock w r o) := ⟨rfl, rfl, rfl, by simp [setBlock], fun k _ hs => by
  simp at hs
  simp [setBlock, Array.getElem?_setIfInBounds, Ne.symm hs]⟩
theorem setBlock_at {w : World} {r : Nat} (h : r < w.heap.size) (o : Obj) : (setBlock w r o).heap[r]? = some o := by simp [setBlock, h]
theorem setBlock_ne {w : World} {r k : Nat} (h : k ≠ r) (o : Obj) : (setBlock w r o).heap[k]? = w.heap[k]? := by simp [setBlock, Array.getElem?_setIfInBounds, Ne.symm h]
/-- A map that the text makes, behind an entry more. -/
theorem setBlock_new (w : World) (o o' : Obj) : setBlock (w.alloc o) w.heap.size o' = w.alloc o' := by
  unfold setBlock
  have e : (w.alloc o).heap = w.heap.push o := rfl
  rw [e]
  have e2 : w.alloc o' = { w.alloc o with heap := w.heap.push o' } := rfl
  rw [e2]
  congr 1
  apply Array.ext'
  simp
end Go.Proofs.YthjnchjfmbblfaaGreatDoor
