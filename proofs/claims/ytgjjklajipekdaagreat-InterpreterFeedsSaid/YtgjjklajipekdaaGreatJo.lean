
import Derived.Test.YtgjjklajipekdaaGreatYb
import Derived.Test.YtgjjklajipekdaaGreatJl
import Derived.Test.YtgjjklajipekdaaGreatP
import Derived.Test.YtgjjklajipekdaaGreatR
import Derived.Laws.OwnMore
import Derived.Outline
namespace Go.Proofs.YtgjjklajipekdaaGreat
set_option maxHeartbeats 16000000
set_option maxRecDepth 100000
open Go.RowKit
set_option linter.unusedVariables false
def cA (x : Bool × Int) : List Value := [.bool x.1, .int .i64 x.2]
def cI (x : Int × Int) : List Value := [.int .i64 x.1, .int .u32 x.2]
def Arr (w : World) (v : Value) (l : List (Bool × Int)) : Prop := Rd w 2 v l.length (l.flatMap cA)
def Cod (w : World) (v : Value) (l : List (Int × Int)) : Prop := Rd w 2 v l.length (l.flatMap cI)
def OkA (l : List (Bool × Int)) : Prop := ∀ x ∈ l, -9223372036854775808 ≤ x.2 ∧ x.2 ≤ 9223372036854775807
def OkI (l : List (Int × Int)) : Prop := ∀ x ∈ l, (-9223372036854775808 ≤ x.1 ∧ x.1 ≤ 9223372036854775807) ∧ 0 ≤ x.2 ∧ x.2 ≤ 4294967295
theorem rd2_at {α : Type} {E : α → List Value} (hE : ∀ x, (E x).length = 2) {w : World} {b off n cap : Nat} {l : List α} (h : Rd w 2 (.slice (some ⟨b, off, none⟩) n cap) n (l.flatMap E)) (k : Nat) (x : α) (hx : l[k]? = some x) (u0 u1 : Value) (hu : E x = [u0, u1]) :
    w.cell? ⟨b, off + k * 2, none⟩ = some u0 ∧ w.cell? ⟨b, off + k * 2 + 1, none⟩ = some u1 := by
  have hk : k < l.length := (List.getElem?_eq_some_iff.1 hx).1
  have hl := flat_len E 2 hE l
  have hn : l.length = n := by have := h.len; omega
  obtain ⟨b', off', e, -, hc⟩ := h.cells (by omega)
  simp only [Option.some.injEq, Addr.mk.injEq, and_true] at e
  obtain ⟨rfl, rfl⟩ := e
  have g0 := flat_get E 2 hE l k 0 x hx (by decide)
  have g1 := flat_get E 2 hE l k 1 x hx (by decide)
  have c0 := hc (k * 2) (by omega)
  have c1 := hc (k * 2 + 1) (by omega)
  rw [hu] at g0 g1
  rw [Nat.add_zero] at g0
  rw [show (l.flatMap E).getD (k * 2) undef = u0 from getD_val g0] at c0
  rw [show (l.flatMap E).getD (k * 2 + 1) undef = u1 from getD_val g1] at c1
  exact ⟨c0, by rw [← c1, Nat.add_assoc]⟩
theorem cA_len (x : Bool × Int) : (cA x).length = 2 := rfl
theorem cI_len (x : Int × Int) : (cI x).length = 2 := rfl
theorem drop_at {α : Type} {l : List α} {k : Nat} {x : α} (h : l[k]? = some x) : l.drop k = x :: l.drop (k + 1) := by
  obtain ⟨hk, rfl⟩ := List.getElem?_eq_some_iff.1 h
  exact List.drop_eq_getElem_cons hk
theorem at_lt {α : Type} (l : List α) {k : Nat} (h : k < l.length) : ∃ x, l[k]? = some x ∧ x ∈ l := ⟨l[k], List.getElem?_eq_getElem h, List.getElem_mem h⟩
def arrs : Int → List (Bool × Int) → Int
  | _, [] => 0
  | left, a :: r => if a.2 < 1 ∨ left < a.2 then 2 else arrs (left - a.2) r
def arrE (l : List (Bool × Int)) : Int := if 8 < l.length then 6 else arrs 65536 l
def codE : List (Int × Int) → Int
  | [] => 0
  | i :: r => if chkI i.1 i.2 ≠ 0 then chkI i.1 i.2 else codE r
def formE (A : List (Bool × Int)) (L : Int) (C : List (Int × Int)) : Int :=
  if arrE A ≠ 0 then arrE A else if L < 0 ∨ 16 < L then 2 else if 1024 < C.length then 6 else codE C
def arrN (a : Bool × Int) : Int := 2 * a.2 + (if a.1 then 1 else 0)
def encA (l : List (Bool × Int)) : List Int := l.flatMap fun a => wenc (wnum (arrN a))
def encI (i : Int × Int) : List Int := i.1 % 256 :: (if (opAt i.1).2.2.2.2 then wenc i.2 else [])
def encC (l : List (Int × Int)) : List Int := l.flatMap encI
def progB (A : List (Bool × Int)) (L : Int) (C : List (Int × Int)) : List Int := wenc A.length ++ encA A ++ wenc L ++ wenc C.length ++ encC C
theorem encA_snoc (l : List (Bool × Int)) (a : Bool × Int) : encA (l ++ [a]) = encA l ++ wenc (wnum (arrN a)) := by simp [encA]
theorem encC_snoc (l : List (Int × Int)) (i : Int × Int) : encC (l ++ [i]) = encC l ++ encI i := by simp [encC]
set_option linter.unusedVariables false
set_option linter.unusedSimpArgs false
structure Row where
  t : TypeId
  sz : Nat
  v : Value
  n : Nat
  cs : List Value
def Row.own (w : World) (B : Nat) (r : Row) : Prop := w.ownsRow B r.t r.sz r.v r.n r.cs
def blks (L : List Row) : List Nat := L.flatMap fun r => r.v.ownBlock.toList
theorem mem_blks {L : List Row} {x : Nat} : x ∈ blks L ↔ ∃ r ∈ L, r.v.ownBlock = some x := by
  simp [blks, List.mem_flatMap, Option.mem_toList]
structure RowsL (w : World) (B q : Nat) (L : List Row) : Prop where
  own : ∀ r ∈ L, r.own w B
  nodup : (q :: blks L).Nodup
  q0 : B ≤ q
  q1 : q < w.heap.size
theorem RowsL.lt {w : World} {B q : Nat} {L : List Row} (h : RowsL w B q L) {x : Nat} (hx : x ∈ q :: blks L) : B ≤ x ∧ x < w.heap.size := by
  rcases List.mem_cons.1 hx with rfl | hx
  · exact ⟨h.q0, h.q1⟩
  · obtain ⟨r, hr, hv⟩ := mem_blks.1 hx
    exact own_lt (h.own r hr) hv
theorem RowsL.chg {w w' : World} {B q : Nat} {L : List Row} {S : List Nat} (h : RowsL w B q L) (c : Chg S w w') (hS : ∀ x ∈ S, x ∉ blks L) : RowsL w' B q L :=
  ⟨fun r hr => own_chg (h.own r hr) c (fun x hx e => hS x hx (mem_blks.2 ⟨r, hr, e⟩)), h.nodup, h.q0, Nat.lt_of_lt_of_le h.q1 c.size⟩
theorem set_mid {α : Type} {L : List α} {i : Nat} {r : α} (h : L[i]? = some r) : ∃ A C, L = A ++ r :: C ∧ ∀ r', L.set i r' = A ++ r' :: C := by
  obtain ⟨hi, rfl⟩ := List.getElem?_eq_some_iff.1 h
  refine ⟨L.take i, L.drop (i + 1), ?_, fun r' => ?_⟩
  · rw [← List.drop_eq_getElem_cons hi, List.take_append_drop]
  · rw [List.set_eq_take_append_cons_drop, if_pos hi]
theorem RowsL.put {w w1 : World} {B q : Nat} {L : List Row} {S : List Nat} {i : Nat} {r r' : Row} (h : RowsL w B q L) (hi : L[i]? = some r) (c : Chg S w w1) (hS : ∀ x ∈ S, x = q ∨ r.v.ownBlock = some x ∨ w.heap.size ≤ x) (ho : r'.own w1 B)
    (hb : ∀ x, r'.v.ownBlock = some x → r.v.ownBlock = some x ∨ w.heap.size ≤ x) : RowsL w1 B q (L.set i r') ∧ ∀ x ∈ blks (L.set i r'), x ∈ blks L ∨ w.heap.size ≤ x := by
  obtain ⟨A, C, rfl, hset⟩ := set_mid hi
  have hlt : ∀ x ∈ q :: blks (A ++ r :: C), x < w.heap.size := fun x hx => (h.lt hx).2
  have nd := h.nodup
  rw [hset r']
  simp only [blks, List.flatMap_append, List.flatMap_cons, List.nodup_cons, List.mem_append, List.nodup_append, not_or, List.mem_cons] at nd hlt
  obtain ⟨⟨n1, n2, n3⟩, n4, ⟨n5, n6, n7⟩, n8⟩ := nd
  refine ⟨⟨?_, ?_, h.q0, Nat.lt_of_lt_of_le h.q1 c.size⟩, ?_⟩
  · intro u hu
    rcases List.mem_append.1 hu with hu | hu
    · refine own_chg (h.own u (by simp [hu])) c (fun x hx e => ?_)
      have hm : x ∈ A.flatMap fun r => r.v.ownBlock.toList := List.mem_flatMap.2 ⟨u, hu, by simp [e]⟩
      rcases hS x hx with rfl | h1 | h1
      · exact n1 hm
      · exact n8 x hm x (Or.inl (by simp [h1])) rfl
      · have := hlt x (Or.inr (Or.inl hm)); omega
    · rcases List.mem_cons.1 hu with rfl | hu
      · exact ho
      · refine own_chg (h.own u (by simp [hu])) c (fun x hx e => ?_)
        have hm : x ∈ C.flatMap fun r => r.v.ownBlock.toList := List.mem_flatMap.2 ⟨u, hu, by simp [e]⟩
        rcases hS x hx with rfl | h1 | h1
        · exact n3 hm
        · exact n7 x (by simp [h1]) x hm rfl
        · have := hlt x (Or.inr (Or.inr (Or.inr hm))); omega
  · simp only [blks, List.flatMap_append, List.flatMap_cons, List.nodup_cons, List.mem_append, List.nodup_append, not_or]
    have hr' : ∀ x ∈ r'.v.ownBlock.toList, r.v.ownBlock = some x ∨ w.heap.size ≤ x := fun x hx => hb x (by simpa using hx)
    refine ⟨⟨n1, fun hm => ?_, n3⟩, n4, ⟨?_, n6, fun a ha b hb2 e => ?_⟩, fun a ha b hb2 e => ?_⟩
    · rcases hr' q hm with h1 | h1
      · exact n2 (by simp [h1])
      · have := hlt q (Or.inl rfl); omega
    · cases r'.v.ownBlock <;> simp
    · subst e
      rcases hr' a ha with h1 | h1
      · exact n7 a (by simp [h1]) a hb2 rfl
      · have := hlt a (Or.inr (Or.inr (Or.inr hb2))); omega
    · subst e
      rcases hb2 with hb2 | hb2
      · rcases hr' a hb2 with h1 | h1
        · exact n8 a ha a (Or.inl (by simp [h1])) rfl
        · have := hlt a (Or.inr (Or.inl ha)); omega
      · exact n8 a ha a (Or.inr hb2) rfl
  · intro x hx
    simp only [blks, List.flatMap_append, List.flatMap_cons, List.mem_append] at hx ⊢
    rcases hx with hx | hx | hx
    · exact Or.inl (Or.inl hx)
    · rcases hb x (by simpa using hx) with h1 | h1
      · exact Or.inl (Or.inr (Or.inl (by simp [h1])))
      · exact Or.inr h1
    · exact Or.inl (Or.inr (Or.inr hx))
structure Vs where
  arr : Value
  cx : Value
  st : Value
  fr : Value
  lo : Value
  out : Value
  ars : List Value
structure EV where
  a : Value
  c : Value
  p : Value
def RdP (w : World) (v : Value) (l : List Int) : Prop := Rd w 1 v l.length (l.map (Value.int .i64))
def R32 (w : World) (v : Value) (l : List Int) : Prop := Rd w 1 v l.length (l.map (Value.int .u32))
structure EnvM (w : World) (B : Nat) (X : EV) (E : Env) : Prop where
  a : Arr w X.a E.A
  c : Cod w X.c E.C
  p : RdP w X.p E.P
  oa : ∀ k, 0 < E.A.length → X.a.ownBlock = some k → k < B
  oc : ∀ k, 0 < E.C.length → X.c.ownBlock = some k → k < B
  op : ∀ k, 0 < E.P.length → X.p.ownBlock = some k → k < B
theorem EnvM.chg {w w' : World} {B : Nat} {X : EV} {E : Env} {S : List Nat} (h : EnvM w B X E) (c : Chg S w w') (hS : ∀ x ∈ S, B ≤ x) : EnvM w' B X E :=
  ⟨Rd.chg h.a c (fun x hx hn e => by have := h.oa x hn e; have := hS x hx; omega), Rd.chg h.c c (fun x hx hn e => by have := h.oc x hn e; have := hS x hx; omega),
    Rd.chg h.p c (fun x hx hn e => by have := h.op x hn e; have := hS x hx; omega), h.oa, h.oc, h.op⟩
structure Lay where
  tm : TypeId
  tv : TypeId
  tf : TypeId
  fk : Nat
  vc : Vl → List Value
  fc : Frm → List Value
  mc : Vs → EV → Env → MS → List Value
def arow (v : Value) (a : List Int) : Row := ⟨42, 1, v, a.length, a.map (Value.int .u32)⟩
def rowsG (Y : Lay) (V : Vs) (s : MS) : List Row :=
  [⟨27, 1, V.arr, s.ar.length, V.ars⟩, arow V.cx s.cx, ⟨Y.tv, 2, V.st, s.st.length, s.st.flatMap Y.vc⟩, ⟨Y.tf, Y.fk, V.fr, s.fr.length, s.fr.flatMap Y.fc⟩, arow V.lo s.lo, ⟨5, 1, V.out, s.out.length, s.out.map (Value.int .u8)⟩] ++
    List.zipWith arow V.ars s.ar
structure MSt (Y : Lay) (w : World) (B q : Nat) (V : Vs) (X : EV) (E : Env) (s : MS) : Prop where
  blk : Blk w q Y.tm (Y.mc V X E s)
  rows : RowsL w B q (rowsG Y V s)
  env : EnvM w B X E
  al : V.ars.length = s.ar.length
def SV (q : Nat) (V : Vs) : List Nat := q :: (V.arr.ownBlock.toList ++ (V.cx.ownBlock.toList ++ (V.st.ownBlock.toList ++ (V.fr.ownBlock.toList ++ (V.lo.ownBlock.toList ++ (V.out.ownBlock.toList ++ V.ars.flatMap fun v => v.ownBlock.toList))))))
theorem zip_blks : ∀ (l : List Value) (m : List (List Int)), l.length = m.length → blks (List.zipWith arow l m) = l.flatMap fun v => v.ownBlock.toList
  | [], _, _ => by simp [blks]
  | v :: l, a :: m, h => by
    have := zip_blks l m (by simpa using h)
    unfold blks at this ⊢
    simp only [List.zipWith_cons_cons, List.flatMap_cons]
    rw [this]; rfl
theorem blks_rows {Y : Lay} {V : Vs} {s : MS} (h : V.ars.length = s.ar.length) (q : Nat) : q :: blks (rowsG Y V s) = SV q V := by
  have := zip_blks V.ars s.ar h
  unfold rowsG SV
  unfold blks at this ⊢
  rw [List.flatMap_append, this]
  simp [arow]
theorem MSt.lt {Y : Lay} {w : World} {B q : Nat} {V : Vs} {X : EV} {E : Env} {s : MS} (h : MSt Y w B q V X E s) {x : Nat} (hx : x ∈ SV q V) : B ≤ x ∧ x < w.heap.size := h.rows.lt (by rw [blks_rows h.al]; exact hx)
def ToV (n q : Nat) (V V' : Vs) : Prop := ∀ x ∈ SV q V', x ∈ SV q V ∨ n ≤ x
theorem ToV.refl (n q : Nat) (V : Vs) : ToV n q V V := fun x h => Or.inl h
theorem ToV.trans {n m q : Nat} {V V' V'' : Vs} (h : ToV n q V V') (k : ToV m q V' V'') (hn : n ≤ m) : ToV n q V V'' := fun x hx => by
  rcases k x hx with h1 | h1
  · exact h x h1
  · exact Or.inr (Nat.le_trans hn h1)
theorem Chg.next {a b c : World} {q : Nat} {V V' : Vs} (h : Chg (SV q V) a b) (t : ToV a.heap.size q V V') (k : Chg (SV q V') b c) : Chg (SV q V) a c := h.trans k t
theorem MSt.chg {Y : Lay} {w w' : World} {B q : Nat} {V : Vs} {X : EV} {E : Env} {s : MS} {S : List Nat} (h : MSt Y w B q V X E s) (c : Chg S w w') (hS : ∀ x ∈ S, x ∉ SV q V ∧ B ≤ x) : MSt Y w' B q V X E s :=
  ⟨h.blk.chg c (fun hm => (hS q hm).1 (by simp [SV])), h.rows.chg c (fun x hx hm => (hS x hx).1 (by rw [← blks_rows (Y := Y) h.al]; exact List.mem_cons_of_mem _ hm)), h.env.chg c (fun x hx => (hS x hx).2), h.al⟩
theorem MSt.ext {Y : Lay} {w w' : World} {B q : Nat} {V : Vs} {X : EV} {E : Env} {s : MS} (h : MSt Y w B q V X E s) (c : Ext w w') : MSt Y w' B q V X E s := h.chg (Chg.of_ext [] c) (by simp)
theorem MSt.cellq {Y : Lay} {w : World} {B q : Nat} {V : Vs} {X : EV} {E : Env} {s s' : MS} (h : MSt Y w B q V X E s) (j : Nat) (v : Value) (hV : rowsG Y V s' = rowsG Y V s) (hl : s'.ar.length = s.ar.length) (hm : Y.mc V X E s' = (Y.mc V X E s).set j v) :
    MSt Y (w.setCell ⟨q, j, none⟩ v) B q V X E s' ∧ Chg (SV q V) w (w.setCell ⟨q, j, none⟩ v) := by
  have c : Chg [q] w (w.setCell ⟨q, j, none⟩ v) := (Chg.refl _ w).setCell (Or.inl (by simp)) _
  have hq : ∀ x ∈ [q], x = q := fun x hx => by simpa using hx
  have hr : RowsL (w.setCell ⟨q, j, none⟩ v) B q (rowsG Y V s') := by
    rw [hV]
    refine h.rows.chg c (fun x hx hb => ?_)
    rw [hq x hx] at hb
    exact (List.nodup_cons.1 h.rows.nodup).1 hb
  exact ⟨⟨by rw [hm]; exact h.blk.set j v, hr, h.env.chg c (fun x hx => by rw [hq x hx]; exact h.rows.q0), by rw [hl]; exact h.al⟩, c.mono (fun x hx => by rw [hq x hx]; simp [SV])⟩
theorem MSt.setRow {Y : Lay} {w w1 : World} {B q : Nat} {V V' : Vs} {X : EV} {E : Env} {s s' : MS} {S : List Nat} {i j : Nat} {r r' : Row} (h : MSt Y w B q V X E s) (hi : (rowsG Y V s)[i]? = some r) (c : Chg S w w1)
    (hS : ∀ x ∈ S, r.v.ownBlock = some x ∨ w.heap.size ≤ x) (ho : r'.own w1 B) (hb : ∀ x, r'.v.ownBlock = some x → r.v.ownBlock = some x ∨ w.heap.size ≤ x)
    (hV : rowsG Y V' s' = (rowsG Y V s).set i r') (hl : V'.ars.length = s'.ar.length) (hm : Y.mc V' X E s' = (Y.mc V X E s).set j r'.v) :
    MSt Y (w1.setCell ⟨q, j, none⟩ r'.v) B q V' X E s' ∧ Chg (SV q V) w (w1.setCell ⟨q, j, none⟩ r'.v) ∧ ToV w.heap.size q V V' := by
  have hmem : r ∈ rowsG Y V s := List.mem_of_getElem? hi
  have hnd := List.nodup_cons.1 h.rows.nodup
  have hqS : q ∉ S := fun hm => by
    rcases hS q hm with h1 | h1
    · exact hnd.1 (mem_blks.2 ⟨r, hmem, h1⟩)
    · have := h.rows.q1; omega
  obtain ⟨p1, p2⟩ := h.rows.put hi c (fun x hx => Or.inr (hS x hx)) ho hb
  have c2 : Chg [q] w1 (w1.setCell ⟨q, j, none⟩ r'.v) := (Chg.refl _ w1).setCell (Or.inl (by simp)) _
  have hSV : ∀ x ∈ S, x ∈ SV q V ∨ w.heap.size ≤ x := fun x hx => by
    rcases hS x hx with h1 | h1
    · left; rw [← blks_rows (Y := Y) h.al]; exact List.mem_cons_of_mem _ (mem_blks.2 ⟨r, hmem, h1⟩)
    · exact Or.inr h1
  have c3 : Chg (SV q V) w w1 := (Chg.refl _ w).trans c hSV
  have hq : ∀ x ∈ [q], x = q := fun x hx => by simpa using hx
  have hr : RowsL (w1.setCell ⟨q, j, none⟩ r'.v) B q (rowsG Y V' s') := by
    rw [hV]
    refine p1.chg c2 (fun x hx hb => ?_)
    rw [hq x hx] at hb
    exact (List.nodup_cons.1 p1.nodup).1 hb
  have he : EnvM (w1.setCell ⟨q, j, none⟩ r'.v) B X E := (h.env.chg c3 (fun x hx => (h.lt hx).1)).chg c2 (fun x hx => by rw [hq x hx]; exact h.rows.q0)
  · refine ⟨⟨by rw [hm]; exact (h.blk.chg c hqS).set j _, hr, he, hl⟩, c3.setCell (Or.inl (by simp [SV])) _, fun x hx => ?_⟩
    rw [← blks_rows (Y := Y) hl, hV] at hx
    rcases List.mem_cons.1 hx with rfl | hx
    · exact Or.inl (by simp [SV])
    · rcases p2 x hx with h1 | h1
      · left; rw [← blks_rows (Y := Y) h.al]; exact List.mem_cons_of_mem _ h1
      · exact Or.inr h1
theorem MSt.cellr {Y : Lay} {w : World} {B q : Nat} {V : Vs} {X : EV} {E : Env} {s s' : MS} {i g n cap sz : Nat} {t : TypeId} {cs : List Value} (h : MSt Y w B q V X E s) (hi : (rowsG Y V s)[i]? = some ⟨t, sz, .slice (some ⟨g, 0, none⟩) n cap, n, cs⟩) (o : Nat) (v : Value)
    (hV : rowsG Y V s' = (rowsG Y V s).set i ⟨t, sz, .slice (some ⟨g, 0, none⟩) n cap, n, cs.set o v⟩) (hl : s'.ar.length = s.ar.length) (hm : Y.mc V X E s' = Y.mc V X E s) :
    MSt Y (w.setCell ⟨g, o, none⟩ v) B q V X E s' ∧ Chg (SV q V) w (w.setCell ⟨g, o, none⟩ v) := by
  have hmem := List.mem_of_getElem? hi
  have hg : g ∈ SV q V := by rw [← blks_rows (Y := Y) h.al]; exact List.mem_cons_of_mem _ (mem_blks.2 ⟨_, hmem, rfl⟩)
  have hnd := List.nodup_cons.1 h.rows.nodup
  have hgq : g ≠ q := fun e => hnd.1 (mem_blks.2 ⟨_, hmem, by rw [e]; rfl⟩)
  have c : Chg [g] w (w.setCell ⟨g, o, none⟩ v) := (Chg.refl _ w).setCell (Or.inl (by simp)) _
  have ho := World.ownsRow.stored (h.rows.own _ hmem) o v
  obtain ⟨p1, -⟩ := h.rows.put (r' := ⟨t, sz, .slice (some ⟨g, 0, none⟩) n cap, n, cs.set o v⟩) hi c (fun x hx => Or.inr (Or.inl (by simp only [List.mem_singleton] at hx; rw [hx]; rfl))) ho.1 (fun x hx => Or.inl hx)
  have hq : ∀ x ∈ [g], x = g := fun x hx => by simpa using hx
  exact ⟨⟨by rw [hm]; exact h.blk.set_other (fun e => hgq e.symm) _, by rw [hV]; exact p1, h.env.chg c (fun x hx => by rw [hq x hx]; exact (h.lt hg).1), by rw [hl]; exact h.al⟩, c.mono (fun x hx => by rw [hq x hx]; exact hg)⟩
theorem zip_at : ∀ (l : List Value) (m : List (List Int)) (k : Nat) (v : Value) (a : List Int), l[k]? = some v → m[k]? = some a → (List.zipWith arow l m)[k]? = some (arow v a)
  | [], _, _, _, _, h, _ => by simp at h
  | v :: l, [], _, _, _, _, h => by simp at h
  | v :: l, a :: m, 0, _, _, h, h' => by simp at h h'; simp [h, h']
  | v :: l, a :: m, k + 1, _, _, h, h' => by simp only [List.getElem?_cons_succ, List.zipWith_cons_cons] at h h' ⊢; exact zip_at l m k _ _ h h'
theorem zip_set : ∀ (l : List Value) (m : List (List Int)) (k : Nat) (v : Value) (a : List Int), l[k]? = some v → List.zipWith arow l (m.set k a) = (List.zipWith arow l m).set k (arow v a)
  | [], _, _, _, _, h => by simp at h
  | v :: l, [], _, _, _, _ => by simp
  | v :: l, a :: m, 0, _, _, h => by simp at h; simp [h]
  | v :: l, a :: m, k + 1, u, b, h => by
    simp only [List.set_cons_succ, List.zipWith_cons_cons]
    rw [zip_set l m k u b (by simpa using h)]
theorem rows_ar {Y : Lay} {V : Vs} {s : MS} {k : Nat} {v : Value} {a : List Int} (h1 : V.ars[k]? = some v) (h2 : s.ar[k]? = some a) : (rowsG Y V s)[6 + k]? = some (arow v a) := by
  unfold rowsG
  rw [List.getElem?_append_right (by simp)]
  simp only [List.length_cons, List.length_nil, Nat.zero_add, Nat.reduceAdd, Nat.add_sub_cancel_left]
  exact zip_at V.ars s.ar k v a h1 h2
theorem rows_ar_set {Y : Lay} {V : Vs} {s : MS} {k : Nat} {v : Value} {a : List Int} (h1 : V.ars[k]? = some v) : rowsG Y V { s with ar := s.ar.set k a } = (rowsG Y V s).set (6 + k) (arow v a) := by
  unfold rowsG
  rw [show 6 + k = k + 1 + 1 + 1 + 1 + 1 + 1 by omega]
  simp only [List.cons_append, List.nil_append, List.set_cons_succ, List.length_set]
  rw [zip_set V.ars s.ar k v a h1]
set_option linter.unusedVariables false
attribute [local go_sem ↓] Go.wp_at_zero Go.wp_at_succ
theorem iarrays_any (v : Value) (A : List (Bool × Int)) (hA : OkA A) (w : World) (h : Arr w v A) :
    Calls Tryz.prog 84 #[v] w fun x w' => x = .returned (.int .i64 (arrE A)) ∧ Ext w w' := by
  obtain ⟨a, cap, rfl, h1, h2, h3⟩ := Rd.shape h
  obtain ⟨n, hn⟩ := ex A.length
  have h : Rd w 2 (.slice a A.length cap) A.length (A.flatMap cA) := h
  rw [hn] at h h1 ⊢
  replace hn := hidden hn
  replace h := hidden h
  replace hA := hidden hA
  by_cases hb : 8 < n
  · have hE : Hid (arrE A = 6) := by show arrE A = 6; unfold arrE; rw [hn.out]; exact if_pos hb
    go_enter Tryz.func84, Tryz.ntmps84
    go_wp2_with fail
    go_ret
    exact ⟨ret_int hE.out.symm, Ext.refl _⟩
  · have hE : Hid (arrE A = arrs 65536 A) := by show arrE A = _; unfold arrE; rw [hn.out]; exact if_neg hb
    go_enter Tryz.func84, Tryz.ntmps84
    go_wp2_with fail
    go_loopw [3, 11] (fun l i wr => ∃ (k : Nat) (left : Int), k ≤ n ∧ i = .int .i64 (k : Int) ∧ l = .int .i64 left ∧ 0 ≤ left ∧ left ≤ 65536 ∧ Hid (arrs 65536 A = arrs left (A.drop k)) ∧ Ext w wr) (fun _ i _ => n - (intOf i).toNat)
    case atStart => exact ⟨0, 65536, by omega, rfl, rfl, by omega, by omega, rfl, Ext.refl _⟩
    case round =>
      obtain ⟨k, left, hk, rfl, rfl, l0, l1, hl, hX⟩ := hrel
      by_cases hlt : k < n
      · obtain ⟨b, off, rfl, -, -⟩ := h.out.cells (by omega)
        obtain ⟨x, hx, hxm⟩ := at_lt A (k := k) (by rw [hn.out]; exact hlt)
        obtain ⟨x0, x1⟩ := hA.out x hxm
        obtain ⟨c0, c1⟩ := rd2_at cA_len h.out k x hx _ _ rfl
        have hdr := drop_at hx
        obtain ⟨wd, sz⟩ := x
        simp only at x0 x1 c0 c1
        have d0 := hX.cell c0
        have d1 := hX.cell c1
        clear c0 c1
        replace hdr := hidden hdr
        replace hx := hidden hx
        replace hxm := hidden hxm
        go_wp2_with fail
        all_goals first
          | (go_round
             case rel => exact ⟨k + 1, left - sz, by omega, by go_num, rfl, by omega, by omega, by show _ = _; rw [hl.out, hdr.out]; exact if_neg (by simp; omega), hX.alloc _⟩
             case measure => simp [intOf]; omega)
          | (go_ret
             exact ⟨ret_int (by rw [hE.out, hl.out, hdr.out]; exact (if_pos (by simp; omega)).symm), hX.alloc _⟩)
      · obtain rfl : k = n := by omega
        have hE2 : Hid (arrs 65536 A = 0) := by show _ = _; rw [hl.out, List.drop_of_length_le (by rw [hn.out]; exact Nat.le_refl _)]; rfl
        go_wp2_with fail
        go_ret
        exact ⟨ret_int (hE.out.trans hE2.out).symm, hX⟩
theorem iform_any (va vc : Value) (A : List (Bool × Int)) (L : Int) (C : List (Int × Int)) (hA : OkA A) (hC : OkI C) (hL0 : -9223372036854775808 ≤ L) (hL1 : L ≤ 9223372036854775807) (w : World) (ra : Arr w va A) (rc : Cod w vc C) :
    Calls Tryz.prog 60 #[.agg #[va, .int .i64 L, vc]] w fun x w' => x = .returned (.int .i64 (formE A L C)) ∧ Ext w w' := by
  have hwf : True := trivial
  obtain ⟨aa, ca, rfl, a1, a2, a3⟩ := Rd.shape ra
  obtain ⟨ac, cc, rfl, c1, c2, c3⟩ := Rd.shape rc
  obtain ⟨m, hm⟩ := ex A.length
  obtain ⟨n, hn⟩ := ex C.length
  have h : Rd w 2 (.slice ac C.length cc) C.length (C.flatMap cI) := rc
  have hfa := fun W (g : Ext w W) => iarrays_any (.slice aa A.length ca) A hA W (Rd.ext ra g)
  obtain ⟨e0, he0⟩ := ex (arrE A)
  rw [he0] at hfa
  rw [hn] at h c1 ⊢
  rw [hm] at hfa a1 ⊢
  replace hn := hidden hn
  replace h := hidden h
  replace hfa := hidden hfa
  replace hC := hidden hC
  clear ra rc hA hm
  by_cases hz : e0 = 0
  · subst hz
    have hE : Hid (formE A L C = if L < 0 ∨ 16 < L then 2 else if 1024 < n then 6 else codE C) := by show _ = _; unfold formE; rw [he0, if_neg (by simp), hn.out]
    clear he0
    go_enter Tryz.func60, Tryz.ntmps60
    go_wp2_with fail
    refine (hfa.out _ ((Ext.refl w).alloc _)).mono ?_
    rintro e w1 ⟨rfl, g1⟩
    obtain ⟨p0, -, pz⟩ := g1.box 0 _ rfl
    have p1 := (g1.box 1 _ rfl).1
    have p2 := (g1.box 2 _ rfl).1
    have hX := g1.past
    by_cases hL : L < 0 ∨ 16 < L
    · have hE2 : Hid (formE A L C = 2) := by show _ = _; rw [hE.out, if_pos hL]
      rcases hL with hL | hL
      · go_wp2_with fail
        go_ret
        exact ⟨ret_int hE2.out.symm, hX⟩
      · have hL' : ¬ L < 0 := by omega
        go_wp2_with fail
        go_ret
        exact ⟨ret_int hE2.out.symm, hX⟩
    · have hL' : 0 ≤ L := by omega
      have hL2 : L ≤ 16 := by omega
      by_cases hb : 1024 < n
      · have hE2 : Hid (formE A L C = 6) := by show _ = _; rw [hE.out, if_neg hL, if_pos hb]
        clear hL
        go_wp2_with fail
        go_ret
        exact ⟨ret_int hE2.out.symm, hX⟩
      · have hE2 : Hid (formE A L C = codE C) := by show _ = _; rw [hE.out, if_neg hL, if_neg hb]
        clear hL
        go_wp2_with fail
        go_loopw [30] (fun i wr => ∃ (k : Nat), k ≤ n ∧ i = .int .i64 (k : Int) ∧ Hid (codE C = codE (C.drop k)) ∧ Ext w wr) (fun i _ => n - (intOf i).toNat)
        case atStart => exact ⟨0, by omega, rfl, rfl, hX⟩
        case round =>
          obtain ⟨k, hk, rfl, hl, hX⟩ := hrel
          clear p0 p1 p2
          by_cases hlt : k < n
          · obtain ⟨b, off, rfl, -, -⟩ := h.out.cells (by omega)
            obtain ⟨x, hx, hxm⟩ := at_lt C (k := k) (by rw [hn.out]; exact hlt)
            obtain ⟨⟨x0, x1⟩, x2, x3⟩ := hC.out x hxm
            obtain ⟨c0, c1⟩ := rd2_at cI_len h.out k x hx _ _ rfl
            have hdr := drop_at hx
            obtain ⟨op, arg⟩ := x
            simp only at x0 x1 x2 x3 c0 c1
            have d0 := hX.cell c0
            have d1 := hX.cell c1
            clear c0 c1
            have hck := icheck_any op arg x2 x3
            obtain ⟨q, hq⟩ := ex (chkI op arg)
            rw [hq] at hck
            replace hdr := hidden hdr
            replace hx := hidden hx
            replace hxm := hidden hxm
            replace hck := hidden hck
            replace hq := hidden hq
            go_wp2_with fail
            refine (hck.out _).mono ?_
            rintro e w2 ⟨rfl, g2⟩
            have hX2 := hX.trans g2.past
            by_cases hq0 : q = 0
            · subst hq0
              go_wp2_with fail
              go_round
              case rel => exact ⟨k + 1, by omega, by go_num, by show _ = _; rw [hl.out, hdr.out]; exact if_neg (by simp [hq.out]), hX2⟩
              case measure => simp [intOf]; omega
            · have hq1 : (q != 0) = true := by simp [hq0]
              go_wp2_with fail
              go_ret
              exact ⟨ret_int (by rw [hE2.out, hl.out, hdr.out]; exact ((if_pos (by rw [hq.out]; exact hq0)).trans hq.out).symm), hX2⟩
          · obtain rfl : k = n := by omega
            have hE3 : Hid (codE C = 0) := by show _ = _; rw [hl.out, List.drop_of_length_le (by rw [hn.out]; exact Nat.le_refl _)]; rfl
            go_wp2_with fail
            go_ret
            exact ⟨ret_int (hE2.out.trans hE3.out).symm, hX⟩
  · have hE : Hid (formE A L C = e0) := by show _ = _; unfold formE; rw [he0]; exact if_pos hz
    have hz' : (e0 != 0) = true := by simp [hz]
    clear he0
    go_enter Tryz.func60, Tryz.ntmps60
    go_wp2_with fail
    refine (hfa.out _ ((Ext.refl w).alloc _)).mono ?_
    rintro e w1 ⟨rfl, g1⟩
    go_wp2_with fail
    go_ret
    exact ⟨ret_int hE.out.symm, g1.past⟩
end Go.Proofs.YtgjjklajipekdaaGreat
