
import Derived.Test.YtgjjklajipekdaaGreatWh
import Derived.Test.YtgjjklajipekdaaGreatVg
import Derived.Test.YtgjjklajipekdaaGreatR
import Derived.Deep.RegionLaw
import Derived.Test.YtgjjklajipekdaaGreatHu
import Derived.Deep.Cut
import Derived.Deep.CutRange
import Derived.Deep.CutBlock
import Derived.Test.YtgjjklajipekdaaGreatB8c
namespace Go.Proofs.YtgjjklajipekdaaGreat
open Go.RowKit
set_option linter.unusedVariables false
set_option linter.unusedSimpArgs false
attribute [local go_sem ↓] Go.wp_at_zero Go.wp_at_succ
def flF (C : List (Int × Int)) : T → List (Int × Int)
 | .nil => []
 | .cons op f t b o r => (if op = -1 then (C.drop f.toNat).take (t.toNat - f.toNat) else C.getD f.toNat (0, 0) :: (flF C b ++ (if o.len = 0 then [] else (28, 0) :: flF C o) ++ [C.getD (t.toNat - 1) (0, 0)])) ++ flF C r
def okF (C : List (Int × Int)) : Nat → T → Prop
 | _, .nil => True
 | d, .cons op f t b o r => 0 ≤ f ∧ 0 ≤ t ∧ okB C d op f.toNat t.toNat b.len o.len ∧ (op ≠ -1 → okF C (d + 1) b ∧ okF C (d + 1) o) ∧ okF C d r
theorem flF_app (C : List (Int × Int)) (a b : T) : flF C (a.app b) = flF C a ++ flF C b := by
 induction a with
 | nil => rfl
 | cons op f t b o r _ _ ih => simp only [T.app, flF, ih, List.append_assoc]
def OwnC (w : World) (B : Nat) (v : Value) (l : List (Int × Int)) : Prop := w.ownsRow B 63 2 v l.length (l.flatMap icell)
structure SC (W : World) (bw q : Nat) (vc x1 x2 : Value) (pc o0 : Nat) (u0 u1 : Value) : Prop where
 h0 : W.cell? ⟨bw, 0, none⟩ = some vc
 h1 : W.cell? ⟨q, 1, none⟩ = some x1
 h2 : W.cell? ⟨q, 2, none⟩ = some x2
 h3 : W.cell? ⟨pc, o0, none⟩ = some u0
 h4 : W.cell? ⟨pc, o0 + 1, none⟩ = some u1
theorem SC.ext {W W' : World} {bw q : Nat} {vc x1 x2 : Value} {pc o0 : Nat} {u0 u1 : Value} (h : SC W bw q vc x1 x2 pc o0 u0 u1) (X : Ext W W') : SC W' bw q vc x1 x2 pc o0 u0 u1 := ⟨X.cell h.h0, X.cell h.h1, X.cell h.h2, X.cell h.h3, X.cell h.h4⟩
theorem SC.grown {W W' : World} {bw q : Nat} {vc x1 x2 v : Value} {pc o0 : Nat} {u0 u1 : Value} (h : SC W bw q vc x1 x2 pc o0 u0 u1) (g : W.grownBy W' v.ownBlock) (n1 : v.ownBlock ≠ some bw) (n2 : v.ownBlock ≠ some q) (n3 : v.ownBlock ≠ some pc) : SC W' bw q vc x1 x2 pc o0 u0 u1 :=
 ⟨g.cell h.h0 (Ne.symm n1), g.cell h.h1 (Ne.symm n2), g.cell h.h2 (Ne.symm n2), g.cell h.h3 (Ne.symm n3), g.cell h.h4 (Ne.symm n3)⟩
theorem SC.set {W : World} {bw q : Nat} {vc x1 x2 : Value} {pc o0 : Nat} {u0 u1 : Value} (h : SC W bw q vc x1 x2 pc o0 u0 u1) (n1 : bw ≠ q) (n2 : bw ≠ pc) (v : Value) : SC (W.setCell ⟨bw, 1, none⟩ v) bw q vc x1 x2 pc o0 u0 u1 :=
 ⟨(World.cell?_setCell_other _ _ _ _ (by simp)).trans h.h0, (World.cell?_setCell_far _ _ _ _ n1).trans h.h1, (World.cell?_setCell_far _ _ _ _ n1).trans h.h2, (World.cell?_setCell_far _ _ _ _ n2).trans h.h3, (World.cell?_setCell_far _ _ _ _ n2).trans h.h4⟩
theorem SubAt.lt {w : World} {Q : Nat → Prop} {v : Value} {t : T} (h : SubAt w Q v t) : SubAt w (fun k => k < w.heap.size) v t := by
 obtain ⟨cs, h1, h2, h3⟩ := h
 exact ⟨cs, h1, fun k hn e => h1.blk_lt hn e, h3.ext (Ext.refl w) (fun k hk _ => hk)⟩
end Go.Proofs.YtgjjklajipekdaaGreat
