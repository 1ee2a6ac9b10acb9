/- What bytes decode to; equal bytes are equal; an operation that is wanted. -/
import Derived.Test.YthjnchjfmbblfaaGreatDoorUzw
namespace Go.Proofs.YthjnchjfmbblfaaGreatDoor
open Go.RowKit
set_option linter.unusedVariables false
set_option linter.unusedSimpArgs false

theorem dec_facts (S : List Int) (hb : Bytes S) : (∃ e, e ≠ 0 ∧ decF S = ⟨e, [], 0, [], []⟩) ∨
    ∃ A L C r, decF S = ⟨0, A, L, C, r⟩ ∧ S = progB A L C ++ r ∧ formE A L C = 0 ∧ OkA A ∧ OkI C := by
  by_cases h : (decG S).e ≠ 0
  · exact Or.inl ⟨_, h, if_pos h⟩
  · have hd : decF S = decG S := if_neg h
    have he : (decG S).e = 0 := by omega
    have hok : OkA (decG S).A ∧ OkI (decG S).C := ⟨arrIt_ok _ (by
        have := numF_sub 8 6 S 0
        exact this.bytes hb) _ _, codIt_ok _ (by
        have h1 := numF_sub 8 6 S 0
        have h2 := arrIt_sub (numF 8 6 S 0).2.1 (numF 8 6 S 0).2.2 (numF 8 6 S 0).1.toNat
        have h3 := numF_sub 9007199254740991 2 (arrIt (numF 8 6 S 0).2.1 (numF 8 6 S 0).2.2 (numF 8 6 S 0).1.toNat).2.1 (arrIt (numF 8 6 S 0).2.1 (numF 8 6 S 0).2.2 (numF 8 6 S 0).1.toNat).2.2
        have h4 := numF_sub 1024 6 (numF 9007199254740991 2 (arrIt (numF 8 6 S 0).2.1 (numF 8 6 S 0).2.2 (numF 8 6 S 0).1.toNat).2.1 (arrIt (numF 8 6 S 0).2.1 (numF 8 6 S 0).2.2 (numF 8 6 S 0).1.toNat).2.2).2.1 (numF 9007199254740991 2 (arrIt (numF 8 6 S 0).2.1 (numF 8 6 S 0).2.2 (numF 8 6 S 0).1.toNat).2.1 (arrIt (numF 8 6 S 0).2.1 (numF 8 6 S 0).2.2 (numF 8 6 S 0).1.toNat).2.2).2.2
        exact (((h1.trans h2).trans h3).trans h4).bytes hb) _ _⟩
    have hs := dec_same S hb
    have hk := dec_back S hb (by rw [hs, hd]; exact he)
    rw [hs, hd] at hk
    rw [hd]
    clear hd hs h
    generalize decG S = d at *
    obtain ⟨e, A, L, C, r⟩ := d
    simp only at he hok hk
    subst he
    exact Or.inr ⟨A, L, C, r, rfl, hk.1, hk.2, hok.1, hok.2⟩

theorem bytes_in {w : World} {a : Option Addr} {n cap : Nat} {S : List Int} (h : Rd8 w (.slice a n cap) S) (hn : S.length = n) : Lib.BytesIn w a n S := fun h0 => by
  obtain ⟨b, off, rfl⟩ := Rd8.base h (by omega)
  exact ⟨b, off, rfl, fun i hi => h.at i (by omega)⟩
theorem bytes_same (v v' : Value) (S : List Int) (w : World) (h : Rd8 w v S) (h' : Rd8 w v' S) :
    Calls Tryz.prog 12 #[v, v'] w fun x w' => x = .returned (.bool true) ∧ w' = w := by
  obtain ⟨a, cap, rfl, -⟩ := Rd.shape h
  obtain ⟨a', cap', rfl, -⟩ := Rd.shape h'
  refine (Tryz.bytes_Equal_all a a' S.length cap S.length cap' S S w rfl rfl (bytes_in h rfl) (bytes_in h' rfl)).mono ?_
  rintro x w' ⟨rfl, rfl⟩
  exact ⟨by rw [beq_self_eq_true], rfl⟩
section
variable {P : Program} {ops : Array Oper} {Q : Exit → Act → World → Prop} {a : Act} {w : World} {rest : List Oper}
theorem wpList_wanted {op : Op} {dst : Option Tmp} {ty : TypeId} {pos : String} {after : Array Edge} {g : Option (Nat × Bool)} (hw : Region.wanted ⟨dst, op, ty, pos, after, g⟩ (yielded ops a.tmps) = true)
    (h : wpList P ops Q (⟨dst, op, ty, pos, after, none⟩ :: rest) a w) : wpList P ops Q (⟨dst, op, ty, pos, after, g⟩ :: rest) a w := by
  unfold wpList at h ⊢
  rw [if_pos hw]
  rw [if_pos (by simp [Region.wanted])] at h
  exact h
end
end Go.Proofs.YthjnchjfmbblfaaGreatDoor
