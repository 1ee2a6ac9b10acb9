/- declarations: the map of the functions that read declarations. -/
import Derived.Test.YthjnchjfmbblfaaGreatDoorUza
namespace Go.Proofs.YthjnchjfmbblfaaGreatDoor
open Go.RowKit Go.ChangeMaps Go.MapKept
set_option linter.unusedVariables false
set_option linter.unusedSimpArgs false
attribute [local go_sem ↓] Go.wp_at_zero Go.wp_at_succ

theorem run_insert_litS {P : Program} {w : World} {t kt et : TypeId} (ht : P.underlying t = some (.map kt et)) (hk : P.underlying kt = some .string) (l : List (ByteArray × Value)) (k : ByteArray) (v : Value) (hnew : lookS k l = none) :
    (Instr.mapUpdate t (.map (some w.heap.size)) (.string k) v).run P (w.alloc (tblS l)) = .ok () (w.alloc (tblS (l ++ [(k, v)]))) := by
  rw [run_insert_S ht hk l (heap_alloc w _).1 k v hnew, setBlock_new]
theorem run_insert_litN {P : Program} {w : World} {t kt et : TypeId} {r : Nat} (hr : w.heap.size = r) (ht : P.underlying t = some (.map kt et)) (hk : P.underlying kt = some .string) (l : List (ByteArray × Value)) (k : ByteArray) (v : Value) (hnew : lookS k l = none) :
    (Instr.mapUpdate t (.map (some r)) (.string k) v).run P (w.alloc (tblS l)) = .ok () (w.alloc (tblS (l ++ [(k, v)]))) := by
  subst hr
  exact run_insert_litS ht hk l k v hnew
def bBytes : ByteArray := ⟨#[98, 121, 116, 101, 115]⟩
def bWords : ByteArray := ⟨#[119, 111, 114, 100, 115]⟩
def bLocal : ByteArray := ⟨#[108, 111, 99, 97, 108]⟩
def bConst : ByteArray := ⟨#[99, 111, 110, 115, 116]⟩
def declT (x r : Nat) : List (ByteArray × Value) := [(⟨#[98, 121, 116, 101, 115]⟩, .func (.func 50) #[] #[.pointer (some ⟨x, 0, none⟩)]), (⟨#[119, 111, 114, 100, 115]⟩, .func (.func 52) #[] #[.pointer (some ⟨x, 0, none⟩)]),
  (⟨#[108, 111, 99, 97, 108]⟩, .func (.func 53) #[.pointer (some ⟨r, 0, none⟩)] #[]), (⟨#[99, 111, 110, 115, 116]⟩, .func (.func 54) #[.pointer (some ⟨r, 0, none⟩)] #[])]
set_option maxRecDepth 100000 in
set_option maxHeartbeats 4000000 in
theorem decl_any (r : Nat) (w : World) :
    Calls Tryz.prog 30 #[.pointer (some ⟨r, 0, none⟩)] w fun e w' => e = .returned (.map (some (w.heap.size + 1))) ∧ (w.alloc (.cells #[.pointer (some ⟨r, 0, none⟩)] 44)).alloc (tblS (declT w.heap.size r)) = w' := by
  have hmm : ∀ t w, (Instr.makeMap t none).run Tryz.prog w = .ok (.map (some w.heap.size)) (w.alloc (tblS [])) := fun _ _ => rfl
  have c0 := (Blk.new w [.pointer (some ⟨r, 0, none⟩)] 44).cell 0 _ rfl
  obtain ⟨W, hW⟩ : ∃ W, w.alloc (.cells #[.pointer (some ⟨r, 0, none⟩)] 44) = W := ⟨_, rfl⟩
  have hWs : W.heap.size = w.heap.size + 1 := by rw [← hW]; simp
  rw [show ([Value.pointer (some ⟨r, 0, none⟩)] : List Value).toArray = #[.pointer (some ⟨r, 0, none⟩)] from rfl, hW] at c0
  rw [hW]
  have key : ∀ (P : Ending → World → Prop) l, P (.returned (.map (some W.heap.size))) (W.alloc (tblS l)) → P (.returned (.map (some (w.heap.size + 1)))) (W.alloc (tblS l)) := fun P l h => by rw [hWs] at h; exact h
  have c1 : ∀ o, (W.alloc o).cell? ⟨w.heap.size, 0, none⟩ = some (.pointer (some ⟨r, 0, none⟩)) := fun o => ((Ext.refl W).alloc o).cell c0
  clear c0
  go_enter Tryz.func30, Tryz.ntmps30
  go_wp2_with fail
  iterate 4 (rw [run_insert_litN hWs Tryz.underlying83 Tryz.underlying9 _ _ _ (by rfl)]; go_wp2_with fail)
  go_ret
  exact ⟨rfl, rfl⟩
theorem decl_look (x r : Nat) (k : List UInt8) : lookS ⟨k.toArray⟩ (declT x r) = (if k = Src.dBytes then some (.func (.func 50) #[] #[.pointer (some ⟨x, 0, none⟩)]) else if k = Src.dWords then some (.func (.func 52) #[] #[.pointer (some ⟨x, 0, none⟩)])
    else if k = Src.dLocal then some (.func (.func 53) #[.pointer (some ⟨r, 0, none⟩)] #[]) else if k = Src.dConst then some (.func (.func 54) #[.pointer (some ⟨r, 0, none⟩)] #[]) else none) := by
  have hk : ∀ l : List UInt8, ((⟨k.toArray⟩ : ByteArray) = ⟨l.toArray⟩ ↔ k = l) := fun l => by
    constructor
    · intro h
      have := congrArg (fun b : ByteArray => b.data.toList) h
      simpa using this
    · rintro rfl; rfl
  unfold declT
  simp only [lookS]
  have e1 := hk Src.dBytes
  have e2 := hk Src.dWords
  have e3 := hk Src.dLocal
  have e4 := hk Src.dConst
  simp only [Src.dBytes, Src.dWords, Src.dLocal, Src.dConst] at e1 e2 e3 e4 ⊢
  simp only [e1, e2, e3, e4]
  repeat' split
  all_goals simp_all
end Go.Proofs.YthjnchjfmbblfaaGreatDoor
