/- The law BitsPrefixes: the plain part and the walk. -/
import Derived.Test.YtjfdmhdmadnkoaaBo
import Derived.Test.YtjfdmhdmadnkoaaBn
namespace Go.Proofs.Ytjfdmhdmadnkoaa
open Go.RowKit
set_option linter.unusedVariables false
attribute [local go_sem ↓] Go.wp_at_zero Go.wp_at_succ

theorem gb_psh0 (X : List Int) (hX : Bits01 X) (i : Nat) : gb (pshs [] 0 X) i = X.getD i 0 := by
  rw [gb_pshs WF.nil hX]
  simp
theorem gam_prefix (n m : Int) (hn0 : 1 ≤ n) (hn1 : n ≤ 2147483647) (hm0 : 1 ≤ m) (hm1 : m ≤ 2147483647) (hle : (gam n).length ≤ (gam m).length)
    (heq : ∀ j, j < (gam n).length → (gam m).getD j 0 = (gam n).getD j 0) : n = m := by
  obtain ⟨a, ha, ha2⟩ := len_ex n hn0 hn1
  obtain ⟨b, hb, hb2⟩ := len_ex m hm0 hm1
  have la := gam_len n a ha
  have lb := gam_len m b hb
  have r1 := rg_reads (gam m) (gam_01 m) (by omega) 0 n hn0 hn1 a ha ha2 (fun j hj => by rw [Nat.zero_add]; exact heq j (by omega)) (by omega)
  have r2 := rg_reads (gam m) (gam_01 m) (by omega) 0 m hm0 hm1 b hb hb2 (fun j hj => by rw [Nat.zero_add]) (by omega)
  rw [r1] at r2
  simp only [Prod.mk.injEq] at r2
  exact r2.2.1
theorem pshs_inj (X Y : List Int) (hX : Bits01 X) (hY : Bits01 Y) (h : pshs [] 0 X = pshs [] 0 Y) (i : Nat) : X.getD i 0 = Y.getD i 0 := by
  rw [← gb_psh0 X hX, ← gb_psh0 Y hY, h]
/-- What Gamma leaves of a small number, from nothing. -/
theorem gamF_nil (n : Int) (h0 : 1 ≤ n) (h1 : n ≤ 2147483647) : gamF [] 0 n = (0, pshs [] 0 (gam n), (gam n).length) := by
  obtain ⟨a, ha, ha2⟩ := len_ex n h0 h1
  unfold gamF
  rw [if_neg (by decide), if_neg (by omega), if_neg (by omega), gam_len n a ha, ha]
  simp
  omega
theorem pre_same (n m : Int) (hn0 : 1 ≤ n) (hn1 : n ≤ 2147483647) (hm0 : 1 ≤ m) (hm1 : m ≤ 2147483647) (k : Nat) (hk : k = min (gam n).length (gam m).length)
    (h : pshs [] 0 (cut (pshs [] 0 (gam n)) 0 k) = pshs [] 0 (cut (pshs [] 0 (gam m)) 0 k)) : n = m := by
  have key : ∀ j, j < k → (gam n).getD j 0 = (gam m).getD j 0 := by
    intro j hj
    have e := pshs_inj _ _ (cut_01 _ 0 k) (cut_01 _ 0 k) h j
    rw [cut_get _ 0 k j hj, cut_get _ 0 k j hj, gb_psh0 _ (gam_01 n), gb_psh0 _ (gam_01 m), Nat.zero_add] at e
    exact e
  rcases Nat.le_total (gam n).length (gam m).length with hl | hl
  · exact gam_prefix n m hn0 hn1 hm0 hm1 hl (fun j hj => (key j (by omega)).symm)
  · exact (gam_prefix m n hm0 hm1 hn0 hn1 hl (fun j hj => key j (by omega))).symm
theorem gam_wf (n : Int) : WF (pshs [] 0 (gam n)) (gam n).length := by
  have := WF.pshs WF.nil (gam_01 n)
  rwa [Nat.zero_add] at this

end Go.Proofs.Ytjfdmhdmadnkoaa
