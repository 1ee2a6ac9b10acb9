/- The law CoderOrders: the walk. -/
import Derived.Test.YtnodnfmgklkjeaaDc
import Derived.Test.YtnodnfmgklkjeaaP
namespace Go.Proofs.Ytnodnfmgklkjeaa
open Go.RowKit
set_option linter.unusedVariables false
attribute [local go_sem ↓] Go.wp_at_zero Go.wp_at_succ

theorem stinfo : (Try.prog.info? 60).map (fun i => (i.zero, i.size, i.bytes)) = some (some (.agg #[.bool false, .int .u16 0]), 2, 4) := by kernel_rfl
def bls (l : List Bool) : List Value := l.flatMap fun x => [.bool x]
def RdB (w : World) (v : Value) (l : List Bool) : Prop := Rd w 1 v l.length (bls l)
theorem RdB.at {w : World} {b off n cap : Nat} {l : List Bool} (h : RdB w (.slice (some ⟨b, off, none⟩) n cap) l) (i : Nat) (hi : i < l.length) :
    w.cell? ⟨b, off + i, none⟩ = some (.bool (l.getD i false)) := by
  have hn : 0 < l.length := by omega
  obtain ⟨_, a', cap', h2, _, _, _, h6⟩ := h
  simp only [Value.slice.injEq] at h2
  obtain ⟨rfl, -, -⟩ := h2
  obtain ⟨b', off', e, -, hc⟩ := h6 hn
  simp only [Option.some.injEq, Addr.mk.injEq, and_true] at e
  obtain ⟨rfl, rfl⟩ := e
  have g := flat_get (fun x : Bool => ([.bool x] : List Value)) 1 (fun _ => rfl) l i 0 l[i] (List.getElem?_eq_getElem hi) (by decide)
  have hl := flat_len (fun x : Bool => ([.bool x] : List Value)) 1 (fun _ => rfl) l
  rw [hc i (by unfold bls; omega)]
  rw [Nat.mul_one, Nat.add_zero] at g
  unfold bls
  rw [getD_val g]
  simp [List.getD, hi]
theorem sts_one (l : List (Bool × Int)) : ∀ u ∈ sts l, u.oneCell' = true := by
  intro u hu
  obtain ⟨x, _, hx⟩ := List.mem_flatMap.1 hu
  simp [stp] at hx
  rcases hx with rfl | rfl <;> rfl

set_option maxHeartbeats 2000000 in
theorem CoderOrders_law (v : Value) (l : List (Bool × Int)) (vf : Value) (fl : List Bool) (hu : U16 l) (w : World) (h : RdS w v l) (hf : RdB w vf fl) :
    Calls Try.prog 9 #[v, vf] w fun x w' => x = .returned (.bool true) ∧ Ext w w' := by
  obtain ⟨a, cap, rfl, h1, h2, h3⟩ := Rd.shape h
  obtain ⟨af, capf, rfl, f1, f2, f3⟩ := Rd.shape hf
  by_cases hlen : 300 < l.length
  · have hlt : (300 : Int) < (l.length : Int) := by omega
    go_enter Try.func9, Try.ntmps9
    go_wp2_with fail
    refine (awake_any _).mono ?_
    rintro e w1 ⟨rfl, g1⟩
    go_wp2_with fail
    go_ret
    exact ⟨rfl, g1⟩
  · have hlt : ¬ (300 : Int) < (l.length : Int) := by omega
    obtain ⟨i0, hi, hz0, hz1, hz2⟩ := info_parts stinfo
    have hr := Rd.alloc h (.cells #[] 60)
    have H := hidden h
    have HF := hidden hf
    clear h hf
    go_enter Try.func9, Try.ntmps9
    go_wp2_with (at_builtin; refine wpList_append_rd (by rfl) _ _ 55 (by rfl) w.heap.size 60 i0 (.agg #[.bool false, .int .u16 0]) 2 4 Try.underlying55 hi hz0 hz1 hz2 rfl (by decide) _ 0 [] (by rfl) (own_zero w _ 2) a l.length cap (sts l) (by rfl) hr (sts_one l) (by unfold maxLen; omega) (by omega) (by simp) ?_; intro v1 w1 hown hgrow hat)
    have hE1 : Ext w w1 := by
      have g0 := ((Chg.refl [] w).alloc (.cells #[] 60)).grown hgrow (fun k hk => by simp [Value.ownBlock] at hk; subst hk; exact Or.inr (Nat.le_refl _))
      exact g0.ext
    rw [Nat.zero_add, List.nil_append] at hown
    clear hgrow hat hr
    obtain ⟨a5, c5, rfl, c51, c52, hg⟩ := own_shape hown
    have hown := hidden hown
    have hE1 := hidden hE1
    have hg := hidden hg
    go_wp2_with fail
    go_loopw [6, 7] (fun s6 i wr => ∃ (k : Nat), k ≤ l.length ∧ k ≤ fl.length ∧ i = .int .i64 k ∧ s6 = .int .i64 (fstT fl k) ∧ wr.ownsRow w.heap.size 60 2 (.slice a5 l.length c5) l.length (sts (flipL l (fl.take k))) ∧ Ext w wr) (fun _ i _ => (l.length - intOf i).toNat)
    case atStart => exact ⟨0, by omega, by omega, rfl, rfl, by rw [List.take_zero, flipL_nil]; exact hown.out, hE1.out⟩
    case round =>
      obtain ⟨k, hk, hkf, rfl, rfl, hO, hE⟩ := hrel
      clear hown hE1
      have hlen5 := flipL_len l (fl.take k)
      by_cases hlt : k < l.length ∧ k < fl.length
      · obtain ⟨hkl, hkf'⟩ := hlt
        obtain ⟨g, rfl, hgB, -⟩ := hg.out (by omega)
        have hgl := (own_lt hO rfl).2
        obtain ⟨pb, po, rfl⟩ : ∃ b off, a = some ⟨b, off, none⟩ := by
          obtain ⟨_, a', cap', h2, _, _, _, h6⟩ := H.out
          simp only [Value.slice.injEq] at h2
          obtain ⟨rfl, -, -⟩ := h2
          obtain ⟨b', off', e, -, -⟩ := h6 (by omega)
          exact ⟨b', off', e⟩
        obtain ⟨qb, qo, rfl⟩ : ∃ b off, af = some ⟨b, off, none⟩ := by
          obtain ⟨_, a', cap', h2, _, _, _, h6⟩ := HF.out
          simp only [Value.slice.injEq] at h2
          obtain ⟨rfl, -, -⟩ := h2
          obtain ⟨b', off', e, -, -⟩ := h6 (by omega)
          exact ⟨b', off', e⟩
        have y1 := hE.cell (RdS.at H.out k hkl).1
        have y2 := hE.cell (RdB.at HF.out k hkf')
        have hkl' : (k : Int) < (l.length : Int) := by omega
        have hkf2 : (k : Int) < (fl.length : Int) := by omega
        have hfs := fstT_bd fl k
        have hfl := flipL_succ l fl k hkl hkf'
        have hgt := flipL_get l fl k k (Nat.le_refl _)
        obtain ⟨x, hx⟩ : ∃ x, l.getD k (false, 0) = x := ⟨_, rfl⟩
        rw [hx] at y1 hfl hgt
        obtain ⟨fb, hfb⟩ : ∃ x, fl.getD k false = x := ⟨_, rfl⟩
        rw [hfb] at y2 hfl
        obtain ⟨fs, hfs'⟩ : ∃ x, fstT fl k = x := ⟨_, rfl⟩
        have hnext : fstT fl (k + 1) = if fb = true ∧ fs < 0 then (k : Int) else fs := by rw [← hfs', ← hfb]; rfl
        rw [hfs'] at hfs ⊢
        obtain ⟨hfs1, hfs2⟩ := hfs
        have hset := sts_set (flipL l (fl.take k)) k (!x.1) (by omega)
        rw [hgt] at hset
        obtain ⟨c1, c2⟩ := sts_get (flipL l (fl.take k)) k (by omega)
        have z1 := (hO.cellAt (k * 2) (by omega)).trans c1
        have z2 := hO.frozenAt (k * 2)
        have hst := hO.stored (k * 2) (.bool (!x.1))
        have HH := hidden (And.intro hfl (And.intro hset (And.intro hst (And.intro hnext (And.intro hO (And.intro hx (And.intro hfb hfs')))))))
        clear hfl hset hst hnext hO c1 c2 hx hfb hfs' hgt hlen5
        cases fb with
        | false =>
          go_wp2_with fail
          go_roundw
          case rel =>
            obtain ⟨q1, q2, q3, q4, q5, q6, q7, q8⟩ := HH.out
            refine ⟨k + 1, by omega, by omega, by go_num, ?_, ?_, hE⟩
            · rw [q4, if_neg (fun e => by cases e.1)]
            · rw [q1, if_neg (by decide)]; exact q5
          case measure => simp [intOf]; omega
        | true =>
          by_cases hneg : fs < 0
          · go_wp2_with fail
            go_roundw
            case rel =>
              obtain ⟨q1, q2, q3, q4, q5, q6, q7, q8⟩ := HH.out
              refine ⟨k + 1, by omega, by omega, by go_num, ?_, ?_, hE.setCell (p := ⟨g, k * 2, none⟩) hgB _⟩
              · rw [q4, if_pos ⟨rfl, hneg⟩]
              · rw [q1, if_pos rfl, q2]; exact q3.1
            case measure => simp [intOf]; omega
          · go_wp2_with fail
            go_roundw
            case rel =>
              obtain ⟨q1, q2, q3, q4, q5, q6, q7, q8⟩ := HH.out
              refine ⟨k + 1, by omega, by omega, by go_num, ?_, ?_, hE.setCell (p := ⟨g, k * 2, none⟩) hgB _⟩
              · rw [q4, if_neg (fun e => hneg e.2)]
              · rw [q1, if_pos rfl, q2]; exact q3.1
            case measure => simp [intOf]; omega
      · have hU := flip_u16 hu (fl.take k)
        have hsay := order_says l fl k hk hkf
        have hnone := flip_none l fl k hk hkf
        obtain ⟨r, hr⟩ : ∃ r, flipL l (fl.take k) = r := ⟨_, rfl⟩
        rw [hr] at hU hsay hnone hlen5 hO
        have hfb := fstT_bd fl k
        obtain ⟨fs, hfs⟩ : ∃ x, fstT fl k = x := ⟨_, rfl⟩
        rw [hfs] at hfb hnone ⊢
        rw [hfs] at hsay
        obtain ⟨hfs1, hfs2⟩ := hfb
        clear hfs
        have hRr : RdS wr (.slice a5 l.length c5) r := by
          have := Rd.of_own hO
          unfold RdS
          rw [hlen5]
          exact this
        have HS := hidden hsay
        have HN := hidden hnone
        have HRr := hidden hRr
        have HO := hidden hO
        have hlen5 := hidden hlen5
        clear hsay hnone hRr hO hr
        have key : ∀ (P : Prop), ((k : Int) < (l.length : Int) → ¬ (k : Int) < (fl.length : Int)) → P → P := fun P _ h => h
        have hnot : (k : Int) < (l.length : Int) → ¬ (k : Int) < (fl.length : Int) := by omega
        have hfin : ∀ (w0 : World), Ext w w0 → Calls Try.prog 29 #[.slice a l.length cap] w0 fun x w' => ∃ a k, x = .returned (.tuple #[.slice a (codeOf l).length k, .bool true]) ∧ Rd8 w' (.slice a (codeOf l).length k) (codeOf l) ∧ Ext w0 w' := fun w0 h0 => code_any _ l hu (by omega) w0 (Rd.ext H.out h0)
        have hfin2 : ∀ (w0 : World), Ext wr w0 → Calls Try.prog 29 #[.slice a5 l.length c5] w0 fun x w' => ∃ a k, x = .returned (.tuple #[.slice a (codeOf r).length k, .bool true]) ∧ Rd8 w' (.slice a (codeOf r).length k) (codeOf r) ∧ Ext w0 w' := fun w0 h0 => code_any _ r hU (by rw [hlen5.out]; omega) w0 (Rd.ext HRr.out h0)
        have HF1 := hidden hfin
        have HF2 := hidden hfin2
        clear hfin hfin2 key
        by_cases hkl : (k : Int) < (l.length : Int)
        all_goals
          first | have hkf2 := hnot hkl | skip
          clear hnot
          go_wp2_with fail
          refine (HF1.out _ hE).mono ?_
          rintro e w2 ⟨ca, ck, rfl, hRa, g2⟩
          go_wp2_with fail
          refine (HF2.out _ g2).mono ?_
          rintro e w3 ⟨da, dk, rfl, hRb, g3⟩
          have hRa3 := Rd.ext hRa g3
          have E3 := (hE.trans g2).trans g3
          by_cases hneg : fs < 0
          · have he := HN.out hneg
            subst he
            go_wp2_with fail
            refine (awake_any _).mono ?_
            rintro e w4 ⟨rfl, g4⟩
            go_wp2_with fail
            refine (bequal_any _ _ _ _ (codeOf_bytes _) (codeOf_bytes _) _ (Rd.ext hRa3 g4) (Rd.ext hRb g4)).mono ?_
            rintro e w5 ⟨rfl, g5⟩
            go_wp2_with fail
            go_ret
            exact ⟨ret_bool (by simp), (E3.trans g4).trans g5⟩
          · obtain ⟨f, rfl⟩ : ∃ f : Nat, fs = f := ⟨fs.toNat, by omega⟩
            obtain ⟨t1, t2⟩ := HS.out f rfl
            obtain ⟨pb, po, rfl⟩ : ∃ b off, a = some ⟨b, off, none⟩ := by
              obtain ⟨_, a', cap', h2, _, _, _, h6⟩ := H.out
              simp only [Value.slice.injEq] at h2
              obtain ⟨rfl, -, -⟩ := h2
              obtain ⟨b', off', e, -, -⟩ := h6 (by omega)
              exact ⟨b', off', e⟩
            have y1 := E3.cell (RdS.at H.out f (by omega)).1
            have hfl : (f : Int) < (l.length : Int) := by omega
            obtain ⟨xb, hxb⟩ : ∃ x, (l.getD f (false, 0)).1 = x := ⟨_, rfl⟩
            obtain ⟨cm, hcm⟩ : ∃ x, cmpL (codeOf l) (codeOf r) = x := ⟨_, rfl⟩
            obtain ⟨eq, heq⟩ : ∃ x, decide (codeOf l = codeOf r) = x := ⟨_, rfl⟩
            rw [hxb] at y1 t1
            rw [hcm] at t1
            rw [heq] at t2
            subst t2
            have t3 : if xb = true then cm < 0 else ¬ cm < 0 := by
              cases xb
              · simp at t1; simp [t1]
              · simp at t1; simp [t1]
            clear t1
            have hcm := hidden hcm
            have heq := hidden heq
            clear hxb HS HN
            cases xb
            · simp only [Bool.false_eq_true, if_false] at t3
              have t4 : decide (cm < 0) = false := by simp [t3]
              have t5 : (decide (cm < 0) == false) = true := by simp [t3]
              go_upto_region 18 with fail
              go_region_held3 (fun w' => w'.cell? ⟨pb, po + f * 2, none⟩ = some (.bool false)) (go_keep)
                (first | (go_at_call 11; refine (awake_any _).mono ?_; rintro e w5 ⟨rfl, g5⟩; have gX : Ext w3 w5 := (by first | exact Ext.trans gX g5 | exact (Ext.trans gX g5.past) | exact g5.past_drew | exact g5.past_drew.past | exact g5); have j0 : w5.cell? ⟨pb, po + f * 2, none⟩ = some (.bool false) := gX.cell y1) | (go_at_call 33; refine (bcompare_any _ _ _ _ (codeOf_bytes l) (codeOf_bytes r) _ (by first | exact Rd.ext hRa3 gX | exact Rd.alloc (Rd.ext hRa3 gX) _ | exact Rd.drew hRa3 | exact Rd.drew (Rd.alloc hRa3 _) | exact hRa3) (by first | exact Rd.ext hRb gX | exact Rd.alloc (Rd.ext hRb gX) _ | exact Rd.drew hRb | exact Rd.drew (Rd.alloc hRb _) | exact hRb)).mono ?_; rw [hcm.out]; rintro e w5 ⟨rfl, g5⟩; have gX : Ext w3 w5 := (by first | exact Ext.trans gX g5 | exact (Ext.trans gX g5.past) | exact g5.past_drew | exact g5.past_drew.past | exact g5); have j0 : w5.cell? ⟨pb, po + f * 2, none⟩ = some (.bool false) := gX.cell y1) | (go_at_call 32; refine (bequal_any _ _ _ _ (codeOf_bytes l) (codeOf_bytes r) _ (by first | exact Rd.ext hRa3 gX | exact Rd.alloc (Rd.ext hRa3 gX) _ | exact Rd.drew hRa3 | exact Rd.drew (Rd.alloc hRa3 _) | exact hRa3) (by first | exact Rd.ext hRb gX | exact Rd.alloc (Rd.ext hRb gX) _ | exact Rd.drew hRb | exact Rd.drew (Rd.alloc hRb _) | exact hRb)).mono ?_; rw [heq.out]; rintro e w5 ⟨rfl, g5⟩; have gX : Ext w3 w5 := (by first | exact Ext.trans gX g5 | exact (Ext.trans gX g5.past) | exact g5.past_drew | exact g5.past_drew.past | exact g5); have j0 : w5.cell? ⟨pb, po + f * 2, none⟩ = some (.bool false) := gX.cell y1))
              all_goals
                go_wp2_with fail
                go_ret
                exact ⟨rfl, E3.trans gX⟩
            · simp only [if_true] at t3
              have t4 : decide (cm < 0) = true := by simp [t3]
              have t5 : (decide (cm < 0) == true) = true := by simp [t3]
              go_upto_region 18 with fail
              go_region_held3 (fun w' => w'.cell? ⟨pb, po + f * 2, none⟩ = some (.bool true)) (go_keep)
                (first | (go_at_call 11; refine (awake_any _).mono ?_; rintro e w5 ⟨rfl, g5⟩; have gX : Ext w3 w5 := (by first | exact Ext.trans gX g5 | exact (Ext.trans gX g5.past) | exact g5.past_drew | exact g5.past_drew.past | exact g5); have j0 : w5.cell? ⟨pb, po + f * 2, none⟩ = some (.bool true) := gX.cell y1) | (go_at_call 33; refine (bcompare_any _ _ _ _ (codeOf_bytes l) (codeOf_bytes r) _ (by first | exact Rd.ext hRa3 gX | exact Rd.alloc (Rd.ext hRa3 gX) _ | exact Rd.drew hRa3 | exact Rd.drew (Rd.alloc hRa3 _) | exact hRa3) (by first | exact Rd.ext hRb gX | exact Rd.alloc (Rd.ext hRb gX) _ | exact Rd.drew hRb | exact Rd.drew (Rd.alloc hRb _) | exact hRb)).mono ?_; rw [hcm.out]; rintro e w5 ⟨rfl, g5⟩; have gX : Ext w3 w5 := (by first | exact Ext.trans gX g5 | exact (Ext.trans gX g5.past) | exact g5.past_drew | exact g5.past_drew.past | exact g5); have j0 : w5.cell? ⟨pb, po + f * 2, none⟩ = some (.bool true) := gX.cell y1) | (go_at_call 32; refine (bequal_any _ _ _ _ (codeOf_bytes l) (codeOf_bytes r) _ (by first | exact Rd.ext hRa3 gX | exact Rd.alloc (Rd.ext hRa3 gX) _ | exact Rd.drew hRa3 | exact Rd.drew (Rd.alloc hRa3 _) | exact hRa3) (by first | exact Rd.ext hRb gX | exact Rd.alloc (Rd.ext hRb gX) _ | exact Rd.drew hRb | exact Rd.drew (Rd.alloc hRb _) | exact hRb)).mono ?_; rw [heq.out]; rintro e w5 ⟨rfl, g5⟩; have gX : Ext w3 w5 := (by first | exact Ext.trans gX g5 | exact (Ext.trans gX g5.past) | exact g5.past_drew | exact g5.past_drew.past | exact g5); have j0 : w5.cell? ⟨pb, po + f * 2, none⟩ = some (.bool true) := gX.cell y1))
              all_goals
                go_wp2_with fail
                go_ret
                exact ⟨rfl, E3.trans gX⟩

end Go.Proofs.Ytnodnfmgklkjeaa
