/- Layer 18: FlowJoins. -/
import Derived.Test.YtcnbljohhajkhaaWy
import Derived.Test.YtcnbljohhajkhaaWx
namespace Go.Proofs.Ytcnbljohhajkhaa
open Go.RowKit
set_option linter.unusedVariables false
set_option linter.unusedSimpArgs false
attribute [local go_sem ↓] Go.wp_at_zero Go.wp_at_succ

theorem wpList_append_g {P : Program} {w : World} {ops : Array Oper} {rest : List Oper} {o : Oper} {a : Act} {Q : Exit → Act → World → Prop} (hw : Region.wanted o (yielded ops a.tmps) = true) (s x : Operand) (t : TypeId)
    (ho : o.op = .call { callee := .builtin .append, args := #[s, x], argTypes := #[t, t] })
    (base : Nat) (e : TypeId) (i : TypeInfo) (z : Value) (size bytes : Nat) (ht : P.underlying t = some (.slice e)) (hi : P.info? e = some i) (hz : i.zero = some z)
    (hsize : i.size = size) (hby : i.bytes = bytes) (hzs : z.cells.size = size) (hsz : 0 < size)
    (v : Value) (n : Nat) (xs : List Value) (hs : a.eval s = v) (hown : w.ownsRow base e size v n xs)
    (y : Option Addr) (m c : Nat) (news : List Value) (hx : a.eval x = .slice y m c) (hr : Rd w size (.slice y m c) m news) (h1 : ∀ u ∈ news, u.oneCell' = true)
    (h63 : n + m ≤ maxLen) (hbytes : (n + m) * bytes ≤ 140737488355328) (hbase : base ≤ w.heap.size)
    (h : ∀ v' w', w'.ownsRow base e size v' (n + m) (xs ++ news) → w.grownBy w' v.ownBlock → wpList P ops Q rest (a.put o.dst v') w') :
    wpList P ops Q (o :: rest) a w := by
  show (if _ then _ else _)
  rw [if_pos hw]
  left
  cases y with
  | none =>
    obtain ⟨hl, a', cap', e1, h3, h4, h5, h6⟩ := hr
    simp only [Value.slice.injEq] at e1
    obtain ⟨rfl, -, rfl⟩ := e1
    have hc := h5 rfl
    subst hc
    obtain rfl : m = 0 := by omega
    obtain rfl : news = [] := List.eq_nil_of_length_eq_zero (by omega)
    have hrun := run_append_owned_none (P := P) (w := w) base t o.type e i size ht hi v n xs hown
    unfold Oper.wp
    simp [execOp, ho, resolve, invoke, builtin, hs, hx, hrun, Result.andThen]
    exact h v w (by simpa using hown) ⟨rfl, rfl, rfl, Nat.le_refl _, fun _ _ _ => rfl⟩
  | some ad =>
    obtain ⟨v', w', hrr, h2, h3, h4, h5⟩ := run_append_own_at (P := P) w base t o.type e i z size bytes ht hi hz hsize hby hzs hsz v n xs hown ad m c news hr.1 (Rd.news hr) h1 h63 hbytes hbase
    unfold Oper.wp execOp
    simp only [ho, resolve, invoke, builtin, Sem.run_bind, Sem.run_pure, Result.andThen_ok, List.map_toArray, List.map_cons, List.map_nil, hs, hx, hrr]
    exact h v' w' h2 h3
theorem pairR_len (C : List (Int × Int)) : (pairR C).1.length ≤ C.length := by
  unfold pairR
  split
  next hl =>
    rcases pair_is C hl with ⟨S, hC, hw, hd, hp, -⟩ | ⟨hp, -⟩
    · have := hp
      unfold pairR at this
      rw [if_pos hl] at this
      rw [this, Sy.len_prt, hC, Sy.len_cod]
      exact Nat.le_refl _
    · have := hp
      unfold pairR at this
      rw [if_pos hl] at this
      rw [this]
      simp
  · simp
theorem prt_bd (S : Sy) : ∀ (i : Nat) (lp x : Int), x ∈ S.prt true i lp → x = lp ∨ x ≤ ((i + S.len : Nat) : Int) := by
  induction S with
  | nil => intro i lp x hx; simp [Sy.prt] at hx
  | op y r ih =>
    intro i lp x hx
    simp only [Sy.prt, List.mem_cons] at hx
    simp only [Sy.len]
    rcases hx with rfl | hx
    · split
      · exact Or.inl rfl
      · right; omega
    · rcases ih (i + 1) lp x hx with h | h
      · exact Or.inl h
      · right; omega
  | blk y b z r ih1 ih2 =>
    intro i lp x hx
    simp only [Sy.prt, List.mem_cons, List.mem_append] at hx
    simp only [Sy.len]
    rcases hx with rfl | hx | rfl | hx
    · right; omega
    · rcases ih1 _ _ x hx with h | h
      · split at h
        · right; omega
        · exact Or.inl h
      · right; omega
    · right; omega
    · rcases ih2 _ _ x hx with h | h
      · exact Or.inl h
      · right; omega
  | ife y b u c z r ih1 ih2 ih3 =>
    intro i lp x hx
    simp only [Sy.prt, List.mem_cons, List.mem_append] at hx
    simp only [Sy.len]
    rcases hx with rfl | hx | rfl | hx | rfl | hx
    · right; omega
    · rcases ih1 _ _ x hx with h | h
      · exact Or.inl h
      · right; omega
    · right; omega
    · rcases ih2 _ _ x hx with h | h
      · exact Or.inl h
      · right; omega
    · right; omega
    · rcases ih3 _ _ x hx with h | h
      · exact Or.inl h
      · right; omega
theorem pairR_bd (C : List (Int × Int)) (hl : C.length ≤ 1024) : ∀ x ∈ (pairR C).1, x ≤ 1024 := by
  intro x hx
  rcases pair_is C hl with ⟨S, hC, hw, hd, hp, -⟩ | ⟨hp, -⟩
  · rw [hp] at hx
    have := prt_bd S 0 (-1) x hx
    rw [hC, Sy.len_cod] at hl
    omega
  · rw [hp] at hx
    simp at hx
set_option maxHeartbeats 4000000 in
set_option maxRecDepth 100000 in
theorem joins_any (hL : ∀ C f, ListOK C f) (va vb : Value) (A B : List (Int × Int)) (w : World) (ha : Code18 w va A) (hb : Code18 w vb B) :
    Calls Try.prog 8 #[va, vb] w fun x w' => x = .returned (.bool true) ∧ Ext w w' := by
  have haw := hidden (awake_any hL)
  have HA := hidden ha
  have HB := hidden hb
  have hpa := hidden (pair_any hL va A w ha)
  obtain ⟨aa, ca, rfl, hca, -⟩ := Rd.shape ha
  obtain ⟨ab, cb, rfl, hcb, -⟩ := Rd.shape hb
  obtain ⟨n, hn⟩ : ∃ n, A.length = n := ⟨_, rfl⟩
  obtain ⟨m, hm⟩ : ∃ m, B.length = m := ⟨_, rfl⟩
  rw [hn] at HA hpa hca ⊢
  rw [hm] at HB hcb ⊢
  have Hn := hidden hn
  have Hm := hidden hm
  clear ha hb
  go_enter Try.func8, Try.ntmps8
  by_cases hbig : 60 < n ∨ 60 < m
  · by_cases h1 : 60 < n
    · have q1 : decide ((60 : Int) < (n : Int)) = true := by simp; omega
      clear hn hm
      go_wp2_with fail
      refine (haw.out w).mono ?_
      rintro x w9 ⟨rfl, hX⟩
      replace hX := hidden hX
      go_wp2_with fail
      go_ret
      exact ⟨rfl, hX.out⟩
    · have q1 : decide ((60 : Int) < (n : Int)) = false := by simp; omega
      have q2 : decide ((60 : Int) < (m : Int)) = true := by simp; omega
      clear hn hm
      go_wp2_with fail
      refine (haw.out w).mono ?_
      rintro x w9 ⟨rfl, hX⟩
      replace hX := hidden hX
      go_wp2_with fail
      go_ret
      exact ⟨rfl, hX.out⟩
  · have q1 : decide ((60 : Int) < (n : Int)) = false := by simp; omega
    have q2 : decide ((60 : Int) < (m : Int)) = false := by simp; omega
    have hlaw := joins_law A B (by omega) (by omega)
    have hlP := pairR_len B
    have hbP := pairR_bd B (by omega)
    have hlQ := pairR_len A
    have hlab : (A ++ B).length = n + m := by rw [List.length_append, hn, hm]
    rw [hlab] at hlaw
    rw [hn] at hlaw hlQ
    rw [hm] at hlP
    replace hlaw := hidden hlaw
    replace hbP := hidden hbP
    clear hn hm
    go_wp2_with fail
    refine hpa.out.mono ?_
    rintro x w1 ⟨vx, rfl, hO, hX⟩
    have HA1 := hidden (HA.out.ext hX)
    have HB1 := hidden (HB.out.ext hX)
    have Hx1 := hidden hO
    have hX1 := hidden hX
    have hpb := hidden (pair_any hL (.slice ab m cb) B w1 (HB.out.ext hX))
    clear hpa hO hX
    go_wp2_with fail
    refine hpb.out.mono ?_
    rintro x w2 ⟨vy, rfl, hO, hX⟩
    have HA2 := hidden (HA1.out.ext hX)
    have HB2 := hidden (HB1.out.ext hX)
    have Hx2 := hidden (own_ext Hx1.out hX : OwnI w2 w.heap.size vx _)
    have Hxb := hidden (fun k (hk : vx.ownBlock = some k) => (own_lt Hx1.out hk).2)
    have Hy2 := hidden hO
    have hX2 := hidden (hX1.out.trans hX)
    have hs12 := hX.size
    have hcl := hidden (clonec_any (.slice aa n ca) A w2 HA2.out (by rw [Hn.out]; omega))
    clear hpb hO hX
    go_wp2_with fail
    refine hcl.out.mono ?_
    rintro x w3 ⟨vc, rfl, hO, hX⟩
    have HB3 := hidden (show Rd w3 2 (.slice ab m cb) m (B.flatMap icell) by have := HB2.out.ext hX; unfold Code18 at this; rw [Hm.out] at this; exact this)
    have Hx3 := hidden (own_ext Hx2.out hX : OwnI w3 w.heap.size vx _)
    have Hy3 := hidden (own_ext Hy2.out hX : OwnI w3 w1.heap.size vy _)
    have Hyb := hidden (fun k (hk : vy.ownBlock = some k) => (own_lt Hy2.out hk).2)
    have Hc3 := hidden (show w3.ownsRow w2.heap.size 45 2 vc n (A.flatMap icell) by have := hO; unfold OwnC at this; rw [Hn.out] at this; exact this)
    have hX3 := hidden (hX2.out.trans hX)
    have hs23 := hX.size
    obtain ⟨i0, hi, hz0, hz1, hz2⟩ := info_parts insinfo
    have hia := hidden hi
    clear hcl hO hX hi
    go_upto_region 6 with (at_builtin; refine wpList_append_rd (by rfl) _ _ 22 (by rfl) w2.heap.size 45 i0 (.agg #[.int .i64 0, .int .u32 0]) 2 16 Try.underlying22 hia.out hz0 hz1 hz2 rfl (by decide) vc n (A.flatMap icell) (by rfl) Hc3.out ab m cb (B.flatMap icell) (by rfl) HB3.out (icell_one B) (by unfold maxLen; omega) (by omega) hs23 ?_; intro vc2 w4 hown4 hgrow4 hat4)
    obtain ⟨ac2, cc2, rfl, -⟩ := own_shape hown4
    have HC4 : OwnC w4 w2.heap.size (.slice ac2 (n + m) cc2) (A ++ B) := by unfold OwnC; rw [List.length_append, List.flatMap_append, Hn.out, Hm.out]; exact hown4
    have hc34 : Chg vc.ownBlock.toList w3 w4 := (Chg.refl _ w3).grown hgrow4 (fun k hk => Or.inl (by simp [hk]))
    have hvcb : ∀ k ∈ vc.ownBlock.toList, w2.heap.size ≤ k := fun k hk => (own_lt Hc3.out (by simpa using hk)).1
    have hws2 := hX2.out.size
    have hws1 := hX1.out.size
    have Hx4 := hidden (own_chg Hx3.out hc34 (fun k hk e => by have := hvcb k hk; have := Hxb.out k e; omega) : OwnI w4 w.heap.size vx _)
    have Hy4 := hidden (own_chg Hy3.out hc34 (fun k hk e => by have := hvcb k hk; have := Hyb.out k e; omega) : OwnI w4 w1.heap.size vy _)
    have hX4 := hidden (((Chg.of_ext [] hX3.out).trans hc34 (fun k hk => Or.inr (by have := hvcb k hk; omega))).ext)
    have hs34 := hc34.size
    have hpc := hidden (pair_any hL (.slice ac2 (n + m) cc2) (A ++ B) w4 (OwnC.rd HC4))
    have HC4' := hidden HC4
    clear HC4 hc34 hvcb hown4 hgrow4 hat4 Hx3 Hy3 hX3 Hc3 HB3 HA2 HB2 Hx2 Hy2 HA1 HB1 Hx1
    go_wp2_with fail
    refine hpc.out.mono ?_
    rintro x w5 ⟨vz, rfl, hO, hX⟩
    have HC5 := hidden (own_ext HC4'.out hX : OwnC w5 w2.heap.size (.slice ac2 (n + m) cc2) _)
    have Hx5 := hidden (own_ext Hx4.out hX : OwnI w5 w.heap.size vx _)
    have Hy5 := hidden (own_ext Hy4.out hX : OwnI w5 w1.heap.size vy _)
    have Hz5 := hidden (own_mono hO (by omega) : OwnI w5 w2.heap.size vz _)
    have hX5 := hidden (hX4.out.trans hX)
    clear hpc hO hX HC4' Hx4 Hy4 hX4
    obtain ⟨⟨PA, eA⟩, hPA⟩ : ∃ r, pairR A = r := ⟨_, rfl⟩
    obtain ⟨⟨PB, eB⟩, hPB⟩ : ∃ r, pairR B = r := ⟨_, rfl⟩
    rw [hPA] at hlaw Hx5 hlQ ⊢
    rw [hPB] at hlaw Hy5 hbP hlP ⊢
    simp only at Hx5 Hy5 hbP hlP hlQ ⊢
    have hl1 := hlaw.out.1
    have hl2 := hlaw.out.2
    simp only at hl1 hl2
    clear hlaw hPA hPB
    by_cases hok : eA = 0 ∧ eB = 0
    · obtain ⟨rfl, rfl⟩ := hok
      obtain ⟨g1, g2, g3⟩ := hl1 rfl rfl
      rw [g1] at Hz5 ⊢
      simp only at Hz5 ⊢
      obtain ⟨ay, cy, rfl, -⟩ := own_shape (show w5.ownsRow _ _ _ _ _ _ from Hy5.out)
      obtain ⟨p, hp⟩ : ∃ p, PB.length = p := ⟨_, rfl⟩
      rw [hp] at Hy5 Hyb hlP ⊢
      replace hp := hidden hp
      replace g1 := hidden g1
      replace g2 := hidden g2
      replace g3 := hidden g3
      clear hl1 hl2
      go_wp2_with fail
      go_loopw [69] (fun ix wr => ∃ (k : Nat), k ≤ p ∧ ix = .int .i64 (k : Int) ∧ Hid (OwnI wr w1.heap.size (.slice ay p cy) ((PB.take k).map (Sy.sh n) ++ PB.drop k)) ∧ Hid (Chg (Value.slice ay p cy).ownBlock.toList w5 wr)) (fun ix _ => (p - intOf ix).toNat)
      case atStart => exact ⟨0, by omega, rfl, hidden (by rw [List.take_zero, List.map_nil, List.nil_append, List.drop_zero]; have := Hy5.out; unfold OwnI; rw [hp.out]; exact this), Chg.refl _ _⟩
      case round =>
        obtain ⟨k, hk, rfl, hO, hC⟩ := hrel
        obtain ⟨W, hWW⟩ : ∃ Z, Z = wr := ⟨_, rfl⟩
        subst hWW
        by_cases hlt : k < p
        · have hlt' : (k : Int) < (p : Int) := by omega
          have hkw : IntKind.i64.wrap ((k : Int) + 1) = (k : Int) + 1 := IntWalk.i64_in _ (by omega)
          have hlen : ((PB.take k).map (Sy.sh n) ++ PB.drop k).length = p := by have := hp.out; simp; omega
          have hoo := hO.out
          unfold OwnI at hoo
          rw [hlen] at hoo
          rcases hoo.2 with ⟨h1, h2⟩ | ⟨gy, c', cur, hvv, -⟩
          · omega
          simp only [Value.slice.injEq] at hvv
          obtain ⟨rfl, -, rfl⟩ := hvv
          obtain ⟨y, hy⟩ : ∃ y, PB[k]? = some y := ⟨_, List.getElem?_eq_getElem (by have := hp.out; omega)⟩
          have hym := hbP.out y (List.mem_of_getElem? hy)
          have hyk : ((PB.take k).map (Sy.sh n) ++ PB.drop k)[k]? = some y := by
            have := hp.out
            rw [List.getElem?_append_right (by simp; omega)]
            simp only [List.length_map, List.length_take]
            rw [Nat.min_eq_left (by omega), Nat.sub_self, List.getElem?_drop, Nat.add_zero]
            exact hy
          have x0 := own_cell hoo k (.int .i64 y) (by rw [List.getElem?_map, hyk]; rfl)
          have xf := World.ownsRow.frozenAt hoo k
          have hset : ((PB.take k).map (Sy.sh n) ++ PB.drop k).set k (Sy.sh n y) = (PB.take (k + 1)).map (Sy.sh n) ++ PB.drop (k + 1) := by
            obtain ⟨hk', rfl⟩ := List.getElem?_eq_some_iff.1 hy
            rw [List.drop_eq_getElem_cons hk', set_at _ _ _ _ k (by simp; omega), List.take_succ_eq_append_getElem hk', List.map_append, List.append_assoc]
            rfl
          by_cases hy0 : 0 ≤ y
          · have hyd : decide ((0 : Int) ≤ y) = true := by simp; exact hy0
            have hyw : IntKind.i64.wrap (y + (n : Int)) = y + (n : Int) := IntWalk.i64_in _ (by omega)
            have hsh : Sy.sh n y = y + (n : Int) := by unfold Sy.sh; rw [if_pos hy0]
            rw [hsh] at hset
            have hOs := hidden (show OwnI (W.setCell ⟨gy, k, none⟩ (.int .i64 (y + (n : Int)))) w1.heap.size (.slice (some ⟨gy, 0, none⟩) p cy) ((PB.take (k + 1)).map (Sy.sh n) ++ PB.drop (k + 1)) by rw [← hset]; exact OwnI.set hO.out k _)
            have hCs := hidden (hC.out.setCell (p := ⟨gy, k, none⟩) (Or.inl (by simp [Value.ownBlock])) (.int .i64 (y + (n : Int))))
            replace hy := hidden hy
            replace hyk := hidden hyk
            replace hset := hidden hset
            clear hoo
            go_wp2_with fail
            go_roundw
            case rel => exact ⟨k + 1, by omega, by go_num, hOs, hCs⟩
            case measure => simp [intOf]; omega
          · have hyd : decide ((0 : Int) ≤ y) = false := by simp; omega
            have hsh : Sy.sh n y = y := by unfold Sy.sh; rw [if_neg hy0]
            have hOs := hidden (show OwnI W w1.heap.size (.slice (some ⟨gy, 0, none⟩) p cy) ((PB.take (k + 1)).map (Sy.sh n) ++ PB.drop (k + 1)) by
              rw [← hset, hsh]
              have e : ((PB.take k).map (Sy.sh n) ++ PB.drop k).set k y = (PB.take k).map (Sy.sh n) ++ PB.drop k := by
                obtain ⟨h1, h2⟩ := List.getElem?_eq_some_iff.1 hyk
                rw [← h2]
                exact List.set_getElem_self h1
              rw [e]; exact hO.out)
            replace hy := hidden hy
            replace hyk := hidden hyk
            replace hset := hidden hset
            clear hoo
            go_wp2_with fail
            go_roundw
            case rel => exact ⟨k + 1, by omega, by go_num, hOs, hC⟩
            case measure => simp [intOf]; omega
        · obtain rfl : k = p := by omega
          have hO6 : OwnI W w1.heap.size (.slice ay k cy) (PB.map (Sy.sh n)) := by
            have := hO.out
            rw [List.take_of_length_le (by rw [hp.out]; exact Nat.le_refl _), List.drop_of_length_le (by rw [hp.out]; exact Nat.le_refl _), List.append_nil] at this
            exact this
          have hbl : ∀ x ∈ (Value.slice ay k cy).ownBlock.toList, w1.heap.size ≤ x ∧ x < w2.heap.size := fun x hx => ⟨(own_lt Hy5.out (by simpa using hx)).1, Hyb.out x (by simpa using hx)⟩
          have HC6 := hidden (own_chg HC5.out hC.out (fun x hx e => by have := hbl x hx; have := (own_lt HC5.out e).1; omega) : OwnC W w2.heap.size (.slice ac2 (n + m) cc2) _)
          have Hx6 := hidden (own_chg Hx5.out hC.out (fun x hx e => by have := hbl x hx; have := Hxb.out x e; omega) : OwnI W w.heap.size vx _)
          have Hz6 := hidden (own_chg Hz5.out hC.out (fun x hx e => by have := hbl x hx; have := (own_lt Hz5.out e).1; omega) : OwnI W w2.heap.size vz _)
          have hX6 := hidden (((Chg.of_ext [] hX5.out).trans hC.out (fun x hx => Or.inr (by have := hbl x hx; omega))).ext)
          have Hy6 := hidden hO6
          have hpr := hidden (parse_any hL (.slice ac2 (n + m) cc2) (A ++ B) W (OwnC.rd HC6.out))
          clear hO6 hbl hO hC HC5 Hx5 Hz5 hX5 Hy5
          go_wp2_with fail
          refine hpr.out.mono ?_
          rintro x w7 ⟨vt, rfl, hS, hX⟩
          have HC7 := hidden (own_ext HC6.out hX : OwnC w7 w2.heap.size (.slice ac2 (n + m) cc2) _)
          have Hx7 := hidden (own_ext Hx6.out hX : OwnI w7 w.heap.size vx _)
          have Hy7 := hidden (own_ext Hy6.out hX : OwnI w7 w1.heap.size (.slice ay k cy) _)
          have Hz7 := hidden (own_ext Hz6.out hX : OwnI w7 w2.heap.size vz _)
          have hX7 := hidden (hX6.out.trans hX)
          have g2' := g2.out
          have g3' := g3.out
          generalize parR (A ++ B) = pr at hS g2' g3' ⊢
          obtain ⟨tt, pl, ee⟩ := pr
          simp only at hS g2' g3' ⊢
          subst g2'
          have HT7 := hidden hS
          obtain ⟨ct, hrt, -, -⟩ := hS
          obtain ⟨att, cpt, rfl, hcp1, hcp2, -⟩ := Rd.shape hrt
          obtain ⟨N, hN⟩ : ∃ N, tt.len = N := ⟨_, rfl⟩
          rw [hN] at HT7 hcp1 ⊢
          replace hN := hidden hN
          replace g3' := hidden g3'
          clear hrt hX hpr HC6 Hx6 Hy6 Hz6 hX6 g2 g3
          go_wp2_with fail
          go_loopw [17, 92] (fun av ix wr => ∃ (k2 : Nat) (j : Int) (t1 t2 : T), k2 ≤ N ∧ ix = .int .i64 (k2 : Int) ∧ av = .int .i64 j ∧ Hid (tt = t1.app t2) ∧ Hid (t1.len = k2) ∧ Hid (Cov j t2 ((n + m : Nat) : Int)) ∧ Hid (Ext w7 wr)) (fun _ ix _ => (N - intOf ix).toNat)
          case atStart => exact ⟨0, 0, .nil, tt, by omega, rfl, rfl, rfl, rfl, g3', Ext.refl _⟩
          case round =>
            obtain ⟨k2, j, t1, t2, hk2, rfl, rfl, ht, hk1, hcov, hX8⟩ := hrel
            obtain ⟨V, hVV⟩ : ∃ Z, Z = wr := ⟨_, rfl⟩
            subst hVV
            by_cases hlt : k2 < N
            · have hlt' : (k2 : Int) < (N : Int) := by omega
              obtain ⟨op, f, u, b, o, r, rfl⟩ : ∃ op f tt b o r, t2 = .cons op f tt b o r := by
                cases t2 with
                | nil => have h1 := hN.out; rw [ht.out, T.app_nil, hk1.out] at h1; omega
                | cons op f tt b o r => exact ⟨_, _, _, _, _, _, rfl⟩
              obtain ⟨pb, po, cp, vb, vo, hve, hbS, hoS, -, y0, y1, y2, y3, y4⟩ := fr_at (HT7.out.chg (Chg.of_ext [] hX8.out) (by simp) (fun _ _ h => h)) ht.out
              simp only [Value.slice.injEq] at hve
              obtain ⟨rfl, -, rfl⟩ := hve
              rw [hk1.out] at y0 y1 y2 y3 y4
              obtain ⟨xb, cbp, rfl, -⟩ := Rd.shape hbS.choose_spec.1
              obtain ⟨xo, cop, rfl, -⟩ := Rd.shape hoS.choose_spec.1
              obtain ⟨rfl, hfu, hcov2⟩ := hcov.out
              have hfd : decide (u ≤ f) = false := by simp; omega
              have X1 := (Ext.refl V).alloc (.cells #[.int .i64 op, .int .i64 f, .int .i64 u, .slice xb b.len cbp, .slice xo o.len cop] 47)
              have N1 := Blk.new V [.int .i64 op, .int .i64 f, .int .i64 u, .slice xb b.len cbp, .slice xo o.len cop] 47
              have c1 := N1.cell 1 _ rfl
              have c2 := N1.cell 2 _ rfl
              have HT : Hid (tt = (t1.app (.cons op f u b o .nil)).app r) := by show _ = _; rw [ht.out, T.app_assoc]; rfl
              have HK : Hid ((t1.app (.cons op f u b o .nil)).len = k2 + 1) := by show _ = _; rw [T.len_app, hk1.out]; rfl
              have hkw : IntKind.i64.wrap ((k2 : Int) + 1) = (k2 : Int) + 1 := IntWalk.i64_in _ (by omega)
              have hX9 := hidden (hX8.out.trans X1)
              replace hcov2 := hidden hcov2
              clear N1 X1 hbS hoS
              go_wp2_with fail
              go_roundw
              case rel => exact ⟨k2 + 1, u, t1.app (.cons op f u b o .nil), r, by omega, by go_num, rfl, HT, HK, hcov2, hX9⟩
              case measure => simp [intOf]; omega
            · obtain rfl : k2 = N := by omega
              have hk3 : t2 = .nil := by
                cases t2 with
                | nil => rfl
                | cons op f tt b o r =>
                  have h1 := hN.out
                  rw [ht.out, T.len_app, hk1.out] at h1
                  simp [T.len] at h1
              subst hk3
              obtain rfl : j = ((n + m : Nat) : Int) := hcov.out
              have Hx8 := hidden (own_ext Hx7.out hX8.out : OwnI V w.heap.size vx _)
              have Hy8 := hidden (own_ext Hy7.out hX8.out : OwnI V w1.heap.size (.slice ay k cy) _)
              have Hz8 := hidden (own_ext Hz7.out hX8.out : OwnI V w2.heap.size vz _)
              have hX10 := hidden (hX7.out.trans hX8.out)
              obtain ⟨pl, hpl⟩ : ∃ pl, PA.length = pl := ⟨_, rfl⟩
              rw [hpl] at hlQ
              have hci := hidden (clonei_any vx PA V (OwnI.rd Hx8.out) (by omega))
              replace hpl := hidden hpl
              obtain ⟨i1, hi, hj0, hj1, hj2⟩ := info_parts intinfo
              have hib := hidden hi
              clear hi HC7 Hx7 Hy7 Hz7 hX7 hX8 hcov ht
              go_wp2_with fail
              refine hci.out.mono ?_
              clear hci
              rintro x V1 ⟨vi, rfl, hOi, hXi⟩
              have Hi1 := hidden (show V1.ownsRow V.heap.size 3 1 vi pl (PA.map (Value.int .i64)) by have := hOi; unfold OwnI at this; rw [hpl.out] at this; exact this)
              have Hy9 := hidden (show Rd V1 1 (.slice ay k cy) k ((PB.map (Sy.sh n)).map (Value.int .i64)) by have := (OwnI.rd Hy8.out).ext hXi; unfold RdI at this; rw [List.length_map, hp.out] at this; exact this)
              have hsV := hXi.size
              have HXi := hidden hXi
              replace hOi := hidden hOi
              clear hXi Hx8 Hy8
              go_wp2_with (at_builtin; refine wpList_append_g (by rfl) _ _ 32 (by rfl) V.heap.size 3 i1 (.int .i64 0) 1 8 Try.underlying32 hib.out hj0 hj1 hj2 rfl (by decide) vi pl (PA.map (Value.int .i64)) (by rfl) Hi1.out ay k cy ((PB.map (Sy.sh n)).map (Value.int .i64)) (by rfl) Hy9.out (by intro u hu; obtain ⟨z, -, rfl⟩ := List.mem_map.1 hu; rfl) (by unfold maxLen; omega) (by omega) hsV ?_; intro vj V2 hown5 hgrow5)
              have hOj : OwnI V2 V.heap.size vj (PA ++ PB.map (Sy.sh n)) := by
                unfold OwnI
                rw [List.length_append, List.map_append, List.length_map, hpl.out, hp.out]
                exact hown5
              have hX12 : Ext V V2 := ((Chg.of_ext [] HXi.out).grown hgrow5 (fun k hk => Or.inr (own_lt Hi1.out hk).1)).ext
              refine (equal_any vz vj (PA ++ PB.map (Sy.sh n)) V2 ((OwnI.rd Hz8.out).ext hX12) (OwnI.rd hOj)).mono ?_
              rintro x V3 ⟨rfl, hX13⟩
              have hX14 := hidden ((hX10.out.trans hX12).trans hX13)
              have hnm : (((n + m : Nat) : Int) == ((n + m : Nat) : Int)) = true := by simp
              clear hOj hX12 hX13 hown5 hgrow5 Hi1 Hy9 hOi HXi Hz8 hX10
              go_wp2_with fail
              refine (haw.out V3).mono ?_
              rintro x V4 ⟨rfl, hX15⟩
              have hX16 := hidden (hX14.out.trans hX15)
              clear hX15
              go_wp2_with fail
              go_ret
              exact ⟨rfl, hX16.out⟩
    · have hl2' := hl2 hok
      have fin : ∀ (b : Bool), b = true → True := fun _ _ => trivial
      have hn53 : (eA != 0 || eB != 0) = true := by
        by_cases h : eA = 0
        · have : eB ≠ 0 := fun h' => hok ⟨h, h'⟩
          simp [h, this]
        · simp [h]
      generalize pairR (A ++ B) = pr at Hz5 hl2' ⊢
      obtain ⟨PC, eC⟩ := pr
      simp only at Hz5 hl2' ⊢
      clear hl1 hl2 fin
      by_cases hA0 : eA = 0
      · subst hA0
        have hB0 : (eB != 0) = true := by simpa using hn53
        go_wp2_with fail
        refine (haw.out w5).mono ?_
        rintro x w9 ⟨rfl, hX⟩
        have hX9 := hidden (hX5.out.trans hX)
        clear hX
        go_wp2_with fail
        go_ret
        exact ⟨rfl, hX9.out⟩
      · have hA1 : (eA != 0) = true := by simp; exact hA0
        by_cases hA15 : eA = 15
        · subst hA15
          have h5 : eC = 15 ∨ eB = 15 := by
            rcases hl2' with h | h | h
            · exact absurd rfl h
            · exact Or.inl h
            · exact Or.inr h
          by_cases hC15 : eC = 15
          · subst hC15
            go_wp2_with fail
            refine (haw.out w5).mono ?_
            rintro x w9 ⟨rfl, hX⟩
            have hX9 := hidden (hX5.out.trans hX)
            clear hX
            go_wp2_with fail
            go_ret
            exact ⟨rfl, hX9.out⟩
          · have hC2 : (eC == 15) = false := by simp; exact hC15
            obtain rfl : eB = 15 := by rcases h5 with h | h; exact absurd h hC15; exact h
            go_wp2_with fail
            refine (haw.out w5).mono ?_
            rintro x w9 ⟨rfl, hX⟩
            have hX9 := hidden (hX5.out.trans hX)
            clear hX
            go_wp2_with fail
            go_ret
            exact ⟨rfl, hX9.out⟩
        · have hA2 : (eA != 15) = true := by simp; exact hA15
          go_wp2_with fail
          refine (haw.out w5).mono ?_
          rintro x w9 ⟨rfl, hX⟩
          have hX9 := hidden (hX5.out.trans hX)
          clear hX
          go_wp2_with fail
          go_ret
          exact ⟨rfl, hX9.out⟩
end Go.Proofs.Ytcnbljohhajkhaa
