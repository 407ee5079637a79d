/- The law WalWhole. -/
import Derived.Test.YtonfnlohbgbffaaWhoA
set_option linter.unusedVariables false
set_option linter.unusedSimpArgs false
namespace Go.Proofs.Ytonfnlohbgbffaa
open Go.RowKit

theorem txView_u8 {w : World} {gd gb gl gt gm n first : Nat} {F : Int → Option (Nat → Nat)} {bad : Int} {s : DSt} (h : TXs w gd gb gl gt gm n first F bad s) (k i : Nat) : viewB F s.D k i ≤ 255 := by
  unfold viewB
  cases hf : F (k : Int) with
  | none => exact h.lx.dx.u8 k i
  | some f => exact (h.ok _ _ hf).1 i
theorem LXs.setLX {w w' : World} {gd gb gl n first : Nat} {s s' : DSt} (h : LXs w gd gb gl n first s) (c : Chg (dset gd gb) w w') (hd : DXs w' gd gb n s') : LXs w' gd gb gl n first s' := h.setD c hd
/-- The keys that are put are few. -/
structure KFew (F : Int → Option (Nat → Nat)) (m : Nat) : Prop where
  few : ∃ l : List Int, l.length = m ∧ ∀ a, F a ≠ none → a ∈ l
  lo : ∀ a, F a ≠ none → 33 ≤ a
theorem KFew.put {F : Int → Option (Nat → Nat)} {m : Nat} (h : KFew F m) (k : Nat) (hk : 33 ≤ k) (f : Nat → Nat) : KFew (putF F (k : Int) f) (m + 1) := by
  obtain ⟨l, h1, h2⟩ := h.few
  refine ⟨⟨(k : Int) :: l, by simp [h1], fun a ha => ?_⟩, fun a ha => ?_⟩
  · by_cases e : a = (k : Int)
    · rw [e]; simp
    · unfold putF at ha
      rw [if_neg e] at ha
      exact List.mem_cons_of_mem _ (h2 a ha)
  · by_cases e : a = (k : Int)
    · omega
    · unfold putF at ha
      rw [if_neg e] at ha
      exact h.lo a ha
theorem KFew.le {w : World} {gd gb gl gt gm n first : Nat} {F : Int → Option (Nat → Nat)} {bad : Int} {s : DSt} {m : Nat} (h : KFew F m) (ht : TXs w gd gb gl gt gm n first F bad s) : mapN w gm ≤ m := by
  obtain ⟨l, h1, h2⟩ := h.few
  have := ht.mp.mp.len_le l h2
  omega
/-- What the law asks at its end. -/
theorem whole_end {F : Int → Option (Nat → Nat)} {L : List Nat} {D0 X : Nat → Nat → Nat} {m : Nat} (hk : KeysOf F L) (hf : KFew F m) (h : OldP 2 D0 X ∨ OldP 2 (newD (pageG F) L D0) X) :
    ((∀ j, X (33 + j) = D0 (33 + j)) ∨ ∀ j, X (33 + j) = viewB F D0 (33 + j)) ∧ ∀ j, j < 2 → X j = D0 j := by
  rw [newD_view hk] at h
  rcases h with h | h
  · exact ⟨.inl fun j => h.2 _ (by omega), fun j hj => h.2 j (by omega)⟩
  · refine ⟨.inr fun j => h.2 _ (by omega), fun j hj => ?_⟩
    rw [h.2 j (by omega)]
    unfold viewB
    cases hfj : F (j : Nat) with
    | none => rfl
    | some f =>
      have := hf.lo (j : Nat) (by rw [hfj]; simp)
      omega
set_option maxRecDepth 100000 in
set_option maxHeartbeats 8000000 in
theorem walWhole_walk (W : World) (v0 v1 v2 v3 v4 : Value) (o0 : Arg Try.prog W 34 v0) (o1 : Arg Try.prog W 34 v1) (o2 : Arg Try.prog W 34 v2) (o3 : Arg Try.prog W 5 v3) (o4 : Arg Try.prog W 34 v4) :
    Calls Try.prog 13 #[v0, v1, v2, v3, v4] W fun e w' => e = .returned (.bool true) ∧ Below W.heap.size W w' := by
  obtain ⟨zs, hzs⟩ := SI.of_arg (k := .u8) Try.underlying34 Try.underlying5 (by kernel_rfl) o0
  obtain ⟨ns, hns⟩ := SI.of_arg (k := .u8) Try.underlying34 Try.underlying5 (by kernel_rfl) o1
  obtain ⟨ps, hps⟩ := SI.of_arg (k := .u8) Try.underlying34 Try.underlying5 (by kernel_rfl) o2
  obtain ⟨ag, hag⟩ := SI.of_arg (k := .u8) Try.underlying34 Try.underlying5 (by kernel_rfl) o4
  obtain ⟨af, rfl, haf⟩ := Arg.int Try.underlying5 o3
  have haf2 := wf_u8 haf
  obtain ⟨am, ham⟩ : ∃ am : Nat, (am : Int) = af % 100 := ⟨(af % 100).toNat, by omega⟩
  have ha1 : af % 100 = (am : Int) := ham.symm
  have ha2 : af.tmod 100 = (am : Int) := by rw [Int.tmod_eq_emod_of_nonneg (by omega)]; omega
  have ham100 : am < 100 := by omega
  have ha3 : IntKind.u8.wrap (am : Int) = am := by simp [IntKind.wrap, IntKind.bits, IntKind.signed]; omega
  have ha4 : IntKind.i64.wrap (am : Int) = am := by simp [IntKind.wrap, IntKind.bits, IntKind.signed]; omega
  obtain ⟨ad0, cp0, rfl, hc00, hc01⟩ := hzs.sr.form
  obtain ⟨ad1, cp1, rfl, hc10, hc11⟩ := hns.sr.form
  obtain ⟨ad2, cp2, rfl, hc20, hc21⟩ := hps.sr.form
  obtain ⟨ad4, cp4, rfl, hc40, hc41⟩ := hag.sr.form
  have HZS := Lib.hid hzs
  have HNS := Lib.hid hns
  have HPS := Lib.hid hps
  have HAG := Lib.hid hag
  have ha5 := haf2.1
  have ha6 := haf2.2
  clear o0 o1 o2 o3 o4 hzs hns hps hag haf haf2 ham hc00 hc01 hc10 hc11 hc20 hc21 hc40 hc41
  go_enter Try.func13, Try.ntmps13
  go_wp2_with fail
  refine (walAwake_in W).mono ?_
  rintro e w0 ⟨rfl, hb0⟩
  have HB0 := Lib.hid hb0
  clear hb0
  by_cases h1 : 40 < zs.length
  · have g1 : (40 : Int) < zs.length := by omega
    go_wp2_with fail
    go_ret
    exact ⟨rfl, HB0.out⟩
  have g1 : decide ((40 : Int) < zs.length) = false := by rw [decide_eq_false_iff_not]; omega
  by_cases h2 : 30 < ps.length
  · have g2 : (30 : Int) < ps.length := by omega
    go_wp2_with fail
    go_ret
    exact ⟨rfl, HB0.out⟩
  have g2 : decide ((30 : Int) < ps.length) = false := by rw [decide_eq_false_iff_not]; omega
  by_cases h3 : 20 < ag.length
  · have g3 : (20 : Int) < ag.length := by omega
    go_wp2_with fail
    go_ret
    exact ⟨rfl, HB0.out⟩
  have g3 : decide ((20 : Int) < ag.length) = false := by rw [decide_eq_false_iff_not]; omega
  go_wp2_with fail
  clear g1 g2 g3
  refine (dzNew 80 (by omega) _).mono ?_
  rintro e w1 ⟨gd, gb, rfl, hd1, hl1, hl2, hb1⟩
  have HB1 := Lib.hid (bnext HB0.out hb1)
  have HLO := Lib.hid (show W.heap.size ≤ gd ∧ W.heap.size ≤ gb from ⟨Nat.le_trans HB0.out.size hl1, Nat.le_trans HB0.out.size hl2⟩)
  clear hb1 hl1 hl2
  go_wp2_with fail
  refine (hd1.open_ 2 (by omega)).mono ?_
  rintro e w2 ⟨gl, rfl, hx2, hl3, hb2⟩
  have HB2 := Lib.hid (bnext HB1.out hb2)
  clear hd1 hb2 hl3
  go_wp2_with fail
  refine (lxFormat hx2).mono ?_
  rintro e w3 ⟨rfl, hx3, hc3⟩
  have HB3 := Lib.hid (Chg.go HB2.out hc3 (fun k hk => by rcases hk with rfl | rfl; exact HLO.out.1; exact HLO.out.2) HB2.out.size)
  have HX3 := Lib.hid hx3
  have HA3 := Lib.hid (show Alive (dz.put 2 (logB [])) from dz_alive.put _ _)
  have HH3 := Lib.hid (show (dz.put 2 (logB [])).D 2 = logB [] from by rw [dz_alive.at]; unfold setBlk; rw [if_pos rfl])
  clear hx2 hc3 hx3
  go_wp2_with fail
  go_loopw [63] (fun r wx => ∃ (i : Nat) (s : DSt), i ≤ zs.length ∧ r = .int .i64 i ∧ LXs wx gd gb gl 80 2 s ∧ Alive s ∧ s.D 2 = logB [] ∧ Below W.heap.size W wx) (fun r _ => zs.length - (intOf r).toNat)
  case atStart => exact ⟨0, _, by omega, rfl, HX3.out, HA3.out, HH3.out, HB3.out⟩
  case round =>
    obtain ⟨i, s, hi, rfl, hx, hal, hh, hb⟩ := hrel
    have HX := Lib.hid hx
    have HAL := Lib.hid hal
    have HH := Lib.hid hh
    have HB := Lib.hid hb
    clear hx hal hh hb
    by_cases hil : i < zs.length
    · have g1 : (i : Int) < zs.length := by omega
      obtain ⟨gz, off, z, hA, hz, hcz⟩ := HZS.out.u8At i hil
      subst hA
      have c1 := hcz wr HB.out
      obtain ⟨q, hq⟩ : ∃ q : Nat, q = 33 + i := ⟨_, rfl⟩
      have k3 : (33 : Int) + (i : Int) = (q : Int) := by omega
      have hq80 : q < 80 ∧ 33 ≤ q := by omega
      obtain ⟨hq8, hq3⟩ := hq80
      have k4 : IntKind.i64.wrap (q : Int) = q := by simp [IntKind.wrap, IntKind.bits, IntKind.signed]; omega
      clear hq hcz
      go_wp2_with fail
      refine (lawBlock_in z hz _).mono ?_
      rintro e w4 ⟨rfl, hb4⟩
      have HX4 := Lib.hid (HX.out.keep hb4)
      have HB4 := Lib.hid (bnext HB.out hb4)
      clear hb4
      go_wp2_with fail
      refine (dxPut HX4.out.dxs q hq8 (fun a => xor_le z a hz)).mono ?_
      rintro e w5 ⟨rfl, hd5, hc5⟩
      have HX5 := Lib.hid (HX4.out.setD hc5 hd5)
      have HB5 := Lib.hid (Chg.go HB4.out hc5 (fun k hk => by rcases hk with rfl | rfl; exact HLO.out.1; exact HLO.out.2) HB4.out.size)
      have HAL5 := Lib.hid (HAL.out.put q (fun a => z ^^^ (a % 64)))
      have HH5 := Lib.hid (show (s.put q (fun a => z ^^^ (a % 64))).D 2 = logB [] from by
        rw [HAL.out.at]
        unfold setBlk
        rw [if_neg (by omega)]
        exact HH.out)
      clear hd5 hc5
      go_wp2_with fail
      go_roundw
      case rel => exact ⟨i + 1, _, by omega, by go_num, HX5.out, HAL5.out, HH5.out, HB5.out⟩
      case measure => simp [intOf]; omega
    · obtain rfl : i = zs.length := by omega
      clear HX3 HA3 HH3 HB3
      go_wp2_with fail
      refine (dxImage HX.out.dxs).mono ?_
      rintro e w4 ⟨⟨v, rfl, hown⟩, hb4⟩
      obtain ⟨g7, c7, hv7, hg7, hp7⟩ := PgAt.ofOwn hown (by omega)
      subst hv7
      have HX4 := Lib.hid (HX.out.keep hb4)
      have HB4 := Lib.hid (bnext HB.out hb4)
      have HP4 := Lib.hid hp7
      have HG7 := Lib.hid (show W.heap.size ≤ g7 ∧ (g7 ≠ gd ∧ g7 ≠ gb ∧ g7 ≠ gl) from by have h1 := HX.out.toLX.lt; have h2 := HB.out.size; omega)
      clear hown hb4 hg7 hp7
      go_wp2_with fail
      refine HX4.out.begin_.mono ?_
      rintro e w5 ⟨gt, gm, rfl, ht5, hl5, hl6, hb5⟩
      have HB5 := Lib.hid (bnext HB4.out hb5)
      have HP5 := Lib.hid (HP4.out.keep hb5)
      have HL2 := Lib.hid (show (W.heap.size ≤ gt ∧ W.heap.size ≤ gm) ∧ g7 ≠ gt ∧ g7 ≠ gm from by have h1 := HB4.out.size; have h2 := HP4.out.lt; omega)
      have HT5 := Lib.hid ht5
      clear hb5 hl5 hl6 ht5
      go_wp2_with fail
      refine (dxImage HT5.out.lxs.dxs).mono ?_
      rintro e w6 ⟨⟨v2, rfl, hown⟩, hb6⟩
      obtain ⟨g9, c9, hv9, hg9, hp9⟩ := PgAt.ofOwn hown (by omega)
      subst hv9
      have HT6 := Lib.hid (HT5.out.keep hb6)
      have HB6 := Lib.hid (bnext HB5.out hb6)
      have HP6 := Lib.hid (HP5.out.keep hb6)
      have HI6 := Lib.hid hp9
      have HG9 := Lib.hid (show W.heap.size ≤ g9 ∧ (g9 ≠ gd ∧ g9 ≠ gb ∧ g9 ≠ gl ∧ g9 ≠ gt ∧ g9 ≠ gm) ∧ g9 ≠ g7 from by have h1 := HT5.out.toTX.lt; have h2 := HB5.out.size; have h3 := HP5.out.lt; omega)
      have HNC := Lib.hid (show ¬ cset gd gb gt gm g7 ∧ ¬ cset gd gb gt gm g9 from by
        have h1 := HG7.out; have h2 := HL2.out; have h3 := HG9.out
        unfold cset dset
        omega)
      clear hown hb6 hg9 hp9 HX4 HB4 HP4 HB5 HP5 HT5
      go_wp2_with fail
      go_loopw [83] (fun r wx => ∃ (i : Nat) (F : Int → Option (Nat → Nat)), i ≤ ps.length ∧ r = .int .i64 i ∧ TXs wx gd gb gl gt gm 80 2 F 0 s ∧ PgAt wx g7 80 c7 s.D ∧ PgAt wx g9 80 c9 (viewB F s.D) ∧ KFew F i ∧ Below W.heap.size W wx) (fun r _ => ps.length - (intOf r).toNat)
      case atStart => exact ⟨0, _, by omega, rfl, HT6.out, HP6.out, HI6.out, ⟨⟨[], rfl, fun a ha => absurd rfl ha⟩, fun a ha => absurd rfl ha⟩, HB6.out⟩
      case round =>
        obtain ⟨i, F, hi, rfl, ht, hp, hj, hkf, hb⟩ := hrel
        have HT := Lib.hid ht
        have HP := Lib.hid hp
        have HJ := Lib.hid hj
        have HKF := Lib.hid hkf
        have HB := Lib.hid hb
        clear ht hp hj hkf hb
        by_cases hip : i < ps.length
        · have g1 : (i : Int) < ps.length := by omega
          obtain ⟨gp, offp, p, hAp, hp255, hcp⟩ := HPS.out.u8At i hip
          subst hAp
          have c1 := hcp wr HB.out
          have k2 : IntKind.u8.wrap (i : Int) = i := by simp [IntKind.wrap, IntKind.bits, IntKind.signed]; omega
          clear hcp
          go_upto_if 93 with fail
          go_cut [22] (fun s22 wx => ∃ b : Nat, b ≤ 255 ∧ s22 = .int .u8 b ∧ wx = wr)
          case first =>
            by_cases hin : i < ns.length
            · have g2 : (i : Int) < ns.length := by omega
              obtain ⟨gn, offn, b, hAn, hb255, hcn⟩ := HNS.out.u8At i hin
              subst hAn
              have c2 := hcn wr HB.out
              clear hcn
              go_wp2_with fail
              go_meet
              exact ⟨b, hb255, rfl, rfl⟩
            · have g2 : decide ((i : Int) < ns.length) = false := by rw [decide_eq_false_iff_not]; omega
              go_wp2_with fail
              go_meet
              exact ⟨i, by omega, rfl, rfl⟩
          case rest =>
            obtain ⟨b, hb255, rfl, rfl⟩ := hcut
            obtain ⟨p2, hp2⟩ : ∃ p2, p2 = p % 47 := ⟨_, rfl⟩
            have m1 : (p : Int) % 47 = (p2 : Int) := by omega
            have m2 : (p : Int).tmod 47 = (p2 : Int) := by rw [Int.tmod_eq_emod_of_nonneg (by omega)]; omega
            obtain ⟨q, hq⟩ : ∃ q, q = 33 + p2 := ⟨_, rfl⟩
            have m3 : (33 : Int) + (p2 : Int) = (q : Int) := by omega
            have hq80 : q < 80 ∧ 33 ≤ q ∧ p2 < 47 := by omega
            obtain ⟨hq8, hq3, hq4⟩ := hq80
            have m4 : IntKind.u8.wrap (p2 : Int) = p2 := by simp [IntKind.wrap, IntKind.bits, IntKind.signed]; omega
            have m5 : IntKind.i64.wrap (p2 : Int) = p2 := by simp [IntKind.wrap, IntKind.bits, IntKind.signed]; omega
            have m6 : IntKind.i64.wrap (q : Int) = q := by simp [IntKind.wrap, IntKind.bits, IntKind.signed]; omega
            have m7 : (q : Int) < 80 := by omega
            clear hp2 hq c1
            go_at_K
            go_step
            go_wp2_with fail
            refine (lawBlock_in b hb255 _).mono ?_
            rintro e w7 ⟨rfl, hb7⟩
            have HT7 := Lib.hid (HT.out.keep hb7)
            have HB7 := Lib.hid (bnext HB.out hb7)
            have HP7 := Lib.hid (HP.out.keep hb7)
            have HJ7 := Lib.hid (HJ.out.keep hb7)
            clear hb7
            go_wp2_with fail
            refine (HT7.out.put_ q hq8 (by omega) (.inr (by have := HKF.out.le HT7.out; omega)) (fun a => xor_le b a hb255)).mono ?_
            rintro e w8 ⟨rfl, ht8, hc8⟩
            have HT8 := Lib.hid ht8
            have HB8 := Lib.hid (Chg.go HB7.out hc8 (fun k hk => by subst hk; exact HL2.out.1.2) HB7.out.size)
            have HP8 := Lib.hid (HP7.out.chg hc8 (fun e => HL2.out.2.2 e))
            have HJ8 := Lib.hid (HJ7.out.chg hc8 (fun e => HG9.out.2.1.2.2.2.2 e))
            clear ht8 hc8
            go_wp2_with fail
            refine (lawBlock_in b hb255 _).mono ?_
            rintro e w9 ⟨rfl, hb9⟩
            have HT9 := Lib.hid (HT8.out.keep hb9)
            have HB9 := Lib.hid (bnext HB8.out hb9)
            have HP9 := Lib.hid (HP8.out.keep hb9)
            have HJ9 := Lib.hid (HJ8.out.keep hb9)
            clear hb9
            go_wp2_with (first
              | (refine wpList_pg_store (g := g9) (n := 80) (cap := c9) (V := viewB F s.D) rfl (.tmp 112) (.tmp 111) rfl rfl q (fun a => b ^^^ (a % 64)) (by go_simp; try rfl) (by go_simp; try rfl) HJ9.out hq8 ?_; intro w10 hj10 o10))
            rw [viewB_next] at hj10
            have HJ10 := Lib.hid hj10
            have HP10 := Lib.hid (HP9.out.one o10 HG9.out.2.2.symm)
            have HT10 := Lib.hid (show TXs w10 gd gb gl gt gm 80 2 (putF F (q : Int) (fun a => b ^^^ (a % 64))) 0 s from
              ⟨HT9.out.toTX.one o10 ⟨HG9.out.2.1.1, HG9.out.2.1.2.1, HG9.out.2.1.2.2.1, HG9.out.2.1.2.2.2.1, HG9.out.2.1.2.2.2.2⟩, cell_keep HT9.out.cn (o10.block _ HT9.out.lx.dx.lt.1 (fun e => HG9.out.2.1.1 (by cases e; rfl)))⟩)
            have HB10 := Lib.hid (bone HB9.out o10 HG9.out.1 HB9.out.size)
            have HKF10 := Lib.hid (HKF.out.put q hq3 (fun a => b ^^^ (a % 64)))
            clear hj10 o10
            go_wp2_with fail
            go_roundw
            case rel =>
              first
                | exact ⟨i + 1, _, by omega, by go_num, HT10.out, HP10.out, HJ10.out, HKF10.out, HB10.out⟩
                | (repeat apply Exists.intro
                   exact ⟨⟨i + 1, _, by omega, by go_num, HT10.out, HP10.out, HJ10.out, HKF10.out, HB10.out⟩, rfl⟩)
            case measure => simp [intOf]; omega
        · obtain rfl : i = ps.length := by omega
          clear HT6 HP6 HI6 HB6
          go_wp2_with fail
          refine (dxArm HT.out.lxs.dxs am (by omega)).mono ?_
          rintro e w7 ⟨rfl, hd7, hc7⟩
          obtain ⟨sa, hsa⟩ : ∃ sa : DSt, sa = ⟨s.D, am, s.dead, s.c⟩ := ⟨_, rfl⟩
          rw [← hsa] at hd7
          have HT7 := Lib.hid (HT.out.setD hc7 hd7)
          have HSD := Lib.hid (show sa.D = s.D from by rw [hsa])
          have HB7 := Lib.hid (Chg.go HB.out hc7 (fun k hk => by rcases hk with rfl | rfl; exact HLO.out.1; exact HLO.out.2) HB.out.size)
          have HP7 := Lib.hid (HP.out.chg hc7 (fun e => HNC.out.1 (.inl e)))
          have HJ7 := Lib.hid (HJ.out.chg hc7 (fun e => HNC.out.2 (.inl e)))
          have HU8 := Lib.hid (show (∀ k i, s.D k i ≤ 255) ∧ ∀ k i, viewB F s.D k i ≤ 255 from ⟨HT.out.lx.dx.u8, txView_u8 HT.out⟩)
          clear hd7 hc7 hsa
          go_wp2_with fail
          refine (txnCommit_ok HT7.out (by have := HKF.out.le HT7.out; omega)).mono ?_
          rintro e w8 ⟨L, hk, hlen, rfl, ht8, hc8⟩
          have HKO := Lib.hid hk
          have hOK : OkL 2 80 L := ⟨hk.nodup, fun k hk' => by
            have h1 := hk.yes k hk'
            cases hf : F (k : Nat) with
            | none => exact absurd hf h1
            | some f =>
              have h2 := HT7.out.ok _ f hf
              have h3 := HKF.out.lo _ h1
              omega, by have := HKF.out.le HT7.out; omega, by omega⟩
          have HOK := Lib.hid hOK
          have hcm := commit_ph (G := pageG F) hOK sa (D0 := s.D) (by rw [HSD.out]; exact ⟨HH.out, fun j _ => rfl⟩)
          obtain ⟨⟨t, ec, dr⟩, hR⟩ : ∃ R : DSt × Int × Bool, R = commit 2 (pageG F) L sa := ⟨_, rfl⟩
          rw [← hR] at ht8 hcm
          rw [← hR]
          have HCM := Lib.hid hcm
          have HX8 := Lib.hid ht8.lxs
          have HB8 := Lib.hid (Chg.go HB7.out hc8 (fun k hk => by rcases hk with (rfl | rfl) | rfl | rfl; exact HLO.out.1; exact HLO.out.2; exact HL2.out.1.2; exact HL2.out.1.1) HB7.out.size)
          have HP8 := Lib.hid (HP7.out.chg hc8 HNC.out.1)
          have HJ8 := Lib.hid (HJ7.out.chg hc8 HNC.out.2)
          clear hk hlen ht8 hc8 hOK hcm hR
          dsimp only at HX8 HCM ⊢
          go_wp2_with fail
          go_loopw [123] (fun r wx => ∃ (i : Nat) (t : DSt), i ≤ ag.length ∧ r = .int .i64 i ∧ LXs wx gd gb gl 80 2 t ∧ PgAt wx g7 80 c7 s.D ∧ PgAt wx g9 80 c9 (viewB F s.D) ∧ PhP 2 (pageG F) L s.D t.D ∧ (ec = 0 → OldP 2 (newD (pageG F) L s.D) t.D) ∧ Below W.heap.size W wx) (fun r _ => ag.length - (intOf r).toNat)
          case atStart => exact ⟨0, t, by omega, rfl, HX8.out, HP8.out, HJ8.out, HCM.out.1, HCM.out.2, HB8.out⟩
          case round =>
            obtain ⟨i, t2, hi, rfl, hx, hp, hj, hph, hnw, hb⟩ := hrel
            have HX := Lib.hid hx
            have HP := Lib.hid hp
            have HJ := Lib.hid hj
            have HPH := Lib.hid hph
            have HNW := Lib.hid hnw
            have HB := Lib.hid hb
            clear hx hp hj hph hnw hb
            by_cases hia : i < ag.length
            · have g1 : (i : Int) < ag.length := by omega
              obtain ⟨ga, offa, p, hAa, hp255, hca⟩ := HAG.out.u8At i hia
              subst hAa
              have c1 := hca wr HB.out
              obtain ⟨p2, hp2⟩ : ∃ p2, p2 = p % 40 := ⟨_, rfl⟩
              have m1 : (p : Int) % 40 = (p2 : Int) := by omega
              have m2 : (p : Int).tmod 40 = (p2 : Int) := by rw [Int.tmod_eq_emod_of_nonneg (by omega)]; omega
              have hp40 : p2 < 40 := by omega
              have m4 : IntKind.u8.wrap (p2 : Int) = p2 := by simp [IntKind.wrap, IntKind.bits, IntKind.signed]; omega
              have m5 : IntKind.i64.wrap (p2 : Int) = p2 := by simp [IntKind.wrap, IntKind.bits, IntKind.signed]; omega
              clear hca hp2
              go_wp2_with fail
              refine (dxWake HX.out.dxs).mono ?_
              rintro e w10 ⟨rfl, hd10, hc10⟩
              have HX10 := Lib.hid (HX.out.setD hc10 hd10)
              have HB10 := Lib.hid (Chg.go HB.out hc10 (fun k hk => by rcases hk with rfl | rfl; exact HLO.out.1; exact HLO.out.2) HB.out.size)
              have HP10 := Lib.hid (HP.out.chg hc10 (fun e => HNC.out.1 (.inl e)))
              have HJ10 := Lib.hid (HJ.out.chg hc10 (fun e => HNC.out.2 (.inl e)))
              clear hd10 hc10
              go_wp2_with fail
              refine (dxArm HX10.out.dxs p2 (by omega)).mono ?_
              rintro e w11 ⟨rfl, hd11, hc11⟩
              obtain ⟨t3, ht3⟩ : ∃ t3 : DSt, t3 = ⟨t2.D, p2, false, t2.c⟩ := ⟨_, rfl⟩
              have hd11' : DXs w11 gd gb 80 t3 := by rw [ht3]; exact hd11
              have HX11 := Lib.hid (HX10.out.setD hc11 hd11')
              have HB11 := Lib.hid (Chg.go HB10.out hc11 (fun k hk => by rcases hk with rfl | rfl; exact HLO.out.1; exact HLO.out.2) HB10.out.size)
              have HP11 := Lib.hid (HP10.out.chg hc11 (fun e => HNC.out.1 (.inl e)))
              have HJ11 := Lib.hid (HJ10.out.chg hc11 (fun e => HNC.out.2 (.inl e)))
              have HRP := Lib.hid (recov_ph HOK.out t3 (G := pageG F) (D0 := s.D) (by rw [ht3]; exact HPH.out))
              have HT3 := Lib.hid (show t3.D = t2.D from by rw [ht3])
              clear hd11 hd11' hc11 ht3
              go_wp2_with fail
              refine (walRecover HX11.out).mono ?_
              rintro e w12 ⟨rfl, hx12, hc12⟩
              have HX12 := Lib.hid hx12
              have HB12 := Lib.hid (Chg.go HB11.out hc12 (fun k hk => by rcases hk with rfl | rfl; exact HLO.out.1; exact HLO.out.2) HB11.out.size)
              have HP12 := Lib.hid (HP11.out.chg hc12 (fun e => HNC.out.1 (.inl e)))
              have HJ12 := Lib.hid (HJ11.out.chg hc12 (fun e => HNC.out.2 (.inl e)))
              have HNW12 := Lib.hid (show ec = 0 → OldP 2 (newD (pageG F) L s.D) (recov 2 80 t3).1.D from fun h => HRP.out.2.1 (by rw [HT3.out]; exact HNW.out h))
              clear hx12 hc12
              go_wp2_with fail
              go_roundw
              case rel => exact ⟨i + 1, _, by omega, by go_num, HX12.out, HP12.out, HJ12.out, HRP.out.1, HNW12.out, HB12.out⟩
              case measure => simp [intOf]; omega
            · obtain rfl : i = ag.length := by omega
              clear HX8 HP8 HJ8 HB8 HCM HT7 HB7 HP7 HJ7
              go_wp2_with fail
              refine (dxWake HX.out.dxs).mono ?_
              rintro e w10 ⟨rfl, hd10, hc10⟩
              obtain ⟨t3, ht3⟩ : ∃ t3 : DSt, t3 = ⟨t2.D, -1, false, t2.c⟩ := ⟨_, rfl⟩
              rw [← ht3] at hd10
              have HX10 := Lib.hid (HX.out.setD hc10 hd10)
              have HB10 := Lib.hid (Chg.go HB.out hc10 (fun k hk => by rcases hk with rfl | rfl; exact HLO.out.1; exact HLO.out.2) HB.out.size)
              have HP10 := Lib.hid (HP.out.chg hc10 (fun e => HNC.out.1 (.inl e)))
              have HJ10 := Lib.hid (HJ.out.chg hc10 (fun e => HNC.out.2 (.inl e)))
              have hrp := recov_ph HOK.out t3 (G := pageG F) (D0 := s.D) (by rw [ht3]; exact HPH.out)
              have HNW3 := Lib.hid (show ec = 0 → OldP 2 (newD (pageG F) L s.D) t3.D from by rw [ht3]; exact HNW.out)
              have hal3 : Alive t3 := by rw [ht3]; exact ⟨rfl, rfl⟩
              clear hd10 hc10 ht3
              have hrv := walRecover HX10.out
              obtain ⟨⟨t4, N4, C4⟩, hR⟩ : ∃ R : DSt × Nat × Int, R = recov 2 80 t3 := ⟨_, rfl⟩
              rw [← hR] at hrv hrp
              dsimp only at hrv hrp
              obtain ⟨hp1, hp2, hp3⟩ := hrp
              obtain ⟨hq1, hq2, hq3⟩ := hp3 hal3
              subst hq1
              have HNW4 := Lib.hid (show ec = 0 → OldP 2 (newD (pageG F) L s.D) t4.D from fun h => hp2 (HNW3.out h))
              have HEND := Lib.hid (whole_end HKO.out HKF.out hq3)
              have HR4 := Lib.hid (show recov 2 80 t4 = (t4, 0, 0) from by
                rcases hq3 with h | h
                · exact recov_old t4 (by omega) h
                · exact recov_old t4 (by omega) h)
              have HNE := Lib.hid (show ec = 0 → ∀ j, t4.D (33 + j) = viewB F s.D (33 + j) from fun h j => by
                have h2 := (HNW4.out h).2 (33 + j) (by omega)
                rw [newD_view HKO.out] at h2
                exact h2)
              clear hR hp1 hp2 hp3 hq2 hq3 hal3
              go_wp2_with fail
              refine hrv.mono ?_
              rintro e w11 ⟨rfl, hx11, hc11⟩
              clear hrv
              have HX11 := Lib.hid hx11
              have HB11 := Lib.hid (Chg.go HB10.out hc11 (fun k hk => by rcases hk with rfl | rfl; exact HLO.out.1; exact HLO.out.2) HB10.out.size)
              have HP11 := Lib.hid (HP10.out.chg hc11 (fun e => HNC.out.1 (.inl e)))
              have HJ11 := Lib.hid (HJ10.out.chg hc11 (fun e => HNC.out.2 (.inl e)))
              clear hx11 hc11
              go_wp2_with fail
              refine (dxImage HX11.out.dxs).mono ?_
              rintro e w12 ⟨⟨vx, rfl, hown⟩, hb12⟩
              obtain ⟨gx, cx, hvx, hgx, hpx⟩ := PgAt.ofOwn hown (by omega)
              subst hvx
              have HX12 := Lib.hid (HX11.out.keep hb12)
              have HB12 := Lib.hid (bnext HB11.out hb12)
              have HP12 := Lib.hid (HP11.out.keep hb12)
              have HJ12 := Lib.hid (HJ11.out.keep hb12)
              have HQ12 := Lib.hid hpx
              have HGX := Lib.hid (show ¬ dset gd gb gx from fun e => by have := HX11.out.toLX.lt; rcases e with e | e <;> omega)
              clear hown hb12 hgx hpx
              go_wp2_with fail
              have hrv := walRecover HX12.out
              rw [HR4.out] at hrv
              dsimp only at hrv
              refine hrv.mono ?_
              rintro e w13 ⟨rfl, hx13, hc13⟩
              clear hrv
              have HX13 := Lib.hid hx13
              have HB13 := Lib.hid (Chg.go HB12.out hc13 (fun k hk => by rcases hk with rfl | rfl; exact HLO.out.1; exact HLO.out.2) HB12.out.size)
              have HP13 := Lib.hid (HP12.out.chg hc13 (fun e => HNC.out.1 (.inl e)))
              have HJ13 := Lib.hid (HJ12.out.chg hc13 (fun e => HNC.out.2 (.inl e)))
              have HQ13 := Lib.hid (HQ12.out.chg hc13 HGX.out)
              clear hx13 hc13
              go_wp2_with fail
              refine (dxImage HX13.out.dxs).mono ?_
              rintro e w14 ⟨⟨vy, rfl, hown⟩, hb14⟩
              obtain ⟨gy, cy, hvy, hgy, hpy⟩ := PgAt.ofOwn hown (by omega)
              subst hvy
              have HB14 := Lib.hid (bnext HB13.out hb14)
              have HP14 := Lib.hid (HP13.out.keep hb14)
              have HJ14 := Lib.hid (HJ13.out.keep hb14)
              have HQ14 := Lib.hid (HQ13.out.keep hb14)
              have HY14 := Lib.hid hpy
              have HV8 := Lib.hid (show ∀ k i, t4.D k i ≤ 255 from HX13.out.dx.u8)
              obtain ⟨n0, hn0⟩ : ∃ n0, n0 = 80 := ⟨_, rfl⟩
              have b7 : 80 ≤ c7 := HP14.out.le
              have b9 : 80 ≤ c9 := HJ14.out.le
              have bx : 80 ≤ cx := HQ14.out.le
              have n7 : ¬ c7 = 33 := by omega
              have l7 : ¬ (c7 : Int) < 2 := by omega
              have n9 : ¬ c9 = 33 := by omega
              have l9 : ¬ (c9 : Int) < 2 := by omega
              have nx : ¬ cx = 33 := by omega
              have lx : ¬ (cx : Int) < 2 := by omega
              have m7 := HP14.out.cap
              have m9 := HJ14.out.cap
              have mx := HQ14.out.cap
              clear hown hb14 hgy hpy hn0 HX13 HB13 HP13 HJ13 HQ13 HX12 HB12 HP12 HJ12 HQ12 HX11 HB11 HP11 HJ11 HX10 HB10 HP10 HJ10
              go_upto_region 41 with fail
              clear HP HJ HB
              have HBW := HB14
              clear HB14
              have HQ := HQ14
              clear HQ14
              have HP := HP14
              clear HP14
              have HJ := HJ14
              clear HJ14
              have HY := HY14
              clear HY14
              have hS : Below w14.heap.size w14 (World.drew w14) := drewb w14
              refine wp_region_held (S := fun w' => Below w14.heap.size w14 w') (by kernel_rfl) ?_
              change wpAnyH _ _ _ _ _ _ _ _ (World.drew _)
              refine takeH 0 (.slice (some ⟨gx, 0, none⟩) 80 cx) (some 153) rfl rfl (by kernel_rfl) (by kernel_rfl) (by kernel_rfl) (fun _ _ _ h => h) (.inl ⟨by kernel_rfl, fun w _ => by go_simp⟩) hS ?_
              refine takeH 1 (.slice (some ⟨gx, 2112, none⟩) 47 (cx - 33)) (some 154) rfl rfl (by kernel_rfl) (by kernel_rfl) (by kernel_rfl) (fun _ _ _ h => h) (.inl ⟨by kernel_rfl, fun w _ => by go_simp⟩) hS ?_
              refine takeH 2 (.slice (some ⟨g7, 0, none⟩) 80 c7) (some 155) rfl rfl (by kernel_rfl) (by kernel_rfl) (by kernel_rfl) (fun _ _ _ h => h) (.inl ⟨by kernel_rfl, fun w _ => by go_simp⟩) hS ?_
              refine takeH 3 (.slice (some ⟨g7, 2112, none⟩) 47 (c7 - 33)) (some 156) rfl rfl (by kernel_rfl) (by kernel_rfl) (by kernel_rfl) (fun _ _ _ h => h) (.inl ⟨by kernel_rfl, fun w _ => by go_simp⟩) hS ?_
              go_simp
              refine callH 4 rfl (by kernel_rfl) (by kernel_rfl) (some 157) rfl 50 #[.slice (some ⟨gx, 2112, none⟩) 47 (cx - 33), .slice (some ⟨g7, 2112, none⟩) 47 (c7 - 33)] ?hrun ((same_pages (show SR (World.drew w14) (.slice (some ⟨gx, 2112, none⟩) 47 (cx - 33)) 47 64 _ from (HQ.out.keep hS).from 33 (by omega)) (show SR (World.drew w14) (.slice (some ⟨g7, 2112, none⟩) 47 (c7 - 33)) 47 64 _ from (HP.out.keep hS).from 33 (by omega)) (fun _ _ => HV8.out _ _) (fun _ _ => HU8.out.1 _ _) (by omega) (by omega)).mono ?_)
              case hrun => go_simp; try rfl
              rintro e w14' ⟨b1, rfl, hbb1, hbl⟩
              have hS2 : Below w14.heap.size w14 w14' := bnext hS hbl
              refine ⟨_, rfl, hS2, ?_⟩
              go_simp
              have HBb1 := Lib.hid hbb1
              have HBW2 := Lib.hid (bnext HBW.out hS2)
              have HQ2 := Lib.hid (HQ.out.keep hS2)
              have HP2 := Lib.hid (HP.out.keep hS2)
              have HJ2 := Lib.hid (HJ.out.keep hS2)
              have HY2 := Lib.hid (HY.out.keep hS2)
              clear hbb1 hbl
              refine takeH 5 (.bool b1) (some 33) rfl rfl (by kernel_rfl) (by kernel_rfl) (by kernel_rfl) (fun _ _ _ h => h) (.inl ⟨by kernel_rfl, fun w _ => by go_simp⟩) hS2 ?_
              refine wpAnyH_done (by kernel_rfl) ?_ _
              go_simp
              clear hS hS2
              clear HBW HQ HP HJ HY
              have HBW := HBW2
              clear HBW2
              have HQ := HQ2
              clear HQ2
              have HP := HP2
              clear HP2
              have HJ := HJ2
              clear HJ2
              have HY := HY2
              clear HY2
              go_upto_region 42 with fail
              have hS : Below w14'.heap.size w14' (World.drew w14') := drewb w14'
              refine wp_region_held (S := fun w' => Below w14'.heap.size w14' w') (by kernel_rfl) ?_
              change wpAnyH _ _ _ _ _ _ _ _ (World.drew _)
              refine takeH 0 (.slice (some ⟨gx, 0, none⟩) 80 cx) (some 158) rfl rfl (by kernel_rfl) (by kernel_rfl) (by kernel_rfl) (fun _ _ _ h => h) (.inl ⟨by kernel_rfl, fun w _ => by go_simp⟩) hS ?_
              refine takeH 1 (.slice (some ⟨gx, 2112, none⟩) 47 (cx - 33)) (some 159) rfl rfl (by kernel_rfl) (by kernel_rfl) (by kernel_rfl) (fun _ _ _ h => h) (.inl ⟨by kernel_rfl, fun w _ => by go_simp⟩) hS ?_
              refine takeH 2 (.slice (some ⟨g9, 0, none⟩) 80 c9) (some 160) rfl rfl (by kernel_rfl) (by kernel_rfl) (by kernel_rfl) (fun _ _ _ h => h) (.inl ⟨by kernel_rfl, fun w _ => by go_simp⟩) hS ?_
              refine takeH 3 (.slice (some ⟨g9, 2112, none⟩) 47 (c9 - 33)) (some 161) rfl rfl (by kernel_rfl) (by kernel_rfl) (by kernel_rfl) (fun _ _ _ h => h) (.inl ⟨by kernel_rfl, fun w _ => by go_simp⟩) hS ?_
              go_simp
              refine callH 4 rfl (by kernel_rfl) (by kernel_rfl) (some 162) rfl 50 #[.slice (some ⟨gx, 2112, none⟩) 47 (cx - 33), .slice (some ⟨g9, 2112, none⟩) 47 (c9 - 33)] ?hrun ((same_pages (show SR (World.drew w14') (.slice (some ⟨gx, 2112, none⟩) 47 (cx - 33)) 47 64 _ from (HQ.out.keep hS).from 33 (by omega)) (show SR (World.drew w14') (.slice (some ⟨g9, 2112, none⟩) 47 (c9 - 33)) 47 64 _ from (HJ.out.keep hS).from 33 (by omega)) (fun _ _ => HV8.out _ _) (fun _ _ => HU8.out.2 _ _) (by omega) (by omega)).mono ?_)
              case hrun => go_simp; try rfl
              rintro e w14'' ⟨b2, rfl, hbb2, hbl⟩
              have hS2 : Below w14'.heap.size w14' w14'' := bnext hS hbl
              refine ⟨_, rfl, hS2, ?_⟩
              go_simp
              have HBb2 := Lib.hid hbb2
              have HBW2 := Lib.hid (bnext HBW.out hS2)
              have HQ2 := Lib.hid (HQ.out.keep hS2)
              have HP2 := Lib.hid (HP.out.keep hS2)
              have HJ2 := Lib.hid (HJ.out.keep hS2)
              have HY2 := Lib.hid (HY.out.keep hS2)
              clear hbb2 hbl
              refine takeH 5 (.bool b2) (some 34) rfl rfl (by kernel_rfl) (by kernel_rfl) (by kernel_rfl) (fun _ _ _ h => h) (.inl ⟨by kernel_rfl, fun w _ => by go_simp⟩) hS2 ?_
              refine wpAnyH_done (by kernel_rfl) ?_ _
              go_simp
              clear hS hS2
              clear HBW HQ HP HJ HY
              have HBW := HBW2
              clear HBW2
              have HQ := HQ2
              clear HQ2
              have HP := HP2
              clear HP2
              have HJ := HJ2
              clear HJ2
              have HY := HY2
              clear HY2
              go_upto_region 43 with fail
              have HXW := Lib.hid (show pgsV 2 t4.D = pgsV 2 s.D from congrArg Array.toList (rowArr_congr fun i hi => by
                unfold diskC
                rw [HEND.out.2 (i / 64) (by omega)]))
              have HF1 := Lib.hid (show b1 = true ∨ b2 = true from by
                rcases HEND.out.1 with h | h
                · exact .inl (HBb1.out.2 ⟨rfl, fun j _ i _ => by show t4.D (33 + j) i = s.D (33 + j) i; rw [h j]⟩)
                · exact .inr (HBb2.out.2 ⟨rfl, fun j _ i _ => by show t4.D (33 + j) i = viewB F s.D (33 + j) i; rw [h j]⟩))
              have HF2 := Lib.hid (show ec = 0 → b2 = true from fun h0 => HBb2.out.2 ⟨rfl, fun j _ i _ => by show t4.D (33 + j) i = viewB F s.D (33 + j) i; rw [HNE.out h0 j]⟩)
              clear HNE HEND HBb1 HBb2
              obtain ⟨wz, hwz⟩ : ∃ wz, wz = w14'' := ⟨_, rfl⟩
              rw [← hwz] at HBW HQ HP HJ HY ⊢
              clear hwz
              by_cases hec : ec = 0
              · obtain rfl := HF2.out hec
                have hne : (ec != 0) = false := by rw [bne_eq_false_iff_eq]; exact hec
                clear hec HF1 HF2
                cases b1 with
                | true =>
                  have hS : Below wz.heap.size wz (World.drew wz) := drewb wz
                  refine wp_region_held (S := fun w' => Below wz.heap.size wz w') (by kernel_rfl) ?_
                  change wpAnyH _ _ _ _ _ _ _ _ (World.drew _)
                  refine takeH 0 (.int .i64 0) (some 163) rfl rfl (by kernel_rfl) (by kernel_rfl) (by kernel_rfl) (fun _ _ _ h => h) (.inl ⟨by kernel_rfl, fun w _ => by go_simp⟩) hS ?_
                  refine takeH 1 (.bool true) (some 164) rfl rfl (by kernel_rfl) (by kernel_rfl) (by kernel_rfl) (fun _ _ _ h => h) (.inl ⟨by kernel_rfl, fun w _ => by go_simp⟩) hS ?_
                  refine takeH 2 (.bool true) (some 165) rfl rfl (by kernel_rfl) (by kernel_rfl) (by kernel_rfl) (fun _ _ _ h => h) (.inl ⟨by kernel_rfl, fun w _ => by go_simp⟩) hS ?_
                  refine takeH 3 (.int .i64 0) (some 166) rfl rfl (by kernel_rfl) (by kernel_rfl) (by kernel_rfl) (fun _ _ _ h => h) (.inl ⟨by kernel_rfl, fun w _ => by go_simp⟩) hS ?_
                  refine takeH 4 (.bool true) (some 167) rfl rfl (by kernel_rfl) (by kernel_rfl) (by kernel_rfl) (fun _ _ _ h => h) (.inl ⟨by kernel_rfl, fun w _ => by go_simp⟩) hS ?_
                  refine takeH 5 (.bool true) (some 168) rfl rfl (by kernel_rfl) (by kernel_rfl) (by kernel_rfl) (fun _ _ _ h => h) (.inl ⟨by kernel_rfl, fun w _ => by go_simp⟩) hS ?_
                  refine takeH 6 (.bool true) (some 169) rfl rfl (by kernel_rfl) (by kernel_rfl) (by kernel_rfl) (fun _ _ _ h => h) (.inl ⟨by kernel_rfl, fun w _ => by go_simp⟩) hS ?_
                  refine takeH 7 (.slice (some ⟨gx, 0, none⟩) 80 cx) (some 170) rfl rfl (by kernel_rfl) (by kernel_rfl) (by kernel_rfl) (fun _ _ _ h => h) (.inl ⟨by kernel_rfl, fun w _ => by go_simp⟩) hS ?_
                  refine takeH 8 (.slice (some ⟨gy, 0, none⟩) 80 cy) (some 171) rfl rfl (by kernel_rfl) (by kernel_rfl) (by kernel_rfl) (fun _ _ _ h => h) (.inl ⟨by kernel_rfl, fun w _ => by go_simp⟩) hS ?_
                  go_simp
                  refine callH 9 rfl (by kernel_rfl) (by kernel_rfl) (some 172) rfl 50 #[.slice (some ⟨gx, 0, none⟩) 80 cx, .slice (some ⟨gy, 0, none⟩) 80 cy] ?hrun ((same_true (HQ.out.keep hS).sr (HY.out.keep hS).sr (pgsV_u8 _ _ HV8.out) (by omega)).mono ?_)
                  case hrun => go_simp; try rfl
                  rintro e wA ⟨rfl, hbA⟩
                  have hSA : Below wz.heap.size wz wA := bnext hS hbA
                  refine ⟨_, rfl, hSA, ?_⟩
                  go_simp
                  clear hbA
                  refine takeH 10 (.bool true) (some 173) rfl rfl (by kernel_rfl) (by kernel_rfl) (by kernel_rfl) (fun _ _ _ h => h) (.inl ⟨by kernel_rfl, fun w _ => by go_simp⟩) hSA ?_
                  refine takeH 11 (.bool true) (some 174) rfl rfl (by kernel_rfl) (by kernel_rfl) (by kernel_rfl) (fun _ _ _ h => h) (.inl ⟨by kernel_rfl, fun w _ => by go_simp⟩) hSA ?_
                  refine takeH 12 (.bool true) (some 175) rfl rfl (by kernel_rfl) (by kernel_rfl) (by kernel_rfl) (fun _ _ _ h => h) (.inl ⟨by kernel_rfl, fun w _ => by go_simp⟩) hSA ?_
                  refine takeH 13 (.bool true) (some 176) rfl rfl (by kernel_rfl) (by kernel_rfl) (by kernel_rfl) (fun _ _ _ h => h) (.inl ⟨by kernel_rfl, fun w _ => by go_simp⟩) hSA ?_
                  refine takeH 14 (undef) (some 177) rfl rfl (by kernel_rfl) (by kernel_rfl) (by kernel_rfl) (fun _ _ _ h => h) (.inr ⟨by kernel_rfl, rfl⟩) hSA ?_
                  refine takeH 15 (.bool true) (some 178) rfl rfl (by kernel_rfl) (by kernel_rfl) (by kernel_rfl) (fun _ _ _ h => h) (.inl ⟨by kernel_rfl, fun w _ => by go_simp⟩) hSA ?_
                  refine takeH 16 (.bool true) (some 179) rfl rfl (by kernel_rfl) (by kernel_rfl) (by kernel_rfl) (fun _ _ _ h => h) (.inl ⟨by kernel_rfl, fun w _ => by go_simp⟩) hSA ?_
                  refine takeH 17 (.bool true) (some 180) rfl rfl (by kernel_rfl) (by kernel_rfl) (by kernel_rfl) (fun _ _ _ h => h) (.inl ⟨by kernel_rfl, fun w _ => by go_simp⟩) hSA ?_
                  refine takeH 18 (.int .i64 ec) (some 181) rfl rfl (by kernel_rfl) (by kernel_rfl) (by kernel_rfl) (fun _ _ _ h => h) (.inl ⟨by kernel_rfl, fun w _ => by go_simp⟩) hSA ?_
                  refine takeH 19 (.bool false) (some 182) rfl rfl (by kernel_rfl) (by kernel_rfl) (by kernel_rfl) (fun _ _ _ h => h) (.inl ⟨by kernel_rfl, fun w _ => by go_simp⟩) hSA ?_
                  refine takeH 20 (.bool false) (some 183) rfl rfl (by kernel_rfl) (by kernel_rfl) (by kernel_rfl) (fun _ _ _ h => h) (.inl ⟨by kernel_rfl, fun w _ => by go_simp⟩) hSA ?_
                  refine takeH 21 (.bool true) (some 184) rfl rfl (by kernel_rfl) (by kernel_rfl) (by kernel_rfl) (fun _ _ _ h => h) (.inl ⟨by kernel_rfl, fun w _ => by go_simp⟩) hSA ?_
                  refine takeH 22 (.bool true) (some 185) rfl rfl (by kernel_rfl) (by kernel_rfl) (by kernel_rfl) (fun _ _ _ h => h) (.inl ⟨by kernel_rfl, fun w _ => by go_simp⟩) hSA ?_
                  refine takeH 23 (.bool true) (some 186) rfl rfl (by kernel_rfl) (by kernel_rfl) (by kernel_rfl) (fun _ _ _ h => h) (.inl ⟨by kernel_rfl, fun w _ => by go_simp⟩) hSA ?_
                  refine takeH 24 (.bool true) (some 187) rfl rfl (by kernel_rfl) (by kernel_rfl) (by kernel_rfl) (fun _ _ _ h => h) (.inl ⟨by kernel_rfl, fun w _ => by go_simp⟩) hSA ?_
                  refine takeH 25 (.slice (some ⟨gx, 0, none⟩) 80 cx) (some 188) rfl rfl (by kernel_rfl) (by kernel_rfl) (by kernel_rfl) (fun _ _ _ h => h) (.inl ⟨by kernel_rfl, fun w _ => by go_simp⟩) hSA ?_
                  refine takeH 26 (.slice (some ⟨gx, 0, none⟩) 2 cx) (some 189) rfl rfl (by kernel_rfl) (by kernel_rfl) (by kernel_rfl) (fun _ _ _ h => h) (.inl ⟨by kernel_rfl, fun w _ => by go_simp⟩) hSA ?_
                  refine takeH 27 (.slice (some ⟨g7, 0, none⟩) 80 c7) (some 190) rfl rfl (by kernel_rfl) (by kernel_rfl) (by kernel_rfl) (fun _ _ _ h => h) (.inl ⟨by kernel_rfl, fun w _ => by go_simp⟩) hSA ?_
                  refine takeH 28 (.slice (some ⟨g7, 0, none⟩) 2 c7) (some 191) rfl rfl (by kernel_rfl) (by kernel_rfl) (by kernel_rfl) (fun _ _ _ h => h) (.inl ⟨by kernel_rfl, fun w _ => by go_simp⟩) hSA ?_
                  go_simp
                  refine callH 29 rfl (by kernel_rfl) (by kernel_rfl) (some 192) rfl 50 #[.slice (some ⟨gx, 0, none⟩) 2 cx, .slice (some ⟨g7, 0, none⟩) 2 c7] ?hrun ((same_true ((HQ.out.keep hSA).first 2 (by omega)) (by rw [HXW.out]; exact (HP.out.keep hSA).first 2 (by omega)) (pgsV_u8 _ _ HV8.out) (by omega)).mono ?_)
                  case hrun => go_simp; try rfl
                  rintro e wB ⟨rfl, hbB⟩
                  have hSB : Below wz.heap.size wz wB := bnext hSA hbB
                  refine ⟨_, rfl, hSB, ?_⟩
                  go_simp
                  clear hbB
                  refine takeH 30 (.bool true) (some 193) rfl rfl (by kernel_rfl) (by kernel_rfl) (by kernel_rfl) (fun _ _ _ h => h) (.inl ⟨by kernel_rfl, fun w _ => by go_simp⟩) hSB ?_
                  refine takeH 31 (.bool true) (some 10) rfl rfl (by kernel_rfl) (by kernel_rfl) (by kernel_rfl) (fun _ _ _ h => h) (.inl ⟨by kernel_rfl, fun w _ => by go_simp⟩) hSB ?_
                  refine wpAnyH_done (by kernel_rfl) ?_ _
                  go_simp
                  go_wp2_with fail
                  go_ret
                  exact ⟨rfl, bnext HBW.out hSB⟩
                | false =>
                  have hS : Below wz.heap.size wz (World.drew wz) := drewb wz
                  refine wp_region_held (S := fun w' => Below wz.heap.size wz w') (by kernel_rfl) ?_
                  change wpAnyH _ _ _ _ _ _ _ _ (World.drew _)
                  refine takeH 0 (.int .i64 0) (some 163) rfl rfl (by kernel_rfl) (by kernel_rfl) (by kernel_rfl) (fun _ _ _ h => h) (.inl ⟨by kernel_rfl, fun w _ => by go_simp⟩) hS ?_
                  refine takeH 1 (.bool true) (some 164) rfl rfl (by kernel_rfl) (by kernel_rfl) (by kernel_rfl) (fun _ _ _ h => h) (.inl ⟨by kernel_rfl, fun w _ => by go_simp⟩) hS ?_
                  refine takeH 2 (.bool true) (some 165) rfl rfl (by kernel_rfl) (by kernel_rfl) (by kernel_rfl) (fun _ _ _ h => h) (.inl ⟨by kernel_rfl, fun w _ => by go_simp⟩) hS ?_
                  refine takeH 3 (.int .i64 0) (some 166) rfl rfl (by kernel_rfl) (by kernel_rfl) (by kernel_rfl) (fun _ _ _ h => h) (.inl ⟨by kernel_rfl, fun w _ => by go_simp⟩) hS ?_
                  refine takeH 4 (.bool true) (some 167) rfl rfl (by kernel_rfl) (by kernel_rfl) (by kernel_rfl) (fun _ _ _ h => h) (.inl ⟨by kernel_rfl, fun w _ => by go_simp⟩) hS ?_
                  refine takeH 5 (.bool true) (some 168) rfl rfl (by kernel_rfl) (by kernel_rfl) (by kernel_rfl) (fun _ _ _ h => h) (.inl ⟨by kernel_rfl, fun w _ => by go_simp⟩) hS ?_
                  refine takeH 6 (.bool true) (some 169) rfl rfl (by kernel_rfl) (by kernel_rfl) (by kernel_rfl) (fun _ _ _ h => h) (.inl ⟨by kernel_rfl, fun w _ => by go_simp⟩) hS ?_
                  refine takeH 7 (.slice (some ⟨gx, 0, none⟩) 80 cx) (some 170) rfl rfl (by kernel_rfl) (by kernel_rfl) (by kernel_rfl) (fun _ _ _ h => h) (.inl ⟨by kernel_rfl, fun w _ => by go_simp⟩) hS ?_
                  refine takeH 8 (.slice (some ⟨gy, 0, none⟩) 80 cy) (some 171) rfl rfl (by kernel_rfl) (by kernel_rfl) (by kernel_rfl) (fun _ _ _ h => h) (.inl ⟨by kernel_rfl, fun w _ => by go_simp⟩) hS ?_
                  go_simp
                  refine callH 9 rfl (by kernel_rfl) (by kernel_rfl) (some 172) rfl 50 #[.slice (some ⟨gx, 0, none⟩) 80 cx, .slice (some ⟨gy, 0, none⟩) 80 cy] ?hrun ((same_true (HQ.out.keep hS).sr (HY.out.keep hS).sr (pgsV_u8 _ _ HV8.out) (by omega)).mono ?_)
                  case hrun => go_simp; try rfl
                  rintro e wA ⟨rfl, hbA⟩
                  have hSA : Below wz.heap.size wz wA := bnext hS hbA
                  refine ⟨_, rfl, hSA, ?_⟩
                  go_simp
                  clear hbA
                  refine takeH 10 (.bool true) (some 173) rfl rfl (by kernel_rfl) (by kernel_rfl) (by kernel_rfl) (fun _ _ _ h => h) (.inl ⟨by kernel_rfl, fun w _ => by go_simp⟩) hSA ?_
                  refine takeH 11 (.bool true) (some 174) rfl rfl (by kernel_rfl) (by kernel_rfl) (by kernel_rfl) (fun _ _ _ h => h) (.inl ⟨by kernel_rfl, fun w _ => by go_simp⟩) hSA ?_
                  refine takeH 12 (.bool false) (some 175) rfl rfl (by kernel_rfl) (by kernel_rfl) (by kernel_rfl) (fun _ _ _ h => h) (.inl ⟨by kernel_rfl, fun w _ => by go_simp⟩) hSA ?_
                  refine takeH 13 (.bool false) (some 176) rfl rfl (by kernel_rfl) (by kernel_rfl) (by kernel_rfl) (fun _ _ _ h => h) (.inl ⟨by kernel_rfl, fun w _ => by go_simp⟩) hSA ?_
                  refine takeH 14 (.bool true) (some 177) rfl rfl (by kernel_rfl) (by kernel_rfl) (by kernel_rfl) (fun _ _ _ h => h) (.inl ⟨by kernel_rfl, fun w _ => by go_simp⟩) hSA ?_
                  refine takeH 15 (.bool true) (some 178) rfl rfl (by kernel_rfl) (by kernel_rfl) (by kernel_rfl) (fun _ _ _ h => h) (.inl ⟨by kernel_rfl, fun w _ => by go_simp⟩) hSA ?_
                  refine takeH 16 (.bool true) (some 179) rfl rfl (by kernel_rfl) (by kernel_rfl) (by kernel_rfl) (fun _ _ _ h => h) (.inl ⟨by kernel_rfl, fun w _ => by go_simp⟩) hSA ?_
                  refine takeH 17 (.bool true) (some 180) rfl rfl (by kernel_rfl) (by kernel_rfl) (by kernel_rfl) (fun _ _ _ h => h) (.inl ⟨by kernel_rfl, fun w _ => by go_simp⟩) hSA ?_
                  refine takeH 18 (.int .i64 ec) (some 181) rfl rfl (by kernel_rfl) (by kernel_rfl) (by kernel_rfl) (fun _ _ _ h => h) (.inl ⟨by kernel_rfl, fun w _ => by go_simp⟩) hSA ?_
                  refine takeH 19 (.bool false) (some 182) rfl rfl (by kernel_rfl) (by kernel_rfl) (by kernel_rfl) (fun _ _ _ h => h) (.inl ⟨by kernel_rfl, fun w _ => by go_simp⟩) hSA ?_
                  refine takeH 20 (.bool false) (some 183) rfl rfl (by kernel_rfl) (by kernel_rfl) (by kernel_rfl) (fun _ _ _ h => h) (.inl ⟨by kernel_rfl, fun w _ => by go_simp⟩) hSA ?_
                  refine takeH 21 (.bool true) (some 184) rfl rfl (by kernel_rfl) (by kernel_rfl) (by kernel_rfl) (fun _ _ _ h => h) (.inl ⟨by kernel_rfl, fun w _ => by go_simp⟩) hSA ?_
                  refine takeH 22 (.bool true) (some 185) rfl rfl (by kernel_rfl) (by kernel_rfl) (by kernel_rfl) (fun _ _ _ h => h) (.inl ⟨by kernel_rfl, fun w _ => by go_simp⟩) hSA ?_
                  refine takeH 23 (.bool true) (some 186) rfl rfl (by kernel_rfl) (by kernel_rfl) (by kernel_rfl) (fun _ _ _ h => h) (.inl ⟨by kernel_rfl, fun w _ => by go_simp⟩) hSA ?_
                  refine takeH 24 (.bool true) (some 187) rfl rfl (by kernel_rfl) (by kernel_rfl) (by kernel_rfl) (fun _ _ _ h => h) (.inl ⟨by kernel_rfl, fun w _ => by go_simp⟩) hSA ?_
                  refine takeH 25 (.slice (some ⟨gx, 0, none⟩) 80 cx) (some 188) rfl rfl (by kernel_rfl) (by kernel_rfl) (by kernel_rfl) (fun _ _ _ h => h) (.inl ⟨by kernel_rfl, fun w _ => by go_simp⟩) hSA ?_
                  refine takeH 26 (.slice (some ⟨gx, 0, none⟩) 2 cx) (some 189) rfl rfl (by kernel_rfl) (by kernel_rfl) (by kernel_rfl) (fun _ _ _ h => h) (.inl ⟨by kernel_rfl, fun w _ => by go_simp⟩) hSA ?_
                  refine takeH 27 (.slice (some ⟨g7, 0, none⟩) 80 c7) (some 190) rfl rfl (by kernel_rfl) (by kernel_rfl) (by kernel_rfl) (fun _ _ _ h => h) (.inl ⟨by kernel_rfl, fun w _ => by go_simp⟩) hSA ?_
                  refine takeH 28 (.slice (some ⟨g7, 0, none⟩) 2 c7) (some 191) rfl rfl (by kernel_rfl) (by kernel_rfl) (by kernel_rfl) (fun _ _ _ h => h) (.inl ⟨by kernel_rfl, fun w _ => by go_simp⟩) hSA ?_
                  go_simp
                  refine callH 29 rfl (by kernel_rfl) (by kernel_rfl) (some 192) rfl 50 #[.slice (some ⟨gx, 0, none⟩) 2 cx, .slice (some ⟨g7, 0, none⟩) 2 c7] ?hrun ((same_true ((HQ.out.keep hSA).first 2 (by omega)) (by rw [HXW.out]; exact (HP.out.keep hSA).first 2 (by omega)) (pgsV_u8 _ _ HV8.out) (by omega)).mono ?_)
                  case hrun => go_simp; try rfl
                  rintro e wB ⟨rfl, hbB⟩
                  have hSB : Below wz.heap.size wz wB := bnext hSA hbB
                  refine ⟨_, rfl, hSB, ?_⟩
                  go_simp
                  clear hbB
                  refine takeH 30 (.bool true) (some 193) rfl rfl (by kernel_rfl) (by kernel_rfl) (by kernel_rfl) (fun _ _ _ h => h) (.inl ⟨by kernel_rfl, fun w _ => by go_simp⟩) hSB ?_
                  refine takeH 31 (.bool true) (some 10) rfl rfl (by kernel_rfl) (by kernel_rfl) (by kernel_rfl) (fun _ _ _ h => h) (.inl ⟨by kernel_rfl, fun w _ => by go_simp⟩) hSB ?_
                  refine wpAnyH_done (by kernel_rfl) ?_ _
                  go_simp
                  go_wp2_with fail
                  go_ret
                  exact ⟨rfl, bnext HBW.out hSB⟩
              · have hne : (ec != 0) = true := by rw [bne_iff_ne]; exact hec
                clear hec
                cases b1 with
                | true =>
                  clear HF1 HF2
                  have hS : Below wz.heap.size wz (World.drew wz) := drewb wz
                  refine wp_region_held (S := fun w' => Below wz.heap.size wz w') (by kernel_rfl) ?_
                  change wpAnyH _ _ _ _ _ _ _ _ (World.drew _)
                  refine takeH 0 (.int .i64 0) (some 163) rfl rfl (by kernel_rfl) (by kernel_rfl) (by kernel_rfl) (fun _ _ _ h => h) (.inl ⟨by kernel_rfl, fun w _ => by go_simp⟩) hS ?_
                  refine takeH 1 (.bool true) (some 164) rfl rfl (by kernel_rfl) (by kernel_rfl) (by kernel_rfl) (fun _ _ _ h => h) (.inl ⟨by kernel_rfl, fun w _ => by go_simp⟩) hS ?_
                  refine takeH 2 (.bool true) (some 165) rfl rfl (by kernel_rfl) (by kernel_rfl) (by kernel_rfl) (fun _ _ _ h => h) (.inl ⟨by kernel_rfl, fun w _ => by go_simp⟩) hS ?_
                  refine takeH 3 (.int .i64 0) (some 166) rfl rfl (by kernel_rfl) (by kernel_rfl) (by kernel_rfl) (fun _ _ _ h => h) (.inl ⟨by kernel_rfl, fun w _ => by go_simp⟩) hS ?_
                  refine takeH 4 (.bool true) (some 167) rfl rfl (by kernel_rfl) (by kernel_rfl) (by kernel_rfl) (fun _ _ _ h => h) (.inl ⟨by kernel_rfl, fun w _ => by go_simp⟩) hS ?_
                  refine takeH 5 (.bool true) (some 168) rfl rfl (by kernel_rfl) (by kernel_rfl) (by kernel_rfl) (fun _ _ _ h => h) (.inl ⟨by kernel_rfl, fun w _ => by go_simp⟩) hS ?_
                  refine takeH 6 (.bool true) (some 169) rfl rfl (by kernel_rfl) (by kernel_rfl) (by kernel_rfl) (fun _ _ _ h => h) (.inl ⟨by kernel_rfl, fun w _ => by go_simp⟩) hS ?_
                  refine takeH 7 (.slice (some ⟨gx, 0, none⟩) 80 cx) (some 170) rfl rfl (by kernel_rfl) (by kernel_rfl) (by kernel_rfl) (fun _ _ _ h => h) (.inl ⟨by kernel_rfl, fun w _ => by go_simp⟩) hS ?_
                  refine takeH 8 (.slice (some ⟨gy, 0, none⟩) 80 cy) (some 171) rfl rfl (by kernel_rfl) (by kernel_rfl) (by kernel_rfl) (fun _ _ _ h => h) (.inl ⟨by kernel_rfl, fun w _ => by go_simp⟩) hS ?_
                  go_simp
                  refine callH 9 rfl (by kernel_rfl) (by kernel_rfl) (some 172) rfl 50 #[.slice (some ⟨gx, 0, none⟩) 80 cx, .slice (some ⟨gy, 0, none⟩) 80 cy] ?hrun ((same_true (HQ.out.keep hS).sr (HY.out.keep hS).sr (pgsV_u8 _ _ HV8.out) (by omega)).mono ?_)
                  case hrun => go_simp; try rfl
                  rintro e wA ⟨rfl, hbA⟩
                  have hSA : Below wz.heap.size wz wA := bnext hS hbA
                  refine ⟨_, rfl, hSA, ?_⟩
                  go_simp
                  clear hbA
                  refine takeH 10 (.bool true) (some 173) rfl rfl (by kernel_rfl) (by kernel_rfl) (by kernel_rfl) (fun _ _ _ h => h) (.inl ⟨by kernel_rfl, fun w _ => by go_simp⟩) hSA ?_
                  refine takeH 11 (.bool true) (some 174) rfl rfl (by kernel_rfl) (by kernel_rfl) (by kernel_rfl) (fun _ _ _ h => h) (.inl ⟨by kernel_rfl, fun w _ => by go_simp⟩) hSA ?_
                  refine takeH 12 (.bool true) (some 175) rfl rfl (by kernel_rfl) (by kernel_rfl) (by kernel_rfl) (fun _ _ _ h => h) (.inl ⟨by kernel_rfl, fun w _ => by go_simp⟩) hSA ?_
                  refine takeH 13 (.bool true) (some 176) rfl rfl (by kernel_rfl) (by kernel_rfl) (by kernel_rfl) (fun _ _ _ h => h) (.inl ⟨by kernel_rfl, fun w _ => by go_simp⟩) hSA ?_
                  refine takeH 14 (undef) (some 177) rfl rfl (by kernel_rfl) (by kernel_rfl) (by kernel_rfl) (fun _ _ _ h => h) (.inr ⟨by kernel_rfl, rfl⟩) hSA ?_
                  refine takeH 15 (.bool true) (some 178) rfl rfl (by kernel_rfl) (by kernel_rfl) (by kernel_rfl) (fun _ _ _ h => h) (.inl ⟨by kernel_rfl, fun w _ => by go_simp⟩) hSA ?_
                  refine takeH 16 (.bool true) (some 179) rfl rfl (by kernel_rfl) (by kernel_rfl) (by kernel_rfl) (fun _ _ _ h => h) (.inl ⟨by kernel_rfl, fun w _ => by go_simp⟩) hSA ?_
                  refine takeH 17 (.bool true) (some 180) rfl rfl (by kernel_rfl) (by kernel_rfl) (by kernel_rfl) (fun _ _ _ h => h) (.inl ⟨by kernel_rfl, fun w _ => by go_simp⟩) hSA ?_
                  refine takeH 18 (.int .i64 ec) (some 181) rfl rfl (by kernel_rfl) (by kernel_rfl) (by kernel_rfl) (fun _ _ _ h => h) (.inl ⟨by kernel_rfl, fun w _ => by go_simp⟩) hSA ?_
                  refine takeH 19 (.bool true) (some 182) rfl rfl (by kernel_rfl) (by kernel_rfl) (by kernel_rfl) (fun _ _ _ h => h) (.inl ⟨by kernel_rfl, fun w _ => by go_simp⟩) hSA ?_
                  refine takeH 20 (.bool true) (some 183) rfl rfl (by kernel_rfl) (by kernel_rfl) (by kernel_rfl) (fun _ _ _ h => h) (.inl ⟨by kernel_rfl, fun w _ => by go_simp⟩) hSA ?_
                  refine takeH 21 (undef) (some 184) rfl rfl (by kernel_rfl) (by kernel_rfl) (by kernel_rfl) (fun _ _ _ h => h) (.inr ⟨by kernel_rfl, rfl⟩) hSA ?_
                  refine takeH 22 (.bool true) (some 185) rfl rfl (by kernel_rfl) (by kernel_rfl) (by kernel_rfl) (fun _ _ _ h => h) (.inl ⟨by kernel_rfl, fun w _ => by go_simp⟩) hSA ?_
                  refine takeH 23 (.bool true) (some 186) rfl rfl (by kernel_rfl) (by kernel_rfl) (by kernel_rfl) (fun _ _ _ h => h) (.inl ⟨by kernel_rfl, fun w _ => by go_simp⟩) hSA ?_
                  refine takeH 24 (.bool true) (some 187) rfl rfl (by kernel_rfl) (by kernel_rfl) (by kernel_rfl) (fun _ _ _ h => h) (.inl ⟨by kernel_rfl, fun w _ => by go_simp⟩) hSA ?_
                  refine takeH 25 (.slice (some ⟨gx, 0, none⟩) 80 cx) (some 188) rfl rfl (by kernel_rfl) (by kernel_rfl) (by kernel_rfl) (fun _ _ _ h => h) (.inl ⟨by kernel_rfl, fun w _ => by go_simp⟩) hSA ?_
                  refine takeH 26 (.slice (some ⟨gx, 0, none⟩) 2 cx) (some 189) rfl rfl (by kernel_rfl) (by kernel_rfl) (by kernel_rfl) (fun _ _ _ h => h) (.inl ⟨by kernel_rfl, fun w _ => by go_simp⟩) hSA ?_
                  refine takeH 27 (.slice (some ⟨g7, 0, none⟩) 80 c7) (some 190) rfl rfl (by kernel_rfl) (by kernel_rfl) (by kernel_rfl) (fun _ _ _ h => h) (.inl ⟨by kernel_rfl, fun w _ => by go_simp⟩) hSA ?_
                  refine takeH 28 (.slice (some ⟨g7, 0, none⟩) 2 c7) (some 191) rfl rfl (by kernel_rfl) (by kernel_rfl) (by kernel_rfl) (fun _ _ _ h => h) (.inl ⟨by kernel_rfl, fun w _ => by go_simp⟩) hSA ?_
                  go_simp
                  refine callH 29 rfl (by kernel_rfl) (by kernel_rfl) (some 192) rfl 50 #[.slice (some ⟨gx, 0, none⟩) 2 cx, .slice (some ⟨g7, 0, none⟩) 2 c7] ?hrun ((same_true ((HQ.out.keep hSA).first 2 (by omega)) (by rw [HXW.out]; exact (HP.out.keep hSA).first 2 (by omega)) (pgsV_u8 _ _ HV8.out) (by omega)).mono ?_)
                  case hrun => go_simp; try rfl
                  rintro e wB ⟨rfl, hbB⟩
                  have hSB : Below wz.heap.size wz wB := bnext hSA hbB
                  refine ⟨_, rfl, hSB, ?_⟩
                  go_simp
                  clear hbB
                  refine takeH 30 (.bool true) (some 193) rfl rfl (by kernel_rfl) (by kernel_rfl) (by kernel_rfl) (fun _ _ _ h => h) (.inl ⟨by kernel_rfl, fun w _ => by go_simp⟩) hSB ?_
                  refine takeH 31 (.bool true) (some 10) rfl rfl (by kernel_rfl) (by kernel_rfl) (by kernel_rfl) (fun _ _ _ h => h) (.inl ⟨by kernel_rfl, fun w _ => by go_simp⟩) hSB ?_
                  refine wpAnyH_done (by kernel_rfl) ?_ _
                  go_simp
                  go_wp2_with fail
                  go_ret
                  exact ⟨rfl, bnext HBW.out hSB⟩
                | false =>
                  obtain rfl : b2 = true := by
                    rcases HF1.out with h | h
                    · cases h
                    · exact h
                  clear HF1 HF2
                  have hS : Below wz.heap.size wz (World.drew wz) := drewb wz
                  refine wp_region_held (S := fun w' => Below wz.heap.size wz w') (by kernel_rfl) ?_
                  change wpAnyH _ _ _ _ _ _ _ _ (World.drew _)
                  refine takeH 0 (.int .i64 0) (some 163) rfl rfl (by kernel_rfl) (by kernel_rfl) (by kernel_rfl) (fun _ _ _ h => h) (.inl ⟨by kernel_rfl, fun w _ => by go_simp⟩) hS ?_
                  refine takeH 1 (.bool true) (some 164) rfl rfl (by kernel_rfl) (by kernel_rfl) (by kernel_rfl) (fun _ _ _ h => h) (.inl ⟨by kernel_rfl, fun w _ => by go_simp⟩) hS ?_
                  refine takeH 2 (.bool true) (some 165) rfl rfl (by kernel_rfl) (by kernel_rfl) (by kernel_rfl) (fun _ _ _ h => h) (.inl ⟨by kernel_rfl, fun w _ => by go_simp⟩) hS ?_
                  refine takeH 3 (.int .i64 0) (some 166) rfl rfl (by kernel_rfl) (by kernel_rfl) (by kernel_rfl) (fun _ _ _ h => h) (.inl ⟨by kernel_rfl, fun w _ => by go_simp⟩) hS ?_
                  refine takeH 4 (.bool true) (some 167) rfl rfl (by kernel_rfl) (by kernel_rfl) (by kernel_rfl) (fun _ _ _ h => h) (.inl ⟨by kernel_rfl, fun w _ => by go_simp⟩) hS ?_
                  refine takeH 5 (.bool true) (some 168) rfl rfl (by kernel_rfl) (by kernel_rfl) (by kernel_rfl) (fun _ _ _ h => h) (.inl ⟨by kernel_rfl, fun w _ => by go_simp⟩) hS ?_
                  refine takeH 6 (.bool true) (some 169) rfl rfl (by kernel_rfl) (by kernel_rfl) (by kernel_rfl) (fun _ _ _ h => h) (.inl ⟨by kernel_rfl, fun w _ => by go_simp⟩) hS ?_
                  refine takeH 7 (.slice (some ⟨gx, 0, none⟩) 80 cx) (some 170) rfl rfl (by kernel_rfl) (by kernel_rfl) (by kernel_rfl) (fun _ _ _ h => h) (.inl ⟨by kernel_rfl, fun w _ => by go_simp⟩) hS ?_
                  refine takeH 8 (.slice (some ⟨gy, 0, none⟩) 80 cy) (some 171) rfl rfl (by kernel_rfl) (by kernel_rfl) (by kernel_rfl) (fun _ _ _ h => h) (.inl ⟨by kernel_rfl, fun w _ => by go_simp⟩) hS ?_
                  go_simp
                  refine callH 9 rfl (by kernel_rfl) (by kernel_rfl) (some 172) rfl 50 #[.slice (some ⟨gx, 0, none⟩) 80 cx, .slice (some ⟨gy, 0, none⟩) 80 cy] ?hrun ((same_true (HQ.out.keep hS).sr (HY.out.keep hS).sr (pgsV_u8 _ _ HV8.out) (by omega)).mono ?_)
                  case hrun => go_simp; try rfl
                  rintro e wA ⟨rfl, hbA⟩
                  have hSA : Below wz.heap.size wz wA := bnext hS hbA
                  refine ⟨_, rfl, hSA, ?_⟩
                  go_simp
                  clear hbA
                  refine takeH 10 (.bool true) (some 173) rfl rfl (by kernel_rfl) (by kernel_rfl) (by kernel_rfl) (fun _ _ _ h => h) (.inl ⟨by kernel_rfl, fun w _ => by go_simp⟩) hSA ?_
                  refine takeH 11 (.bool true) (some 174) rfl rfl (by kernel_rfl) (by kernel_rfl) (by kernel_rfl) (fun _ _ _ h => h) (.inl ⟨by kernel_rfl, fun w _ => by go_simp⟩) hSA ?_
                  refine takeH 12 (.bool false) (some 175) rfl rfl (by kernel_rfl) (by kernel_rfl) (by kernel_rfl) (fun _ _ _ h => h) (.inl ⟨by kernel_rfl, fun w _ => by go_simp⟩) hSA ?_
                  refine takeH 13 (.bool false) (some 176) rfl rfl (by kernel_rfl) (by kernel_rfl) (by kernel_rfl) (fun _ _ _ h => h) (.inl ⟨by kernel_rfl, fun w _ => by go_simp⟩) hSA ?_
                  refine takeH 14 (.bool true) (some 177) rfl rfl (by kernel_rfl) (by kernel_rfl) (by kernel_rfl) (fun _ _ _ h => h) (.inl ⟨by kernel_rfl, fun w _ => by go_simp⟩) hSA ?_
                  refine takeH 15 (.bool true) (some 178) rfl rfl (by kernel_rfl) (by kernel_rfl) (by kernel_rfl) (fun _ _ _ h => h) (.inl ⟨by kernel_rfl, fun w _ => by go_simp⟩) hSA ?_
                  refine takeH 16 (.bool true) (some 179) rfl rfl (by kernel_rfl) (by kernel_rfl) (by kernel_rfl) (fun _ _ _ h => h) (.inl ⟨by kernel_rfl, fun w _ => by go_simp⟩) hSA ?_
                  refine takeH 17 (.bool true) (some 180) rfl rfl (by kernel_rfl) (by kernel_rfl) (by kernel_rfl) (fun _ _ _ h => h) (.inl ⟨by kernel_rfl, fun w _ => by go_simp⟩) hSA ?_
                  refine takeH 18 (.int .i64 ec) (some 181) rfl rfl (by kernel_rfl) (by kernel_rfl) (by kernel_rfl) (fun _ _ _ h => h) (.inl ⟨by kernel_rfl, fun w _ => by go_simp⟩) hSA ?_
                  refine takeH 19 (.bool true) (some 182) rfl rfl (by kernel_rfl) (by kernel_rfl) (by kernel_rfl) (fun _ _ _ h => h) (.inl ⟨by kernel_rfl, fun w _ => by go_simp⟩) hSA ?_
                  refine takeH 20 (.bool true) (some 183) rfl rfl (by kernel_rfl) (by kernel_rfl) (by kernel_rfl) (fun _ _ _ h => h) (.inl ⟨by kernel_rfl, fun w _ => by go_simp⟩) hSA ?_
                  refine takeH 21 (undef) (some 184) rfl rfl (by kernel_rfl) (by kernel_rfl) (by kernel_rfl) (fun _ _ _ h => h) (.inr ⟨by kernel_rfl, rfl⟩) hSA ?_
                  refine takeH 22 (.bool true) (some 185) rfl rfl (by kernel_rfl) (by kernel_rfl) (by kernel_rfl) (fun _ _ _ h => h) (.inl ⟨by kernel_rfl, fun w _ => by go_simp⟩) hSA ?_
                  refine takeH 23 (.bool true) (some 186) rfl rfl (by kernel_rfl) (by kernel_rfl) (by kernel_rfl) (fun _ _ _ h => h) (.inl ⟨by kernel_rfl, fun w _ => by go_simp⟩) hSA ?_
                  refine takeH 24 (.bool true) (some 187) rfl rfl (by kernel_rfl) (by kernel_rfl) (by kernel_rfl) (fun _ _ _ h => h) (.inl ⟨by kernel_rfl, fun w _ => by go_simp⟩) hSA ?_
                  refine takeH 25 (.slice (some ⟨gx, 0, none⟩) 80 cx) (some 188) rfl rfl (by kernel_rfl) (by kernel_rfl) (by kernel_rfl) (fun _ _ _ h => h) (.inl ⟨by kernel_rfl, fun w _ => by go_simp⟩) hSA ?_
                  refine takeH 26 (.slice (some ⟨gx, 0, none⟩) 2 cx) (some 189) rfl rfl (by kernel_rfl) (by kernel_rfl) (by kernel_rfl) (fun _ _ _ h => h) (.inl ⟨by kernel_rfl, fun w _ => by go_simp⟩) hSA ?_
                  refine takeH 27 (.slice (some ⟨g7, 0, none⟩) 80 c7) (some 190) rfl rfl (by kernel_rfl) (by kernel_rfl) (by kernel_rfl) (fun _ _ _ h => h) (.inl ⟨by kernel_rfl, fun w _ => by go_simp⟩) hSA ?_
                  refine takeH 28 (.slice (some ⟨g7, 0, none⟩) 2 c7) (some 191) rfl rfl (by kernel_rfl) (by kernel_rfl) (by kernel_rfl) (fun _ _ _ h => h) (.inl ⟨by kernel_rfl, fun w _ => by go_simp⟩) hSA ?_
                  go_simp
                  refine callH 29 rfl (by kernel_rfl) (by kernel_rfl) (some 192) rfl 50 #[.slice (some ⟨gx, 0, none⟩) 2 cx, .slice (some ⟨g7, 0, none⟩) 2 c7] ?hrun ((same_true ((HQ.out.keep hSA).first 2 (by omega)) (by rw [HXW.out]; exact (HP.out.keep hSA).first 2 (by omega)) (pgsV_u8 _ _ HV8.out) (by omega)).mono ?_)
                  case hrun => go_simp; try rfl
                  rintro e wB ⟨rfl, hbB⟩
                  have hSB : Below wz.heap.size wz wB := bnext hSA hbB
                  refine ⟨_, rfl, hSB, ?_⟩
                  go_simp
                  clear hbB
                  refine takeH 30 (.bool true) (some 193) rfl rfl (by kernel_rfl) (by kernel_rfl) (by kernel_rfl) (fun _ _ _ h => h) (.inl ⟨by kernel_rfl, fun w _ => by go_simp⟩) hSB ?_
                  refine takeH 31 (.bool true) (some 10) rfl rfl (by kernel_rfl) (by kernel_rfl) (by kernel_rfl) (fun _ _ _ h => h) (.inl ⟨by kernel_rfl, fun w _ => by go_simp⟩) hSB ?_
                  refine wpAnyH_done (by kernel_rfl) ?_ _
                  go_simp
                  go_wp2_with fail
                  go_ret
                  exact ⟨rfl, bnext HBW.out hSB⟩

end Go.Proofs.Ytonfnlohbgbffaa
