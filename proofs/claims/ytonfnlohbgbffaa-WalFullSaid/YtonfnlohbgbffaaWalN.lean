/- The law WalFull. -/
import Derived.Test.YtonfnlohbgbffaaWalM
set_option linter.unusedVariables false
set_option linter.unusedSimpArgs false
namespace Go.Proofs.Ytonfnlohbgbffaa
open Go.RowKit
open Go.Maps (Keyed)

def blk (j : Nat) (i : Nat) : Nat := j ^^^ (i % 64)
/-- The blocks 40 on, so many. -/
def FK (m : Nat) (z : Int) : Option (Nat → Nat) := if 40 ≤ z ∧ z < 40 + (m : Int) then some (blk (z.toNat - 39)) else none
theorem FK_zero : FK 0 = fun _ => none := by
  funext z
  unfold FK
  rw [if_neg (by omega)]
theorem FK_next (m : Nat) : putF (FK m) ((40 + m : Nat) : Int) (blk (m + 1)) = FK (m + 1) := by
  funext z
  unfold putF FK
  by_cases h : z = ((40 + m : Nat) : Int)
  · rw [if_pos h, if_pos (by omega), h]
    congr 2
    omega
  · rw [if_neg h]
    by_cases h2 : 40 ≤ z ∧ z < 40 + (m : Int)
    · rw [if_pos h2, if_pos (by omega)]
    · rw [if_neg h2, if_neg (by omega)]
theorem FK_yes (m k : Nat) : FK m (k : Nat) ≠ none ↔ 40 ≤ k ∧ k < 40 + m := by
  unfold FK
  split
  · simp; omega
  · simp; omega
section
variable {w w' : World} {gd gb gl gt gm n first : Nat} {F : Int → Option (Nat → Nat)} {bad : Int} {s s' : DSt}
theorem FK_many {m : Nat} (h : TXs w gd gb gl gt gm n first (FK m) bad s) : mapN w gm = m := by
  have h1 := h.toTX.few (l := (List.range m).map fun j => 40 + j) (by
    rw [List.nodup_iff_pairwise_ne, List.pairwise_map]
    exact (List.nodup_iff_pairwise_ne.1 List.nodup_range).imp (fun h e => h (by omega))) (fun k hk => by
      obtain ⟨j, hj, rfl⟩ := List.mem_map.1 hk
      have := List.mem_range.1 hj
      exact (FK_yes m _).2 (by omega))
  have h2 := h.mp.mp.len_le ((List.range m).map fun (j : Nat) => ((40 + j : Nat) : Int)) (fun a ha => by
    unfold FK at ha
    split at ha
    · rename_i hh
      exact List.mem_map.2 ⟨a.toNat - 40, List.mem_range.2 (by omega), by omega⟩
    · exact absurd rfl ha)
  simp at h1 h2
  omega
theorem dxImage (h : DXs w gd gb n s) : Calls Try.prog 46 #[.pointer (some ⟨gd, 0, none⟩)] w fun e w' => (∃ v, e = .returned v ∧ w'.ownsRow w.heap.size 52 64 v n (rowArr (n * 64) (diskC s.D)).toList) ∧ Below w.heap.size w w' := by
  obtain ⟨x, y, hd⟩ := h.dk
  exact diskImage_ok hd h.n
theorem TXs.many_ (h : TXs w gd gb gl gt gm n first F bad s) (k : Nat) (hk : k < n) (hr : k < first ∨ first + 30 < k) (hF : F k = none) (hN : mapN w gm = 30) (f : Nat → Nat) :
    Calls Try.prog 34 #[.pointer (some ⟨gt, 0, none⟩), .int .i64 k, pageV f] w fun e w' => e = .returned (.int .i64 23) ∧ TXs w' gd gb gl gt gm n first F (badB bad 23) s ∧ Chg (fun b => b = gt) w w' :=
  (txnPut_many h.toTX k hk hr hF hN f).mono (fun e w' ⟨h1, h2, h3⟩ => ⟨h1, h.same h2 h3 (fun e => h.toTX.ne.1.1 e.symm), h3⟩)
set_option maxRecDepth 10000 in
set_option maxHeartbeats 1000000 in
theorem txnCommit_bad (h : TXs w gd gb gl gt gm n first F bad s) (hb : bad ≠ 0) :
    Calls Try.prog 49 #[.pointer (some ⟨gt, 0, none⟩)] w fun e w' => e = .returned (.int .i64 bad) ∧ w' = w := by
  have c2 := h.toTX.c2
  have hbb : (bad == 0) = false := by rw [beq_eq_false_iff_ne]; exact hb
  clear h
  go_enter Try.func49, Try.ntmps49
  go_wp2_with fail
  go_ret
  exact ⟨rfl, rfl⟩
end
theorem rowL_at (n : Nat) (f : Nat → Value) (i : Nat) (h : i < n) : (rowArr n f).toList[i]? = some (f i) := by simp [rowArr, h]
theorem full_plain {m : Nat} {L : List Nat} {s : DSt} (hk : KeysOf (FK m) L) (hm : m ≤ 30) (hlen : L.length = m) (h : Alive s) :
    (commit 0 (pageG (FK m)) L s).2.1 = 0 ∧ (if (commit 0 (pageG (FK m)) L s).2.2 = true then (fun _ => none) else FK m) = (fun _ => none) ∧ ∀ i, i < m → (commit 0 (pageG (FK m)) L s).1.D (40 + i) = blk (i + 1) := by
  by_cases h0 : L = []
  · have hm0 : m = 0 := by rw [← hlen, h0]; rfl
    subst hm0
    have e : commit 0 (pageG (FK 0)) L s = (s, 0, false) := if_pos h0
    rw [e]
    exact ⟨rfl, FK_zero, fun i hi => by omega⟩
  · obtain ⟨a1, a2, a3, a4, a5⟩ := commit_alive 0 (pageG (FK m)) L s h h0 hk.nodup (fun k hk' => by have := (FK_yes m k).1 (hk.yes k hk'); omega) (by omega)
    refine ⟨a1, by rw [if_pos a2], fun i hi => ?_⟩
    obtain ⟨k, hk1, hk2⟩ := hk.all ((40 + i : Nat) : Int) ((FK_yes m _).2 (by omega))
    obtain rfl : k = 40 + i := by omega
    rw [a4 _ hk1]
    unfold pageG FK
    rw [if_pos (by omega)]
    show blk (((40 + i : Nat) : Int).toNat - 39) = _
    congr 1
    omega
set_option maxRecDepth 100000 in
set_option maxHeartbeats 8000000 in
theorem walFull_walk (W : World) (v0 : Value) (o0 : Arg Try.prog W 5 v0) :
    Calls Try.prog 10 #[v0] W fun e w' => e = .returned (.bool true) ∧ Below W.heap.size W w' := by
  obtain ⟨n, rfl, hn⟩ := Arg.int Try.underlying5 o0
  have hn2 := wf_u8 hn
  obtain ⟨mn, hmn⟩ : ∃ mn : Nat, (mn : Int) = n % 40 := ⟨(n % 40).toNat, by omega⟩
  have hm40 : mn < 40 := by omega
  have f1 : n % 40 = (mn : Int) := hmn.symm
  have f2 : n.tmod 40 = (mn : Int) := by rw [Int.tmod_eq_emod_of_nonneg (by omega)]; omega
  have hn0 := hn2.1
  have hn1 := hn2.2
  clear o0 hn hn2 hmn
  go_enter Try.func10, Try.ntmps10
  go_wp2_with fail
  refine (walAwake_in W).mono ?_
  rintro e w0 ⟨rfl, hb0⟩
  have HB0 := Lib.hid hb0
  clear hb0
  go_wp2_with fail
  refine (dzNew 100 (by omega) _).mono ?_
  rintro e w1 ⟨gd, gb, rfl, hd1, hl1, hl2, hb1⟩
  have HB1 := Lib.hid (bnext HB0.out hb1)
  have HLO := Lib.hid (show W.heap.size ≤ gd ∧ W.heap.size ≤ gb from ⟨Nat.le_trans HB0.out.size hl1, Nat.le_trans HB0.out.size hl2⟩)
  clear hb1 hl1 hl2
  go_wp2_with fail
  refine (hd1.open_ 0 (by omega)).mono ?_
  rintro e w2 ⟨gl, rfl, hx2, hl3, hb2⟩
  have HB2 := Lib.hid (bnext HB1.out hb2)
  clear hd1 hb2 hl3
  go_wp2_with fail
  refine (lxFormat hx2).mono ?_
  rintro e w3 ⟨rfl, hx3, hc3⟩
  have HB3 := Lib.hid (Chg.go HB2.out hc3 (fun k hk => by rcases hk with rfl | rfl; exact HLO.out.1; exact HLO.out.2) HB2.out.size)
  obtain ⟨s, hs⟩ : ∃ s, s = dz.put 0 (logB []) := ⟨_, rfl⟩
  have HAL := Lib.hid (show Alive s from hs ▸ dz_alive.put _ _)
  rw [← hs] at hx3
  have HX3 := Lib.hid hx3
  clear hx2 hc3 hs hx3
  go_wp2_with fail
  refine (dxImage HX3.out.dxs).mono ?_
  rintro e w4 ⟨⟨v, rfl, hown⟩, hb4⟩
  obtain ⟨A1, c1, hform⟩ := own_form hown
  subst hform
  have HX4 := Lib.hid (HX3.out.keep hb4)
  have HB4 := Lib.hid (bnext HB3.out hb4)
  have HOWN4 := Lib.hid hown
  have HVB := Lib.hid (show ∀ x, (Value.slice A1 100 c1).ownBlock = some x → w3.heap.size ≤ x ∧ x < w4.heap.size from fun x hx => hown.lt x hx)
  clear hown hb4
  go_wp2_with fail
  refine HX4.out.begin_.mono ?_
  rintro e w5 ⟨gt, gm, rfl, ht5, hl5, hl6, hb5⟩
  have HB5 := Lib.hid (bnext HB4.out hb5)
  have HL2 := Lib.hid (show W.heap.size ≤ gt ∧ W.heap.size ≤ gm from ⟨Nat.le_trans HB4.out.size hl5, Nat.le_trans HB4.out.size hl6⟩)
  have HVN := Lib.hid (show ∀ x, (Value.slice A1 100 c1).ownBlock = some x → ¬ cset gd gb gt gm x from fun x hx e => by
    have h1 := HVB.out x hx
    have h2 := HX3.out.toLX.lt
    rcases e with (e | e) | e | e <;> omega)
  rw [← FK_zero] at ht5
  have HT5 := Lib.hid ht5
  have HOWN5 := Lib.hid (own_below HOWN4.out hb5)
  clear ht5 hl5 hl6 hb5
  go_wp2_with fail
  go_loopw [36] (fun r wx => ∃ (i : Nat), i ≤ mn ∧ r = .int .i64 i ∧ TXs wx gd gb gl gt gm 100 0 (FK (min i 30)) (if i ≤ 30 then 0 else 23) s ∧ Below W.heap.size W wx ∧ wx.ownsRow w3.heap.size 52 64 (.slice A1 100 c1) 100 (rowArr (100 * 64) (diskC s.D)).toList) (fun r _ => mn - (intOf r).toNat)
  case atStart => exact ⟨0, by omega, rfl, HT5.out, HB5.out, HOWN5.out⟩
  case round =>
    obtain ⟨i, hi, rfl, ht, hb, hown⟩ := hrel
    have HT := Lib.hid ht
    have HB := Lib.hid hb
    have HOWN := Lib.hid hown
    clear ht hb hown
    by_cases him : i < mn
    · have g1 : (i : Int) < mn := by omega
      obtain ⟨j, hj⟩ : ∃ j : Nat, j = i + 1 := ⟨_, rfl⟩
      have k1 : (i : Int) + 1 = (j : Int) := by omega
      have k2 : IntKind.u8.wrap (j : Int) = j := by simp [IntKind.wrap, IntKind.bits, IntKind.signed]; omega
      obtain ⟨q, hq⟩ : ∃ q : Nat, q = 40 + i := ⟨_, rfl⟩
      have k3 : (40 : Int) + (i : Int) = (q : Int) := by omega
      have k4 : j ≤ 40 ∧ q ≤ 80 := by omega
      obtain ⟨k5, k6⟩ := k4
      have HJ := Lib.hid hj
      have HQ := Lib.hid hq
      clear hj hq
      go_wp2_with fail
      refine (lawBlock_in j (by omega) _).mono ?_
      rintro e w6 ⟨rfl, hb6⟩
      have HT6 := Lib.hid (HT.out.keep hb6)
      have HB6 := Lib.hid (bnext HB.out hb6)
      have HOWN6 := Lib.hid (own_below HOWN.out hb6)
      clear hb6
      by_cases h30 : i < 30
      · have g2 : (i : Int) < 30 := by omega
        go_wp2_with fail
        have hN := FK_many HT6.out
        have hmin : min i 30 = i := by omega
        refine (HT6.out.put_ q (by have := HQ.out; omega) (by have := HQ.out; omega) (.inr (by rw [hN]; omega)) (fun a => xor_le j a (by omega))).mono ?_
        rintro e w7 ⟨rfl, ht7, hc7⟩
        have HT7 := Lib.hid (show TXs w7 gd gb gl gt gm 100 0 (FK (min (i + 1) 30)) (if i + 1 ≤ 30 then 0 else 23) s from by
          rw [show min (i + 1) 30 = i + 1 by omega, if_pos (show i + 1 ≤ 30 by omega), ← FK_next]
          rw [hmin, if_pos (show i ≤ 30 by omega), HQ.out, HJ.out] at ht7
          exact ht7)
        have HB7 := Lib.hid (Chg.go HB6.out hc7 (fun k hk => by subst hk; exact HL2.out.2) HB6.out.size)
        have HOWN7 := Lib.hid (own_keep HOWN6.out (fun k hk => hc7.block k (HOWN6.out.lt k hk).2 (fun e => HVN.out k hk (.inr (.inl e)))))
        clear ht7 hc7 hN hmin
        go_wp2_with fail
        go_roundw
        case rel => exact ⟨i + 1, by omega, by go_num, HT7.out, HB7.out, HOWN7.out⟩
        case measure => simp [intOf]; omega
      · have g2 : decide ((i : Int) < 30) = false := by simp; omega
        go_wp2_with fail
        have hmin : min i 30 = 30 := by omega
        have hN := FK_many HT6.out
        refine (HT6.out.many_ q (by have := HQ.out; omega) (by have := HQ.out; omega) (by rw [hmin]; unfold FK; rw [if_neg (by have := HQ.out; omega)]) (by rw [hN]; exact hmin) _).mono ?_
        rintro e w7 ⟨rfl, ht7, hc7⟩
        have HT7 := Lib.hid (show TXs w7 gd gb gl gt gm 100 0 (FK (min (i + 1) 30)) (if i + 1 ≤ 30 then 0 else 23) s from by
          rw [show min (i + 1) 30 = 30 by omega, if_neg (show ¬ i + 1 ≤ 30 by omega)]
          rw [hmin, show badB (if i ≤ 30 then 0 else 23) 23 = 23 by unfold badB; split <;> split <;> simp_all] at ht7
          exact ht7)
        have HB7 := Lib.hid (Chg.go HB6.out hc7 (fun k hk => by subst hk; exact HL2.out.1) HB6.out.size)
        have HOWN7 := Lib.hid (own_keep HOWN6.out (fun k hk => hc7.block k (HOWN6.out.lt k hk).2 (fun e => HVN.out k hk (.inr (.inr e)))))
        clear ht7 hc7 hN hmin
        go_wp2_with fail
        go_roundw
        case rel => exact ⟨i + 1, by omega, by go_num, HT7.out, HB7.out, HOWN7.out⟩
        case measure => simp [intOf]; omega
    · obtain rfl : i = mn := by omega
      have hN0 := FK_many HT.out
      by_cases h30 : i ≤ 30
      · rw [show min i 30 = i by omega, if_pos h30] at HT
        rw [show min i 30 = i by omega] at hN0
        go_wp2_with fail
        refine (txnCommit_ok HT.out (by rw [hN0]; exact h30)).mono ?_
        rintro e w6 ⟨L, hk, hlen, rfl, ht6, hc6⟩
        obtain ⟨a1, a2, a3⟩ := full_plain hk h30 (hlen.trans hN0) HAL.out
        rw [a2] at ht6
        rw [a1]
        have HA := Lib.hid a3
        have HT6 := Lib.hid ht6
        have HB6 := Lib.hid (Chg.go HB.out hc6 (fun k hk => by rcases hk with (rfl | rfl) | rfl | rfl; exact HLO.out.1; exact HLO.out.2; exact HL2.out.2; exact HL2.out.1) HB.out.size)
        obtain ⟨st, hst⟩ : ∃ st, st = (commit 0 (pageG (FK i)) L s).1 := ⟨_, rfl⟩
        rw [← hst] at HT6 HA
        clear hk hlen ht6 hc6 a1 a2 a3 hst hN0
        go_wp2_with fail
        refine (dxImage HT6.out.lxs.dxs).mono ?_
        rintro e w7 ⟨⟨v2, rfl, hown2⟩, hb7⟩
        obtain ⟨A2, c2, hform⟩ := own_form hown2
        subst hform
        have HT7 := Lib.hid (HT6.out.keep hb7)
        have HB7 := Lib.hid (bnext HB6.out hb7)
        have HOW7 := Lib.hid hown2
        have HLV := Lib.hid (fun x hx => (hown2.lt x hx).2)
        clear hown2 hb7
        have g30 : decide ((30 : Int) < i) = false := by simp; omega
        have g30' : ¬ (30 : Int) < i := by omega
        go_wp2_with fail
        go_loopw [75] (fun r wx => ∃ k : Nat, k ≤ i ∧ r = .int .i64 k ∧ Below w7.heap.size w7 wx) (fun r _ => i - (intOf r).toNat)
        case atStart => exact ⟨0, by omega, rfl, Below.refl _ _⟩
        case round =>
          obtain ⟨k, hk, rfl, hbl⟩ := hrel
          have HBL := Lib.hid hbl
          clear hbl
          by_cases hki : k < i
          · have g1 : (k : Int) < i := by omega
            obtain ⟨j, hj⟩ : ∃ j : Nat, j = k + 1 := ⟨_, rfl⟩
            have k1 : (k : Int) + 1 = (j : Int) := by omega
            have k2 : IntKind.u8.wrap (j : Int) = j := by simp [IntKind.wrap, IntKind.bits, IntKind.signed]; omega
            have k2' : IntKind.i64.wrap (j : Int) = j := by simp [IntKind.wrap, IntKind.bits, IntKind.signed]; omega
            obtain ⟨q, hq⟩ : ∃ q : Nat, q = 40 + k := ⟨_, rfl⟩
            have k3 : (40 : Int) + (k : Int) = (q : Int) := by omega
            have k3' : IntKind.i64.wrap (q : Int) = q := by simp [IntKind.wrap, IntKind.bits, IntKind.signed]; omega
            have k5 : q < 100 := by omega
            have k5' : (q : Int) < 100 := by omega
            have hpg : st.D q = blk j := by rw [hq, hj]; exact HA.out k hki
            have HPG := Lib.hid hpg
            obtain ⟨gx, hA2⟩ : ∃ gx, A2 = some ⟨gx, 0, none⟩ := by
              rcases HOW7.out.2 with ⟨h, _⟩ | ⟨gx, cap, cur, h, _⟩
              · injection h with h1 h2; omega
              · injection h with h1
                exact ⟨gx, h1⟩
            subst hA2
            have HPC := Lib.hid (show ∀ w', Below w7.heap.size w7 w' → ∀ a v, (rowArr 64 (pgC (blk j))).toList[a]? = some v → w'.cell? ⟨gx, q * 64 + a, none⟩ = some v from fun w' hb a v hv => by
              obtain ⟨h1, rfl⟩ := rowArr_get _ _ _ _ hv
              have hsr := SR.of_own (own_below HOW7.out hb)
              rcases hsr.2 with ⟨h, _⟩ | ⟨ad, cap, he, _, _, h3⟩
              · injection h with h1 h2; omega
              · injection he with he1
                cases he1
                have := (h3 (by omega)).2.2 (q * 64 + a) (by omega)
                rw [Nat.zero_add] at this
                rw [this]
                have h5 := rowL_at (100 * 64) (diskC st.D) (q * 64 + a) (by omega)
                rw [h5]
                unfold diskC pgC
                rw [show (q * 64 + a) / 64 = q by omega, show (q * 64 + a) % 64 = a by omega, HPG.out])
            have hbs : (Try.prog.info? 52).map (·.size) = some (rowArr 64 (pgC (blk j))).size := by rw [rowArr_size]; exact block_size
            clear hj hq hpg
            go_upto_region 23 with fail
            have hS : Below w7.heap.size w7 (World.drew wr) := bdrawn HBL.out
            refine wp_region_held (S := fun w' => Below w7.heap.size w7 w') (by kernel_rfl) ?_
            change wpAnyH _ _ _ _ _ _ _ _ (World.drew _)
            refine takeH 0 (.slice (some ⟨gx, 0, none⟩) 100 c2) (some 78) rfl rfl (by kernel_rfl) (by kernel_rfl) (by kernel_rfl) (fun _ _ _ h => h) (.inl ⟨by kernel_rfl, fun w _ => by go_simp⟩) hS ?_
            refine takeH 1 (.int .i64 k) (some 79) rfl rfl (by kernel_rfl) (by kernel_rfl) (by kernel_rfl) (fun _ _ _ h => h) (.inl ⟨by kernel_rfl, fun w _ => by go_simp⟩) hS ?_
            refine takeH 2 (.int .i64 q) (some 80) rfl rfl (by kernel_rfl) (by kernel_rfl) (by kernel_rfl) (fun _ _ _ h => h) (.inl ⟨by kernel_rfl, fun w _ => by go_simp⟩) hS ?_
            refine takeH 3 (.pointer (some ⟨gx, q * 64, none⟩)) (some 81) rfl rfl (by kernel_rfl) (by kernel_rfl) (by kernel_rfl) (fun _ _ _ h => h) (.inl ⟨by kernel_rfl, fun w _ => by go_simp⟩) hS ?_
            refine takeH 4 (.agg (rowArr 64 (pgC (blk j)))) (some 82) rfl rfl (by kernel_rfl) (by kernel_rfl) (by kernel_rfl) (fun _ _ _ h => h) (yi_piece (by rfl) 52 (.tmp 81) rfl gx (q * 64) (by go_simp; try rfl) (rowArr 64 (pgC (blk j))) _ (fun w hw => HPC.out w hw) block_under rfl hbs) hS ?_
            refine takeH 5 (.int .i64 k) (some 83) rfl rfl (by kernel_rfl) (by kernel_rfl) (by kernel_rfl) (fun _ _ _ h => h) (.inl ⟨by kernel_rfl, fun w _ => by go_simp⟩) hS ?_
            refine takeH 6 (.int .i64 j) (some 84) rfl rfl (by kernel_rfl) (by kernel_rfl) (by kernel_rfl) (fun _ _ _ h => h) (.inl ⟨by kernel_rfl, fun w _ => by go_simp⟩) hS ?_
            refine takeH 7 (.int .u8 j) (some 85) rfl rfl (by kernel_rfl) (by kernel_rfl) (by kernel_rfl) (fun _ _ _ h => h) (.inl ⟨by kernel_rfl, fun w _ => by go_simp⟩) hS ?_
            go_simp
            refine callH 8 rfl (by kernel_rfl) (by kernel_rfl) (some 86) rfl 48 #[.int .u8 j] ?hrun ((lawBlock_in j (by omega) _).mono ?_)
            case hrun => go_simp
            rintro e w8 ⟨rfl, hb8⟩
            have hS2 : Below w7.heap.size w7 w8 := hS.trans (hb8.mono hS.size)
            clear hS
            have hS := hS2
            clear hS2 hb8
            refine ⟨_, rfl, hS, ?_⟩
            go_simp
            refine takeH 9 (.bool false) (some 87) rfl rfl (by kernel_rfl) (by kernel_rfl) (by kernel_rfl) (fun _ _ _ h => h) (.inl ⟨by kernel_rfl, fun w _ => exec_neq (b := true) (xs := rowArr 64 (pgC (blk j))) (ys := rowArr 64 (pgC (blk j))) rfl (by go_simp) (by go_simp; try rfl) (by kernel_rfl) (pg_same (fun a => xor_le j a (by omega)) w)⟩) hS ?_
            refine wpAnyH_done (by kernel_rfl) ?_ _
            go_simp
            go_wp2_with fail
            go_roundw
            case rel =>
              first
                | exact ⟨k + 1, by omega, by go_num, hS⟩
                | (repeat apply Exists.intro
                   exact ⟨⟨k + 1, by omega, by go_num, hS⟩, rfl⟩)
            case measure => simp [intOf]; omega
          · obtain rfl : k = i := by omega
            have HT9 := Lib.hid (HT7.out.keep HBL.out)
            go_wp2_with fail
            refine (txnLen_ok HT9.out.toTX).mono ?_
            rintro e w9 ⟨rfl, rfl⟩
            rw [mapN_none HT9.out.mp.mp]
            go_wp2_with fail
            go_ret
            exact ⟨rfl, bnext HB7.out HBL.out⟩
      · rw [show min i 30 = 30 by omega, if_neg h30] at HT
        go_wp2_with fail
        refine (txnCommit_bad HT.out (by decide)).mono ?_
        rintro e w6 ⟨rfl, rfl⟩
        go_wp2_with fail
        refine (dxImage HT.out.lxs.dxs).mono ?_
        rintro e w7 ⟨⟨v2, rfl, hown2⟩, hb7⟩
        obtain ⟨A2, c2, hform⟩ := own_form hown2
        subst hform
        have HB7 := Lib.hid (bnext HB.out hb7)
        have hs2 := SR.of_own hown2
        have hs1 := SR.of_own (own_below HOWN.out hb7)
        have HS1 := Lib.hid hs1
        have HS2 := Lib.hid hs2
        have HU8 := Lib.hid HT.out.lx.dx.u8
        clear hown2 hb7 hs1 hs2 hN0
        have g30 : (30 : Int) < i := by omega
        go_wp2_with fail
        refine (same_true HS2.out HS1.out (U8s.row (fun k hk => ⟨s.D (k / 64) (k % 64), rfl, by omega, by have := HU8.out (k / 64) (k % 64); omega⟩)) (by omega)).mono ?_
        rintro e w8 ⟨rfl, hb8⟩
        have HB8 := Lib.hid (bnext HB7.out hb8)
        clear hb8
        go_wp2_with fail
        go_ret
        exact ⟨rfl, HB8.out⟩
end Go.Proofs.Ytonfnlohbgbffaa
