/- The law WalPlays. -/
import Derived.Test.YtonfnlohbgbffaaPwx
set_option linter.unusedVariables false
set_option linter.unusedSimpArgs false
namespace Go.Proofs.Ytonfnlohbgbffaa
open Go.RowKit

theorem wact_arg {W : World} {xs : List Value} {n : Nat} (h : ∀ i, i < n → ∃ m, Okay Try.prog W m 123 ((xs.drop (i * 4)).take 4)) (i : Nat) (hi : i < n) :
    ∃ (kd : Int) (x : Int) (b : Int) (raw : Bool), (xs.drop (i * 4)).take 4 = [.int .u8 kd, .int .i64 x, .int .u8 b, .bool raw] ∧ (0 ≤ kd ∧ kd ≤ 255) ∧ (-9223372036854775808 ≤ x ∧ x ≤ 9223372036854775807) ∧ (0 ≤ b ∧ b ≤ 255) := by
  obtain ⟨m, ho⟩ := h i hi
  have hk : cellKinds Try.prog 3 123 = some [⟨0, .u8, 0⟩, ⟨0, .i64, 0⟩, ⟨0, .u8, 0⟩, ⟨1, .i64, 0⟩] := by kernel_rfl
  have hf := Okay.fits 3 _ m _ _ ho hk
  obtain ⟨v0, us0, e0, ⟨kd, h0e, h0⟩, hf0⟩ := hf.cons
  obtain ⟨v1, us1, e1, ⟨x, h1e, h1⟩, hf1⟩ := hf0.cons
  obtain ⟨v2, us2, e2, ⟨b, h2e, h2⟩, hf2⟩ := hf1.cons
  obtain ⟨v3, us3, e3, ⟨raw, h3e⟩, hf3⟩ := hf2.cons
  have e4 := hf3.nil
  refine ⟨kd, x, b, raw, ?_, wf_u8 h0, wf_i64 h1, wf_u8 h2⟩
  rw [e0, e1, e2, e3, e4, h0e, h1e, h2e, h3e]
theorem wact_four : Try.prog.cellsOf 123 = 4 := by kernel_rfl
theorem wact_cells {w : World} {A : Option Addr} {n cap : Nat} {xs : List Value} (h : SR w (.slice A n cap) n 4 xs) (i : Nat) (hi : i < n) {a b c d : Value} (he : (xs.drop (i * 4)).take 4 = [a, b, c, d]) :
    ∃ g off, A = some ⟨g, off, none⟩ ∧ g < w.heap.size ∧ w.cell? ⟨g, off + i * 4, none⟩ = some a ∧ w.cell? ⟨g, off + i * 4 + 1, none⟩ = some b ∧ w.cell? ⟨g, off + i * 4 + 2, none⟩ = some c ∧ w.cell? ⟨g, off + i * 4 + 3, none⟩ = some d := by
  obtain ⟨g, off, rfl, hg, hc⟩ := h.at (by omega)
  have key : ∀ j, j < 4 → w.cell? ⟨g, off + i * 4 + j, none⟩ = [a, b, c, d][j]? := fun j hj => by
    rw [← he, List.getElem?_take_of_lt hj, List.getElem?_drop, Nat.add_assoc, hc _ (by omega)]
  exact ⟨g, off, rfl, hg, key 0 (by omega), key 1 (by omega), key 2 (by omega), key 3 (by omega)⟩
/-- Both sides of a round. -/
structure PW (W w : World) (gd gb gl gt gm gr gq gn gx base : Nat) (F : Int → Option (Nat → Nat)) (L : List Nat) (bad : Int) (s : DSt) : Prop where
  tx : TXs w gd gb gl gt gm 80 2 F bad s
  rt : RT w gr gq gn gx base 80 2 F L bad s
  bl : Below W.heap.size W w
/-- Where all lies. -/
structure PN (B gd gb gl gt gm gr gq gn gx base : Nat) : Prop where
  lt : gd < base ∧ gb < base ∧ gl < base ∧ gt < base ∧ gm < base
  d : gd ≠ gr ∧ gd ≠ gq ∧ gd ≠ gn ∧ gd ≠ gx
  b : gb ≠ gr ∧ gb ≠ gq ∧ gb ≠ gn ∧ gb ≠ gx
  l : gl ≠ gr ∧ gl ≠ gq ∧ gl ≠ gn ∧ gl ≠ gx
  t : gt ≠ gr ∧ gt ≠ gq ∧ gt ≠ gn ∧ gt ≠ gx
  m : gm ≠ gr ∧ gm ≠ gq ∧ gm ≠ gn ∧ gm ≠ gx
  lo : B ≤ gd ∧ B ≤ gb ∧ B ≤ gt ∧ B ≤ gm ∧ B ≤ gr ∧ B ≤ gq ∧ B ≤ gx ∧ B ≤ base
section
variable {W w w' : World} {gd gb gl gt gm gr gq gn gx base : Nat} {F F' : Int → Option (Nat → Nat)} {L L' : List Nat} {bad bad' : Int} {s s' : DSt} {S : Nat → Prop}
theorem PN.rt (h : PN W.heap.size gd gb gl gt gm gr gq gn gx base) (hr : RT w gr gq gn gx base 80 2 F L bad s) (c : Chg S w w') (hS : ∀ k, S k → cset gd gb gt gm k) : RT w' gr gq gn gx base 80 2 F L bad s :=
  hr.chg c (fun k e => by
    rcases hS k e with (rfl | rfl) | rfl | rfl
    · exact ⟨h.lt.1, h.d⟩
    · exact ⟨h.lt.2.1, h.b⟩
    · exact ⟨h.lt.2.2.2.2, h.m⟩
    · exact ⟨h.lt.2.2.2.1, h.t⟩)
theorem PN.tx (h : PN W.heap.size gd gb gl gt gm gr gq gn gx base) (ht : TXs w gd gb gl gt gm 80 2 F bad s) (c : Chg S w w') (hS : ∀ k, S k → k = gr ∨ k = gq ∨ k = gx ∨ base ≤ k) : TXs w' gd gb gl gt gm 80 2 F bad s :=
  ht.chg c (fun k e => by
    rcases hS k e with rfl | rfl | rfl | hk
    · exact ⟨h.d.1.symm, h.b.1.symm, h.l.1.symm, h.t.1.symm, h.m.1.symm⟩
    · exact ⟨h.d.2.1.symm, h.b.2.1.symm, h.l.2.1.symm, h.t.2.1.symm, h.m.2.1.symm⟩
    · exact ⟨h.d.2.2.2.symm, h.b.2.2.2.symm, h.l.2.2.2.symm, h.t.2.2.2.symm, h.m.2.2.2.symm⟩
    · obtain ⟨l1, l2, l3, l4, l5⟩ := h.lt
      exact ⟨Ne.symm (Nat.ne_of_lt (Nat.lt_of_lt_of_le l1 hk)), Ne.symm (Nat.ne_of_lt (Nat.lt_of_lt_of_le l2 hk)), Ne.symm (Nat.ne_of_lt (Nat.lt_of_lt_of_le l3 hk)), Ne.symm (Nat.ne_of_lt (Nat.lt_of_lt_of_le l4 hk)), Ne.symm (Nat.ne_of_lt (Nat.lt_of_lt_of_le l5 hk))⟩)
theorem PN.bl (h : PN W.heap.size gd gb gl gt gm gr gq gn gx base) (hb : Below W.heap.size W w) (c : Chg S w w') (hS : ∀ k, S k → cset gd gb gt gm k ∨ k = gr ∨ k = gq ∨ k = gx ∨ base ≤ k) : Below W.heap.size W w' :=
  Chg.go hb c (fun k e => by
    obtain ⟨l1, l2, l3, l4, l5, l6, l7, l8⟩ := h.lo
    rcases hS k e with ((rfl | rfl) | rfl | rfl) | rfl | rfl | rfl | hk
    · exact l1
    · exact l2
    · exact l4
    · exact l3
    · exact l5
    · exact l6
    · exact l7
    · exact Nat.le_trans l8 hk) hb.size
/-- The program's call, then the document's. -/
theorem PW.both (h : PN W.heap.size gd gb gl gt gm gr gq gn gx base) (hp : PW W w gd gb gl gt gm gr gq gn gx base F L bad s) {S' : Nat → Prop} {w2 : World} (ht : TXs w' gd gb gl gt gm 80 2 F' bad' s') (c : Chg S w w') (hS : ∀ k, S k → cset gd gb gt gm k)
    (hr : RT w2 gr gq gn gx base 80 2 F' L' bad' s') (c' : Chg S' w' w2) (hS' : ∀ k, S' k → k = gr ∨ k = gq ∨ k = gx ∨ base ≤ k) : PW W w2 gd gb gl gt gm gr gq gn gx base F' L' bad' s' :=
  ⟨h.tx ht c' hS', hr, h.bl (h.bl hp.bl c (fun k e => .inl (hS k e))) c' (fun k e => .inr (hS' k e))⟩
theorem PW.keep (hp : PW W w gd gb gl gt gm gr gq gn gx base F L bad s) (hb : Below w.heap.size w w') : PW W w' gd gb gl gt gm gr gq gn gx base F L bad s := ⟨hp.tx.keep hb, hp.rt.keep hb, bnext hp.bl hb⟩
end
set_option maxRecDepth 100000 in
set_option maxHeartbeats 40000000 in
theorem walPlays_walk (W : World) (v0 : Value) (o0 : Arg Try.prog W 118 v0) :
    Calls Try.prog 14 #[v0] W fun e w' => e = .returned (.bool true) ∧ Below W.heap.size W w' := by
  obtain ⟨N, xs, hsr, hact⟩ := SR.of_arg Try.underlying118 (by rw [wact_four]; omega) o0
  rw [wact_four] at hsr hact
  clear o0
  obtain ⟨A, cap, rfl, hlc, hcm⟩ := hsr.form
  have hact := fun i hi => wact_arg hact i hi
  have HS := Lib.hid hsr
  have HA := Lib.hid hact
  clear hsr hact
  go_enter Try.func14, Try.ntmps14
  go_wp2_with fail
  refine (walAwake_in W).mono ?_
  rintro e w0 ⟨rfl, hb0⟩
  have HB0 := Lib.hid hb0
  clear hb0
  go_wp2_with fail
  refine (dzNew 80 (by omega) _).mono ?_
  rintro e w1 ⟨gd, gb, rfl, hd1, hl1, hl2, hb1⟩
  have HB1 := Lib.hid (bnext HB0.out hb1)
  have HLO := Lib.hid (show W.heap.size ≤ gd ∧ W.heap.size ≤ gb from ⟨Nat.le_trans HB0.out.size hl1, Nat.le_trans HB0.out.size hl2⟩)
  clear hb1 hl1 hl2
  go_wp2_with fail
  refine (hd1.open_ 2 (by omega)).mono ?_
  rintro e w2 ⟨gl, rfl, hx2, hl3, hb2⟩
  have HB2 := Lib.hid (bnext HB1.out hb2)
  clear hd1 hb2 hl3
  go_wp2_with fail
  refine (lxFormat hx2).mono ?_
  rintro e w3 ⟨rfl, hx3, hc3⟩
  have HB3 := Lib.hid (Chg.go HB2.out hc3 (fun k hk => by rcases hk with rfl | rfl; exact HLO.out.1; exact HLO.out.2) HB2.out.size)
  obtain ⟨s0, hs0⟩ : ∃ s0, s0 = dz.put 2 (logB []) := ⟨_, rfl⟩
  have HAL := Lib.hid (show Alive s0 from hs0 ▸ dz_alive.put _ _)
  rw [← hs0] at hx3
  have HX3 := Lib.hid hx3
  clear hx2 hc3 hs0 hx3
  go_wp2_with fail
  refine (dxImage HX3.out.dxs).mono ?_
  rintro e w4 ⟨⟨v, rfl, hown⟩, hb4⟩
  have HX4 := Lib.hid (HX3.out.keep hb4)
  have HB4 := Lib.hid (bnext HB3.out hb4)
  obtain ⟨gq, hq1, hq2, hq3, hrl⟩ := refMade (first := 2) hown (by omega) (by omega) HX3.out.dx.u8 HAL.out (by omega)
  obtain ⟨A1, c1, hform⟩ := own_form hown
  subst hform
  obtain ⟨w5, hw5⟩ : ∃ w5, w5 = (w4.alloc (.cells #[.slice A1 80 c1, .int .i64 (-1), .bool false, .int .i64 0, .int .i64 0] 108)).alloc (.cells #[.pointer (some ⟨w4.heap.size, 0, none⟩), .int .i64 2] 110) := ⟨_, rfl⟩
  have HRL := Lib.hid (show RL w5 w4.heap.size gq (w4.heap.size + 1) 80 2 s0 from by rw [hw5]; exact hrl)
  have HQ := Lib.hid (show w3.heap.size ≤ gq ∧ gq < w4.heap.size from ⟨hq1, hq2⟩)
  have hbn : Below w4.heap.size w4 w5 := by rw [hw5]; exact bnewAfter (bnew w4 _) _
  have HX5 := Lib.hid (HX4.out.keep hbn)
  have HB5 := Lib.hid (bnext HB4.out hbn)
  have HLT := Lib.hid HX3.out.toLX.lt
  have HSZ := Lib.hid hb4.size
  have HS5 := Lib.hid (show w5.heap.size = w4.heap.size + 2 from by rw [hw5]; simp)
  clear hown hb4 hq1 hq2 hq3 hrl hbn
  go_upto_region 7 with fail
  rw [← hw5]
  clear hw5
  obtain ⟨gn, hgn⟩ : ∃ gn, gn = w4.heap.size + 1 := ⟨_, rfl⟩
  rw [← hgn] at HRL ⊢
  obtain ⟨gr, hgr⟩ : ∃ gr, gr = w4.heap.size := ⟨_, rfl⟩
  rw [← hgr] at HRL hgn ⊢
  have HGR := Lib.hid (show gr = w4.heap.size ∧ gn = gr + 1 from ⟨hgr, hgn⟩)
  clear hgn hgr
  go_wp2_with fail
  refine HX5.out.begin_.mono ?_
  rintro e w6 ⟨gt, gm, rfl, ht6, hl5, hl6, hb6⟩
  obtain ⟨w7, hw7⟩ : ∃ w7, w7 = w6.alloc (.cells #[.pointer (some ⟨gn, 0, none⟩), .slice none 0 0, .slice none 0 0, .int .i64 0] 121) := ⟨_, rfl⟩
  have hb7 : Below w6.heap.size w6 w7 := by rw [hw7]; exact bnew _ _
  have hs7 : w7.heap.size = w6.heap.size + 1 := by rw [hw7]; simp
  have hrow7 : w7.rowIs w6.heap.size 121 4 (txR gn (.slice none 0 0) (.slice none 0 0) 0) := by
    rw [hw7]
    exact World.rowIs_alloc _ _ _ _ (fun i hi => by rcases i with _ | _ | _ | _ | i; rfl; rfl; rfl; rfl; simp at hi; omega)
  have HPW := Lib.hid (show PW W w7 gd gb gl gt gm gr gq gn w6.heap.size (w6.heap.size + 1) (fun _ => none) [] 0 s0 from by
    have h1 := HRL.out.lt
    have h2 := hb6.size
    refine ⟨ht6.keep hb7, ⟨(HRL.out.keep hb6).keep hb7, ⟨_, _, hrow7, OwnN.nil _ _, OwnP.nil _ _ _⟩, ⟨by omega, by omega⟩, ⟨List.Pairwise.nil, (fun k hk => by cases hk), (fun x hx => absurd rfl hx)⟩, by simp, (fun k f hf => by cases hf)⟩, bnext (bnext HB5.out hb6) hb7⟩)
  have HPN := Lib.hid (show PN W.heap.size gd gb gl gt gm gr gq gn w6.heap.size (w6.heap.size + 1) from by
    have h1 := HRL.out.lt
    have h2 := hb6.size
    have h3 := ht6.toTX.lt
    have h4 := HLT.out
    have h5 := HQ.out
    have h6 := HSZ.out
    have h7 := HGR.out
    have h8 := HS5.out
    have h9 := HLO.out
    have h10 := HB3.out.size
    exact ⟨by omega, by omega, by omega, by omega, by omega, by omega, by omega⟩)
  clear ht6 hl5 hl6 hb6 hb7 hs7 hrow7
  go_upto_region 8 with fail
  rw [← hw7]
  clear hw7
  obtain ⟨gx, hgx⟩ : ∃ gx, gx = w6.heap.size := ⟨_, rfl⟩
  obtain ⟨base, hbase⟩ : ∃ base, base = w6.heap.size + 1 := ⟨_, rfl⟩
  rw [← hbase, ← hgx] at HPW HPN
  rw [← hgx]
  clear hgx hbase HRL HX5 HB5 HLT HSZ HGR HS5 HQ HX4 HB4 HX3 HB3 HB2 HB1 HB0
  go_wp2_with fail
  go_loopw [47] (fun r wx => ∃ (i : Nat) (F : Int → Option (Nat → Nat)) (L : List Nat) (bad : Int) (s : DSt), i ≤ N ∧ r = .int .i64 i ∧ PW W wx gd gb gl gt gm gr gq gn gx base F L bad s) (fun r _ => N - (intOf r).toNat)
  case atStart => exact ⟨0, _, _, _, _, by omega, rfl, HPW.out⟩
  case round =>
    obtain ⟨i, F, L, bad, s, hi, rfl, hpw⟩ := hrel
    have HP := Lib.hid hpw
    clear hpw HPW
    by_cases hlt : i < N
    · have g1 : (i : Int) < N := by omega
      obtain ⟨kd, x, b, raw, he, hkd, hx, hbb⟩ := HA.out i hlt
      obtain ⟨ga, off, rfl, hga, c0, c1, c2, c3⟩ := wact_cells HS.out i hlt he
      have hBW := HP.out.bl
      have a0 := (hBW.cell (by exact hga)).trans c0
      have a1 := (hBW.cell (by exact hga)).trans c1
      have a2 := (hBW.cell (by exact hga)).trans c2
      have a3 := (hBW.cell (by exact hga)).trans c3
      clear c0 c1 c2 c3 he hBW hga
      have hbN := bnew wr (.cells #[.int .u8 kd, .int .i64 x, .int .u8 b, .bool raw] 123)
      have HPN2 := Lib.hid (HP.out.keep hbN)
      by_cases h120 : 120 < i
      · have h120' : (120 : Int) < (i : Int) := by omega
        clear hbN
        go_wp2_with fail
        go_ret
        exact ⟨rfl, HPN2.out.bl⟩
      · have h120' : decide ((120 : Int) < (i : Int)) = false := by rw [decide_eq_false_iff_not]; omega
        have hrow := heap_alloc_last wr (.cells #[.int .u8 kd, .int .i64 x, .int .u8 b, .bool raw] 123)
        go_upto_if 58 with fail
        obtain ⟨wA, hwA⟩ : ∃ wA, wA = wr.alloc (.cells #[.int .u8 kd, .int .i64 x, .int .u8 b, .bool raw] 123) := ⟨_, rfl⟩
        rw [← hwA] at HPN2 hrow ⊢
        have hq := rowlt hrow
        have HQB := Lib.hid (show base ≤ wr.heap.size from HP.out.rt.lt.2)
        clear hwA hbN HP a0 a1 a2 a3
        obtain ⟨q, hqq⟩ : ∃ q, q = wr.heap.size := ⟨_, rfl⟩
        rw [← hqq] at hrow hq HQB ⊢
        clear hqq
        have HROW := Lib.hid (show wA.rowIs q 123 4 (fun j => #[Value.int .u8 kd, .int .i64 x, .int .u8 b, .bool raw].toList.getD j undef) from ⟨_, hrow, rfl, fun j hj => by
          have : j = 0 ∨ j = 1 ∨ j = 2 ∨ j = 3 := by omega
          rcases this with rfl | rfl | rfl | rfl <;> rfl⟩)
        clear hrow hq
        have q0 := HROW.out.cell (i := 0) (by omega)
        have q1 := HROW.out.cell (i := 1) (by omega)
        have q3 := HROW.out.cell (i := 3) (by omega)
        go_cut [12] (fun s12 wx => ∃ y : Int, s12 = .int .i64 y ∧ (-9223372036854775808 ≤ y ∧ y ≤ 9223372036854775807) ∧ wx = wA)
        case first =>
          cases raw
          · go_wp2_with fail
            go_meet
            first
              | exact ⟨_, rfl, wf_i64 (wrap64_wf _), rfl⟩
              | exact ⟨_, rfl, by omega, rfl⟩
          · go_wp2_with fail
            go_meet
            exact ⟨_, rfl, hx, rfl⟩
        case rest =>
          obtain ⟨y, rfl, hy, rfl⟩ := hcut
          go_at_K
          go_step
          go_step
          have q2 : wc.cell? ⟨q, 2, none⟩ = some (.int .u8 b) := HROW.out.cell (i := 2) (by omega)
          have hkd0 := hkd.1
          have hkd1 := hkd.2
          have hb0 := hbb.1
          have hb1 := hbb.2
          clear q1 q3
          obtain ⟨bn, hbn⟩ : ∃ bn : Nat, (bn : Int) = b := ⟨b.toNat, by omega⟩
          subst hbn
          have hbn255 : bn ≤ 255 := by omega
          have HPa := HPN2
          clear HPN2
          go_cut [] (fun wx => ∃ (F' : Int → Option (Nat → Nat)) (L' : List Nat) (bad' : Int) (s' : DSt), PW W wx gd gb gl gt gm gr gq gn gx base F' L' bad' s')
          case first =>
            by_cases k4 : kd % 8 = 4
            · as_aux_lemma =>
              obtain ⟨⟨fg, cg⟩, hG⟩ : ∃ R, R = getV F s.D 80 y := ⟨_, rfl⟩
              have HU8 := Lib.hid (show ∀ a, fg a ≤ 255 from fun a => by have := getV_u8 HPa.out.tx y a; rw [← hG] at this; exact this)
              have HTG := txGet HPa.out.tx y hy
              rw [← hG] at HTG
              have HRG := Lib.hid (show ∀ w', RT w' gr gq gn gx base 80 2 F L bad s → Calls Try.prog 59 #[.pointer (some ⟨gx, 0, none⟩), .int .i64 y] w' fun e w2 => e = .returned (.tuple #[pageV fg, .int .i64 cg]) ∧ RT w2 gr gq gn gx base 80 2 F L bad s ∧ Chg (dset gr gq) w' w2 from fun w' hr => by
                have := refGet_in hr y
                rw [← hG] at this
                exact this)
              dsimp only at HTG
              clear hG
              go_wp2_with fail
              refine HTG.mono ?_
              rintro e w8 ⟨rfl, ⟨cc, ht8⟩, hc8⟩
              clear HTG
              have HT8 := Lib.hid ht8
              have HR8 := Lib.hid (HPN.out.rt HPa.out.rt hc8 (fun k e => .inl e))
              have HB8 := Lib.hid (HPN.out.bl HPa.out.bl hc8 (fun k e => .inl (.inl e)))
              clear ht8 hc8
              go_wp2_with (first
                | (refine wpList_new_row rfl 52 rfl (some 13) rfl 64 _ page_zero ?_; intro w9 G1 hG9 hr9 hb9; have HG1 := Lib.hid hG9; have HT9 := Lib.hid (HT8.out.keep hb9); have HR9 := Lib.hid (HR8.out.keep hb9); have HB9 := Lib.hid (bnext HB8.out hb9); have HW9 := Lib.hid hr9; have HZ9 := Lib.hid hb9; clear hG9 hr9 hb9)
                | (refine wpList_row_store rfl 52 (.tmp 13) (.tmp 86) rfl rfl G1 64 _ (pgC fg) (by go_simp) (by go_simp; try rfl) HW9.out (fun _ _ => rfl) block_size ?_; intro w10 hr10 o10; have HW10 := Lib.hid hr10; have HZ10 := Lib.hid (bone HZ9.out o10 HG1.out HZ9.out.size); clear hr10 o10))
              have HT10 := Lib.hid (HT8.out.keep HZ10.out)
              have HR10 := Lib.hid (HR8.out.keep HZ10.out)
              have HB10 := Lib.hid (bnext HB8.out HZ10.out)
              clear HT9 HR9 HB9 HW9 HZ9
              refine (HRG.out _ HR10.out).mono ?_
              rintro e w11 ⟨rfl, hr11, hc11⟩
              have HR11 := Lib.hid hr11
              have HT11 := Lib.hid (HPN.out.tx HT10.out hc11 (fun k e => by rcases e with e | e; exact .inl e; exact .inr (.inl e)))
              have HB11 := Lib.hid (HPN.out.bl HB10.out hc11 (fun k e => by rcases e with e | e; exact .inr (.inl e); exact .inr (.inr (.inl e))))
              have HG11 := Lib.hid (show w11.rowIs G1 52 64 (pgC fg) from hc11.row HW10.out (fun e => by
                have h1 := HG1.out; have h2 := HR8.out.rl.lt
                rcases e with e | e <;> omega))
              clear hr11 hc11
              go_wp2_with (first
                | (refine wpList_new_row rfl 52 rfl (some 15) rfl 64 _ page_zero ?_; intro w12 G2 hG12 hr12 hb12; have HG2 := Lib.hid hG12; have HW12 := Lib.hid hr12; have HZ12 := Lib.hid hb12; clear hG12 hr12 hb12)
                | (refine wpList_row_store rfl 52 (.tmp 15) (.tmp 92) rfl rfl G2 64 _ (pgC fg) (by go_simp) (by go_simp; try rfl) HW12.out (fun _ _ => rfl) block_size ?_; intro w13 hr13 o13; have HW13 := Lib.hid hr13; have HZ13 := Lib.hid (bone HZ12.out o13 HG2.out HZ12.out.size); have HG13 := Lib.hid (rowIs_below HG11.out HZ13.out); clear hr13 o13)
                | (refine wpList_row_load (by kernel_rfl) 52 (.tmp 13) rfl (some 94) rfl G1 64 (pgC fg) (by go_simp) HG13.out _ block_under rfl block_size ?_)
                | (refine wpList_row_load (by kernel_rfl) 52 (.tmp 15) rfl (some 95) rfl G2 64 (pgC fg) (by go_simp) HW13.out _ block_under rfl block_size ?_)
                | (refine wpList_by (by kernel_rfl) (some 96) rfl (exec_neq (b := true) (xs := rowArr 64 (pgC fg)) (ys := rowArr 64 (pgC fg)) rfl (by go_simp; try rfl) (by go_simp; try rfl) (by kernel_rfl) (pg_same HU8.out _)) ?_))
              go_meet
              exact ⟨F, L, bad, _, HT11.out.keep HZ13.out, (HR11.out.setC cc).keep HZ13.out, bnext HB11.out HZ13.out⟩
            by_cases k5 : kd % 8 = 5
            · as_aux_lemma =>
              obtain ⟨⟨cc, s2, F2, L2, b2⟩, hR⟩ : ∃ R, R = cmRes 2 F L bad s := ⟨_, rfl⟩
              have HTC := txCommit HPa.out.tx HPa.out.rt.keys HPa.out.rt.len
              have HRC := Lib.hid (show ∀ w', RT w' gr gq gn gx base 80 2 F L bad s → Calls Try.prog 60 #[.pointer (some ⟨gx, 0, none⟩)] w' fun e w2 => e = .returned (.int .i64 cc) ∧ RT w2 gr gq gn gx base 80 2 F2 L2 b2 s2 ∧ Chg (rset gr gq gx) w' w2 from fun w' hr => by
                have := rtCommit hr
                rw [← hR] at this
                exact this)
              rw [← hR] at HTC
              dsimp only at HTC
              have nk4 : (kd % 8 == 4) = false := by rw [beq_eq_false_iff_ne]; exact k4
              clear hR
              go_wp2_with fail
              refine HTC.mono ?_
              rintro e w8 ⟨rfl, ht8, hc8⟩
              clear HTC
              have HT8 := Lib.hid ht8
              have HC8 := Lib.hid hc8
              have HR8 := Lib.hid (HPN.out.rt HPa.out.rt hc8 (fun k e => e))
              clear ht8 hc8
              go_wp2_with fail
              refine (HRC.out _ HR8.out).mono ?_
              rintro e w9 ⟨rfl, hr9, hc9⟩
              have HPW := Lib.hid (PW.both HPN.out HPa.out HT8.out HC8.out (fun k e => e) hr9 hc9 (fun k e => by rcases e with (e | e) | e; exact .inl e; exact .inr (.inl e); exact .inr (.inr (.inl e))))
              clear hr9 hc9
              go_wp2_with fail
              go_meet
              exact ⟨_, _, _, _, HPW.out⟩
            by_cases k6 : kd % 8 = 6
            · as_aux_lemma =>
              have nk4 : (kd % 8 == 4) = false := by rw [beq_eq_false_iff_ne]; exact k4
              have nk5 : (kd % 8 == 5) = false := by rw [beq_eq_false_iff_ne]; exact k5
              go_wp2_with fail
              refine (txDrop HPa.out.tx).mono ?_
              rintro e w8 ⟨rfl, ht8, hc8⟩
              have HT8 := Lib.hid ht8
              have HC8 := Lib.hid hc8
              have HR8 := Lib.hid (HPN.out.rt HPa.out.rt hc8 (fun k e => by rcases e with e | e; exact .inr (.inl e); exact .inr (.inr e)))
              clear ht8 hc8
              go_wp2_with fail
              refine (refDrop_in HR8.out).mono ?_
              rintro e w9 ⟨rfl, hr9, o9⟩
              have HPW := Lib.hid (PW.both HPN.out HPa.out HT8.out HC8.out (fun k e => by rcases e with e | e; exact .inr (.inl e); exact .inr (.inr e)) hr9 ((Chg.of_below (fun k => k = gx) (Below.refl w8.heap.size w8)).one o9 (.inl rfl)) (fun k e => .inr (.inr (.inl e))))
              clear hr9 o9
              go_wp2_with fail
              go_meet
              exact ⟨_, _, _, _, HPW.out⟩
            by_cases k7 : kd % 8 = 7
            · have nk4 : (kd % 8 == 4) = false := by rw [beq_eq_false_iff_ne]; exact k4
              have nk5 : (kd % 8 == 5) = false := by rw [beq_eq_false_iff_ne]; exact k5
              have nk6 : (kd % 8 == 6) = false := by rw [beq_eq_false_iff_ne]; exact k6
              by_cases hb4 : bn % 4 = 0
              · as_aux_lemma =>
                have e1 : (bn : Int) % 4 = 0 := by omega
                have e2 : (bn : Int).tmod 4 = 0 := by rw [Int.tmod_eq_emod_of_nonneg (by omega)]; omega
                go_wp2_with fail
                refine (dxWake HPa.out.tx.lxs.dxs).mono ?_
                rintro e w8 ⟨rfl, hd8, hc8⟩
                have HT8 := Lib.hid (HPa.out.tx.setD hc8 hd8)
                have HR8 := Lib.hid (HPN.out.rt HPa.out.rt hc8 (fun k e => .inl e))
                have HC8 := Lib.hid hc8
                have n0 := HR8.out.rl.c0
                have hne := HR8.out.rl.ne.1
                have hne2 := HR8.out.rl.ne.1.symm
                obtain ⟨da, db, dex, dC, hdk, _, _⟩ := HR8.out.rl.dx.dk
                have r1 := hdk.c1
                have r2 := hdk.c2
                have rf := hdk.row.frozen
                clear hd8 hc8 hdk q0 q2
                obtain ⟨s3, hs3⟩ : ∃ s3 : DSt, s3 = ⟨s.D, -1, false, s.c⟩ := ⟨_, rfl⟩
                have HPW := Lib.hid (show PW W ((w8.setCell ⟨gr, 2, none⟩ (.bool false)).setCell ⟨gr, 1, none⟩ (.int .i64 (-1))) gd gb gl gt gm gr gq gn gx base F L bad s3 from by
                  rw [hs3]
                  exact PW.both HPN.out HPa.out HT8.out HC8.out (fun k e => .inl e) ((HR8.out.setDead false).setLeft (-1) (by omega) (by omega)) (((Chg.of_below (fun k => k = gr) (Below.refl w8.heap.size w8)).one (one_setCell w8 gr 2 _) (.inl rfl)).one (one_setCell _ gr 1 _) (.inl rfl)) (fun k e => .inl e))
                clear hs3
                go_upto_region 34 with fail
                go_region
                have HPW2 := Lib.hid (HPW.out.keep (drewb _))
                clear n0 r1 r2 rf hne hne2
                obtain ⟨w9, hw9⟩ : ∃ w9, w9 = World.drew ((w8.setCell ⟨gr, 2, none⟩ (.bool false)).setCell ⟨gr, 1, none⟩ (.int .i64 (-1))) := ⟨_, rfl⟩
                rw [← hw9] at HPW2
                first
                  | rw [← hw9]
                  | (change _ at hw9)
                clear hw9
                obtain ⟨⟨s4, N4, C4⟩, hR⟩ : ∃ R : DSt × Nat × Int, R = recov 2 80 s3 := ⟨_, rfl⟩
                have HRV := walRecover HPW2.out.tx.lxs
                have HRR := Lib.hid (show ∀ w', RT w' gr gq gn gx base 80 2 F L bad s3 → Calls Try.prog 54 #[.pointer (some ⟨gn, 0, none⟩)] w' fun e w2 => e = .returned (.tuple #[.int .i64 N4, .int .i64 C4]) ∧ RT w2 gr gq gn gx base 80 2 F L bad s4 ∧ Chg (dset gr gq) w' w2 from fun w' hr => by
                  have := refRecover_in hr.rl
                  rw [← hR] at this
                  exact this.mono (fun e w2 ⟨h1, h2, h3⟩ => ⟨h1, hr.setD h3 h2.dx, h3⟩))
                rw [← hR] at HRV
                dsimp only at HRV
                clear hR
                go_wp2_with fail
                refine HRV.mono ?_
                rintro e wE ⟨rfl, hxE, hcE⟩
                clear HRV
                have HTE := Lib.hid (HPW2.out.tx.setD hcE hxE.dxs)
                have HCE := Lib.hid hcE
                have HRE := Lib.hid (HPN.out.rt HPW2.out.rt hcE (fun k e => .inl e))
                clear hxE hcE
                go_wp2_with fail
                refine (HRR.out _ HRE.out).mono ?_
                rintro e wF ⟨rfl, hrF, hcF⟩
                have HPWF := Lib.hid (PW.both HPN.out HPW2.out HTE.out HCE.out (fun k e => .inl e) hrF hcF (fun k e => by rcases e with e | e; exact .inl e; exact .inr (.inl e)))
                clear hrF hcF
                go_wp2_with fail
                go_meet
                exact ⟨_, _, _, _, HPWF.out⟩
              · as_aux_lemma =>
                obtain ⟨b4, hb4'⟩ : ∃ b4, b4 = bn % 4 := ⟨_, rfl⟩
                have e1 : (bn : Int) % 4 = (b4 : Int) := by omega
                have e2 : (bn : Int).tmod 4 = (b4 : Int) := by rw [Int.tmod_eq_emod_of_nonneg (by omega)]; omega
                have e3 : (0 : Int) < (b4 : Int) := by omega
                obtain ⟨bm, hbm⟩ : ∃ bm, bm = bn % 40 := ⟨_, rfl⟩
                have m1 : (bn : Int) % 40 = (bm : Int) := by omega
                have m2 : (bn : Int).tmod 40 = (bm : Int) := by rw [Int.tmod_eq_emod_of_nonneg (by omega)]; omega
                have m3 : IntKind.u8.wrap (bm : Int) = bm := by simp [IntKind.wrap, IntKind.bits, IntKind.signed]; omega
                have m4 : IntKind.i64.wrap (bm : Int) = bm := by simp [IntKind.wrap, IntKind.bits, IntKind.signed]; omega
                have hbm40 : bm < 40 := by omega
                clear hb4' hbm hb4
                go_wp2_with fail
                refine (dxArm HPa.out.tx.lxs.dxs bm (by omega)).mono ?_
                rintro e w8 ⟨rfl, hd8, hc8⟩
                have HT8 := Lib.hid (HPa.out.tx.setD hc8 hd8)
                have HR8 := Lib.hid (HPN.out.rt HPa.out.rt hc8 (fun k e => .inl e))
                have HC8 := Lib.hid hc8
                have HROW8 := Lib.hid (hc8.row HROW.out (fun e => by have h1 := HPN.out.lt; have h2 := HQB.out; rcases e with e | e <;> omega))
                have p2 : w8.cell? ⟨q, 2, none⟩ = some (.int .u8 (bn : Int)) := HROW8.out.cell (i := 2) (by omega)
                have n0 := HR8.out.rl.c0
                obtain ⟨da, db, dex, dC, hdk, _, _⟩ := HR8.out.rl.dx.dk
                have r1 := hdk.c1
                have rf := hdk.row.frozen
                clear hd8 hc8 hdk q0 q2
                have HPW := Lib.hid (PW.both HPN.out HPa.out HT8.out HC8.out (fun k e => .inl e) (HR8.out.setLeft bm (by omega) (by omega)) ((Chg.of_below (fun k => k = gr) (Below.refl w8.heap.size w8)).one (one_setCell w8 gr 1 _) (.inl rfl)) (fun k e => .inl e))
                go_upto_region 32 with fail
                go_region
                go_wp2_with fail
                go_meet
                exact ⟨_, _, _, _, HPW.out.keep (drewb _)⟩
            · as_aux_lemma =>
              have nk4 : (kd % 8 == 4) = false := by rw [beq_eq_false_iff_ne]; exact k4
              have nk5 : (kd % 8 == 5) = false := by rw [beq_eq_false_iff_ne]; exact k5
              have nk6 : (kd % 8 == 6) = false := by rw [beq_eq_false_iff_ne]; exact k6
              have nk7 : (kd % 8 == 7) = false := by rw [beq_eq_false_iff_ne]; exact k7
              obtain ⟨f, hf⟩ : ∃ f : Nat → Nat, f = fun a => bn ^^^ (a % 64) := ⟨_, rfl⟩
              have HF := Lib.hid (show ∀ a, f a ≤ 255 from fun a => by rw [hf]; exact xor_le bn a hbn255)
              have HBK := Lib.hid (show ∀ w', Calls Try.prog 48 #[.int .u8 (bn : Int)] w' fun e w2 => e = .returned (pageV f) ∧ Below w'.heap.size w' w2 from fun w' => by rw [hf]; exact lawBlock_in bn hbn255 w')
              clear hf
              obtain ⟨⟨pc, F2, b2⟩, hR⟩ : ∃ R, R = putRes 80 2 F L bad y f := ⟨_, rfl⟩
              have HTP := Lib.hid (show ∀ w', TXs w' gd gb gl gt gm 80 2 F bad s → Calls Try.prog 34 #[.pointer (some ⟨gt, 0, none⟩), .int .i64 y, pageV f] w' fun e w2 => e = .returned (.int .i64 pc) ∧ TXs w2 gd gb gl gt gm 80 2 F2 b2 s ∧ Chg (fun k => k = gm ∨ k = gt) w' w2 from fun w' ht => by
                have := txPut ht HPa.out.rt.keys y HF.out
                rw [← hR] at this
                exact this)
              have HRP := Lib.hid (show ∀ w', RT w' gr gq gn gx base 80 2 F L bad s → Calls Try.prog 62 #[.pointer (some ⟨gx, 0, none⟩), .int .i64 y, pageV f] w' fun e w2 => e = .returned (.int .i64 pc) ∧ (∃ L', RT w2 gr gq gn gx base 80 2 F2 L' b2 s) ∧ Chg (pset w' gx base) w' w2 from fun w' hr => by
                have := rtPut hr y HF.out
                rw [← hR] at this
                exact this)
              clear hR
              go_upto_region 16 with fail
              obtain ⟨rowf, hrowf⟩ : ∃ rowf, rowf = (fun j => #[Value.int .u8 kd, .int .i64 x, .int .u8 (bn : Int), .bool raw].toList.getD j undef) := ⟨_, rfl⟩
              rw [← hrowf] at HROW
              have HC2 := Lib.hid (show ∀ w' : World, w'.rowIs q 123 4 rowf → w'.cell? ⟨q, 2, none⟩ = some (.int .u8 (bn : Int)) from fun w' hw => by
                have := hw.cell (i := 2) (by omega)
                rw [hrowf] at this
                exact this)
              clear hrowf
              have hS : (World.drew wc).rowIs q 123 4 rowf := HROW.out
              refine wp_region_held (S := fun w' => w'.rowIs q 123 4 rowf) (by kernel_rfl) ?_
              change wpAnyH _ _ _ _ _ _ _ _ (World.drew _)
              refine takeH 0 (.pointer (some ⟨gt, 0, none⟩)) (some 67) rfl rfl (by kernel_rfl) (by kernel_rfl) (by kernel_rfl) (fun _ _ _ h => h) (.inl ⟨by kernel_rfl, fun w _ => by go_simp⟩) hS ?_
              refine takeH 1 (.int .i64 y) (some 68) rfl rfl (by kernel_rfl) (by kernel_rfl) (by kernel_rfl) (fun _ _ _ h => h) (.inl ⟨by kernel_rfl, fun w _ => by go_simp⟩) hS ?_
              refine takeH 2 (.pointer (some ⟨q, 2, none⟩)) (some 69) rfl rfl (by kernel_rfl) (by kernel_rfl) (by kernel_rfl) (fun _ _ _ h => h) (.inl ⟨by kernel_rfl, fun w _ => by go_simp⟩) hS ?_
              go_simp
              refine takeH 3 (.int .u8 (bn : Int)) (some 70) rfl rfl (by kernel_rfl) (by kernel_rfl) (by kernel_rfl) (fun _ _ _ h => h) (.inl ⟨by kernel_rfl, fun w hw => by have hc := HC2.out w hw; go_simp⟩) hS ?_
              go_simp
              refine takeH 6 (.pointer (some ⟨gx, 0, none⟩)) (some 73) rfl rfl (by kernel_rfl) (by kernel_rfl) (by kernel_rfl) (fun _ _ _ h => h) (.inl ⟨by kernel_rfl, fun w _ => by go_simp⟩) hS ?_
              refine takeH 7 (.int .i64 y) (some 74) rfl rfl (by kernel_rfl) (by kernel_rfl) (by kernel_rfl) (fun _ _ _ h => h) (.inl ⟨by kernel_rfl, fun w _ => by go_simp⟩) hS ?_
              refine takeH 8 (.pointer (some ⟨q, 2, none⟩)) (some 75) rfl rfl (by kernel_rfl) (by kernel_rfl) (by kernel_rfl) (fun _ _ _ h => h) (.inl ⟨by kernel_rfl, fun w _ => by go_simp⟩) hS ?_
              go_simp
              refine takeH 9 (.int .u8 (bn : Int)) (some 76) rfl rfl (by kernel_rfl) (by kernel_rfl) (by kernel_rfl) (fun _ _ _ h => h) (.inl ⟨by kernel_rfl, fun w hw => by have hc := HC2.out w hw; go_simp⟩) hS ?_
              go_simp
              refine callH 4 rfl (by kernel_rfl) (by kernel_rfl) (some 71) rfl 48 #[.int .u8 (bn : Int)] ?hrun ((HBK.out _).mono ?_)
              case hrun => go_simp; try rfl
              rintro e w8 ⟨rfl, hb8⟩
              have HP8 := Lib.hid ((HPa.out.keep (drewb wc)).keep hb8)
              have hS8 : w8.rowIs q 123 4 rowf := rowIs_below hS hb8
              refine ⟨_, rfl, hS8, ?_⟩
              go_simp
              clear hb8
              refine callH 5 rfl (by kernel_rfl) (by kernel_rfl) (some 72) rfl 34 #[.pointer (some ⟨gt, 0, none⟩), .int .i64 y, pageV f] ?hrun ((HTP.out _ HP8.out.tx).mono ?_)
              case hrun => go_simp; try rfl
              rintro e w9 ⟨rfl, ht9, hc9⟩
              have HT9 := Lib.hid ht9
              have HR9 := Lib.hid (HPN.out.rt HP8.out.rt hc9 (fun k e => by rcases e with e | e; exact .inr (.inl e); exact .inr (.inr e)))
              have HB9 := Lib.hid (HPN.out.bl HP8.out.bl hc9 (fun k e => by rcases e with e | e; exact .inl (.inr (.inl e)); exact .inl (.inr (.inr e))))
              have hS9 : w9.rowIs q 123 4 rowf := hc9.row hS8 (fun e => by have h1 := HPN.out.lt; have h2 := HQB.out; rcases e with e | e <;> omega)
              refine ⟨_, rfl, hS9, ?_⟩
              go_simp
              clear ht9 hc9
              refine callH 10 rfl (by kernel_rfl) (by kernel_rfl) (some 77) rfl 48 #[.int .u8 (bn : Int)] ?hrun ((HBK.out _).mono ?_)
              case hrun => go_simp; try rfl
              rintro e wE ⟨rfl, hbE⟩
              have HTE := Lib.hid (HT9.out.keep hbE)
              have HRE := Lib.hid (HR9.out.keep hbE)
              have HBE := Lib.hid (bnext HB9.out hbE)
              have hSE : wE.rowIs q 123 4 rowf := rowIs_below hS9 hbE
              refine ⟨_, rfl, hSE, ?_⟩
              go_simp
              clear hbE
              refine callH 11 rfl (by kernel_rfl) (by kernel_rfl) (some 78) rfl 62 #[.pointer (some ⟨gx, 0, none⟩), .int .i64 y, pageV f] ?hrun ((HRP.out _ HRE.out).mono ?_)
              case hrun => go_simp; try rfl
              rintro e wF ⟨rfl, ⟨L2, hrF⟩, hcF⟩
              have HPWF := Lib.hid (show PW W wF gd gb gl gt gm gr gq gn gx base F2 L2 b2 s from ⟨HPN.out.tx HTE.out hcF (fun k e => by rcases e with e | e; exact .inr (.inr (.inl e)); exact .inr (.inr (.inr e.1))), hrF, HPN.out.bl HBE.out hcF (fun k e => by rcases e with e | e; exact .inr (.inr (.inr (.inl e))); exact .inr (.inr (.inr (.inr e.1))))⟩)
              have hSF : wF.rowIs q 123 4 rowf := hcF.row hSE (fun e => by
                have h2 := HQB.out
                have h3 := HRE.out.lt.1
                rcases e with e | ⟨_, N, C, hr⟩
                · omega
                · exact absurd rfl (rowIs_ne hSE hr (by decide)))
              refine ⟨_, rfl, hSF, ?_⟩
              go_simp
              clear hrF hcF
              refine takeH 12 (.bool false) (some 79) rfl rfl (by kernel_rfl) (by kernel_rfl) (by kernel_rfl) (fun _ _ _ h => h) (.inl ⟨by kernel_rfl, fun w _ => by go_simp⟩) hSF ?_
              refine wpAnyH_done (by kernel_rfl) ?_ _
              go_simp
              go_wp2_with fail
              go_meet
              exact ⟨_, _, _, _, HPWF.out⟩
          case rest =>
            obtain ⟨F', L', bad', s', hpw⟩ := hcut
            have HP := Lib.hid hpw
            clear hpw HPa HROW hkd hbb hx hy q0
            go_at_K
            go_step
            go_upto_region 39 with fail
            go_cut [211] (fun s211 wx => s211 = .bool false ∧ Below wc.heap.size wc wx)
            case rest =>
              obtain ⟨rfl, hbz⟩ := hcut
              have HPZ := Lib.hid (HP.out.keep hbz)
              clear hbz HP
              go_at_K
              go_step
              go_wp2_with fail
              go_roundw
              case rel =>
                first
                  | exact ⟨i + 1, _, _, _, _, by omega, by go_num, HPZ.out⟩
                  | (repeat apply Exists.intro
                     exact ⟨⟨i + 1, _, _, _, _, by omega, by go_num, HPZ.out⟩, rfl⟩)
              case measure => simp [intOf]; omega
            case first =>
            as_aux_lemma =>
            obtain ⟨ex, hex, hsr⟩ := HP.out.rt.rl.dx.sr
            obtain ⟨ex2, A2, cA2, B2, cB2, htx2, hoA2, hoB2, hpc2⟩ := HP.out.rt.parts
            have HSI := Lib.hid (hoA2.ints (fun k hk => by have := (HP.out.rt.lts k hk).1; omega))
            have HE := Lib.hid hex
            have HSR := Lib.hid hsr
            have HX1 := Lib.hid (show ∀ w', Below wc.heap.size wc w' → w'.cell? ⟨gx, 1, none⟩ = some (.slice A2 L'.length cA2) from fun w' hb => (hpc2 w' hb).x1)
            have HN0 := Lib.hid (show ∀ w', Below wc.heap.size wc w' → w'.cell? ⟨gn, 0, none⟩ = some (.pointer (some ⟨gr, 0, none⟩)) from fun w' hb => (hpc2 w' hb).n0)
            have HD2 := Lib.hid (show ∀ w', Below wc.heap.size wc w' → w'.cell? ⟨gr, 2, none⟩ = some (.bool s'.dead) from fun w' hb => by
              obtain ⟨_, _, _, _, hk, _, _⟩ := (HP.out.rt.rl.dx.keep hb).dk
              exact hk.c2)
            have hmn := HP.out.tx.many HP.out.rt.keys
            have HMN := Lib.hid hmn
            have hL30 := HP.out.rt.len
            clear hex hsr htx2 hoA2 hoB2 hpc2 hmn
            have hS : Below wc.heap.size wc (World.drew wc) := drewb wc
            refine wp_region_held (S := fun w' => Below wc.heap.size wc w') (by kernel_rfl) ?_
            change wpAnyH _ _ _ _ _ _ _ _ (World.drew _)
            refine takeH 0 (.pointer (some ⟨gt, 0, none⟩)) (some 169) rfl rfl (by kernel_rfl) (by kernel_rfl) (by kernel_rfl) (fun _ _ _ h => h) (.inl ⟨by kernel_rfl, fun w _ => by go_simp⟩) hS ?_
            refine takeH 2 (.pointer (some ⟨gx, 0, none⟩)) (some 171) rfl rfl (by kernel_rfl) (by kernel_rfl) (by kernel_rfl) (fun _ _ _ h => h) (.inl ⟨by kernel_rfl, fun w _ => by go_simp⟩) hS ?_
            refine takeH 3 (.pointer (some ⟨gx, 0, none⟩)) (some 172) rfl rfl (by kernel_rfl) (by kernel_rfl) (by kernel_rfl) (fun _ _ _ h => h) (.inl ⟨by kernel_rfl, fun w _ => by go_simp⟩) hS ?_
            go_simp
            refine takeH 4 (.pointer (some ⟨gx, 1, none⟩)) (some 173) rfl rfl (by kernel_rfl) (by kernel_rfl) (by kernel_rfl) (fun _ _ _ h => h) (.inl ⟨by kernel_rfl, fun w _ => by go_simp⟩) hS ?_
            refine takeH 5 (.slice A2 L'.length cA2) (some 174) rfl rfl (by kernel_rfl) (by kernel_rfl) (by kernel_rfl) (fun _ _ _ h => h) (.inl ⟨by kernel_rfl, fun w hw => by have hc := HX1.out w hw; go_simp⟩) hS ?_
            refine takeH 6 (.int .i64 L'.length) (some 175) rfl rfl (by kernel_rfl) (by kernel_rfl) (by kernel_rfl) (fun _ _ _ h => h) (.inl ⟨by kernel_rfl, fun w _ => by go_simp⟩) hS ?_
            go_simp
            refine callH 1 rfl (by kernel_rfl) (by kernel_rfl) (some 170) rfl 33 #[.pointer (some ⟨gt, 0, none⟩)] ?hrun ((txnLen_ok (HP.out.tx.keep hS).toTX).mono ?_)
            case hrun => go_simp; try rfl
            rintro e wG ⟨rfl, rfl⟩
            rw [show mapN (World.drew wc) gm = L'.length from (HP.out.tx.keep (drewb wc)).many HP.out.rt.keys]
            refine ⟨_, rfl, hS, ?_⟩
            go_simp
            refine takeH 7 (.bool false) (some 176) rfl rfl (by kernel_rfl) (by kernel_rfl) (by kernel_rfl) (fun _ _ _ h => h) (.inl ⟨by kernel_rfl, fun w _ => by go_simp⟩) hS ?_
            refine takeH 8 (.bool false) (some 177) rfl rfl (by kernel_rfl) (by kernel_rfl) (by kernel_rfl) (fun _ _ _ h => h) (.inl ⟨by kernel_rfl, fun w _ => by go_simp⟩) hS ?_
            refine takeH 9 (.pointer (some ⟨gt, 0, none⟩)) (some 178) rfl rfl (by kernel_rfl) (by kernel_rfl) (by kernel_rfl) (fun _ _ _ h => h) (.inl ⟨by kernel_rfl, fun w _ => by go_simp⟩) hS ?_
            go_simp
            refine takeH 11 (.pointer (some ⟨gx, 0, none⟩)) (some 180) rfl rfl (by kernel_rfl) (by kernel_rfl) (by kernel_rfl) (fun _ _ _ h => h) (.inl ⟨by kernel_rfl, fun w _ => by go_simp⟩) hS ?_
            refine takeH 12 (.pointer (some ⟨gx, 0, none⟩)) (some 181) rfl rfl (by kernel_rfl) (by kernel_rfl) (by kernel_rfl) (fun _ _ _ h => h) (.inl ⟨by kernel_rfl, fun w _ => by go_simp⟩) hS ?_
            refine takeH 13 (.pointer (some ⟨gx, 1, none⟩)) (some 182) rfl rfl (by kernel_rfl) (by kernel_rfl) (by kernel_rfl) (fun _ _ _ h => h) (.inl ⟨by kernel_rfl, fun w _ => by go_simp⟩) hS ?_
            go_simp
            refine takeH 14 (.slice A2 L'.length cA2) (some 183) rfl rfl (by kernel_rfl) (by kernel_rfl) (by kernel_rfl) (fun _ _ _ h => h) (.inl ⟨by kernel_rfl, fun w hw => by have hc := HX1.out w hw; go_simp⟩) hS ?_
            go_simp
            refine callH 10 rfl (by kernel_rfl) (by kernel_rfl) (some 179) rfl 56 #[.pointer (some ⟨gt, 0, none⟩)] ?hrun ((txnBlocks_ok (HP.out.tx.keep hS).toTX).mono ?_)
            case hrun => go_simp; try rfl
            rintro e wH ⟨vb, Lb, rfl, hsb, hkb, _, hbG, _⟩
            obtain rfl := HP.out.rt.keys.uniq hkb
            have hSH := bnext hS hbG
            refine ⟨_, rfl, hSH, ?_⟩
            go_simp
            go_simp
            refine callH 15 rfl (by kernel_rfl) (by kernel_rfl) (some 184) rfl 32 #[vb, .slice A2 L'.length cA2] ?hrun ((alikeInts vb (.slice A2 L'.length cA2) (natInts L') _ hsb (HSI.out.keep hSH) (by rw [natInts_len]; omega)).mono ?_)
            case hrun => go_simp; try rfl
            rintro e wI ⟨rfl, hbI⟩
            have hSI2 := bnext hSH hbI
            refine ⟨_, rfl, hSI2, ?_⟩
            go_simp
            refine takeH 16 (.bool false) (some 185) rfl rfl (by kernel_rfl) (by kernel_rfl) (by kernel_rfl) (fun _ _ _ h => h) (.inl ⟨by kernel_rfl, fun w _ => by go_simp⟩) hSI2 ?_
            refine takeH 17 (.bool false) (some 186) rfl rfl (by kernel_rfl) (by kernel_rfl) (by kernel_rfl) (fun _ _ _ h => h) (.inl ⟨by kernel_rfl, fun w _ => by go_simp⟩) hSI2 ?_
            refine takeH 18 (.bool false) (some 187) rfl rfl (by kernel_rfl) (by kernel_rfl) (by kernel_rfl) (fun _ _ _ h => h) (.inl ⟨by kernel_rfl, fun w _ => by go_simp⟩) hSI2 ?_
            go_simp
            refine takeH 19 (.pointer (some ⟨gd, 0, none⟩)) (some 188) rfl rfl (by kernel_rfl) (by kernel_rfl) (by kernel_rfl) (fun _ _ _ h => h) (.inl ⟨by kernel_rfl, fun w _ => by go_simp⟩) hSI2 ?_
            refine takeH 21 (.pointer (some ⟨gn, 0, none⟩)) (some 190) rfl rfl (by kernel_rfl) (by kernel_rfl) (by kernel_rfl) (fun _ _ _ h => h) (.inl ⟨by kernel_rfl, fun w _ => by go_simp⟩) hSI2 ?_
            refine takeH 22 (.pointer (some ⟨gn, 0, none⟩)) (some 191) rfl rfl (by kernel_rfl) (by kernel_rfl) (by kernel_rfl) (fun _ _ _ h => h) (.inl ⟨by kernel_rfl, fun w _ => by go_simp⟩) hSI2 ?_
            go_simp
            refine takeH 23 (.pointer (some ⟨gn, 0, none⟩)) (some 192) rfl rfl (by kernel_rfl) (by kernel_rfl) (by kernel_rfl) (fun _ _ _ h => h) (.inl ⟨by kernel_rfl, fun w _ => by go_simp⟩) hSI2 ?_
            refine takeH 24 (.pointer (some ⟨gr, 0, none⟩)) (some 193) rfl rfl (by kernel_rfl) (by kernel_rfl) (by kernel_rfl) (fun _ _ _ h => h) (.inl ⟨by kernel_rfl, fun w hw => by have hc := HN0.out w hw; go_simp⟩) hSI2 ?_
            refine takeH 25 (.pointer (some ⟨gr, 0, none⟩)) (some 194) rfl rfl (by kernel_rfl) (by kernel_rfl) (by kernel_rfl) (fun _ _ _ h => h) (.inl ⟨by kernel_rfl, fun w _ => by go_simp⟩) hSI2 ?_
            go_simp
            refine takeH 26 (.pointer (some ⟨gr, 0, none⟩)) (some 195) rfl rfl (by kernel_rfl) (by kernel_rfl) (by kernel_rfl) (fun _ _ _ h => h) (.inl ⟨by kernel_rfl, fun w _ => by go_simp⟩) hSI2 ?_
            refine takeH 27 (.slice (some ⟨gq, 0, none⟩) 80 (80 + ex)) (some 196) rfl rfl (by kernel_rfl) (by kernel_rfl) (by kernel_rfl) (fun _ _ _ h => h) (.inl ⟨by kernel_rfl, fun w hw => by have hc := HE.out w hw; go_simp⟩) hSI2 ?_
            go_simp
            refine callH 20 rfl (by kernel_rfl) (by kernel_rfl) (some 189) rfl 46 #[.pointer (some ⟨gd, 0, none⟩)] ?hrun ((dxImage (HP.out.tx.keep hSI2).lxs.dxs).mono ?_)
            case hrun => go_simp; try rfl
            rintro e wJ ⟨⟨vi, rfl, hown⟩, hbJ⟩
            have hSJ := bnext hSI2 hbJ
            refine ⟨_, rfl, hSJ, ?_⟩
            go_simp
            go_simp
            refine callH 28 rfl (by kernel_rfl) (by kernel_rfl) (some 197) rfl 50 #[vi, .slice (some ⟨gq, 0, none⟩) 80 (80 + ex)] ?hrun ((same_true (SR.of_own hown) (HSR.out.keep hSJ) (pgsV_u8 _ _ HP.out.rt.rl.dx.u8) (by omega)).mono ?_)
            case hrun => go_simp; try rfl
            rintro e wK ⟨rfl, hbK⟩
            have hSK := bnext hSJ hbK
            refine ⟨_, rfl, hSK, ?_⟩
            go_simp
            refine takeH 29 (.bool false) (some 198) rfl rfl (by kernel_rfl) (by kernel_rfl) (by kernel_rfl) (fun _ _ _ h => h) (.inl ⟨by kernel_rfl, fun w _ => by go_simp⟩) hSK ?_
            refine takeH 30 (.bool false) (some 199) rfl rfl (by kernel_rfl) (by kernel_rfl) (by kernel_rfl) (fun _ _ _ h => h) (.inl ⟨by kernel_rfl, fun w _ => by go_simp⟩) hSK ?_
            refine takeH 31 (.bool false) (some 200) rfl rfl (by kernel_rfl) (by kernel_rfl) (by kernel_rfl) (fun _ _ _ h => h) (.inl ⟨by kernel_rfl, fun w _ => by go_simp⟩) hSK ?_
            go_simp
            refine takeH 32 (.pointer (some ⟨gd, 0, none⟩)) (some 201) rfl rfl (by kernel_rfl) (by kernel_rfl) (by kernel_rfl) (fun _ _ _ h => h) (.inl ⟨by kernel_rfl, fun w _ => by go_simp⟩) hSK ?_
            refine takeH 34 (.pointer (some ⟨gn, 0, none⟩)) (some 203) rfl rfl (by kernel_rfl) (by kernel_rfl) (by kernel_rfl) (fun _ _ _ h => h) (.inl ⟨by kernel_rfl, fun w _ => by go_simp⟩) hSK ?_
            refine takeH 35 (.pointer (some ⟨gn, 0, none⟩)) (some 204) rfl rfl (by kernel_rfl) (by kernel_rfl) (by kernel_rfl) (fun _ _ _ h => h) (.inl ⟨by kernel_rfl, fun w _ => by go_simp⟩) hSK ?_
            go_simp
            refine takeH 36 (.pointer (some ⟨gn, 0, none⟩)) (some 205) rfl rfl (by kernel_rfl) (by kernel_rfl) (by kernel_rfl) (fun _ _ _ h => h) (.inl ⟨by kernel_rfl, fun w _ => by go_simp⟩) hSK ?_
            refine takeH 37 (.pointer (some ⟨gr, 0, none⟩)) (some 206) rfl rfl (by kernel_rfl) (by kernel_rfl) (by kernel_rfl) (fun _ _ _ h => h) (.inl ⟨by kernel_rfl, fun w hw => by have hc := HN0.out w hw; go_simp⟩) hSK ?_
            refine takeH 38 (.pointer (some ⟨gr, 0, none⟩)) (some 207) rfl rfl (by kernel_rfl) (by kernel_rfl) (by kernel_rfl) (fun _ _ _ h => h) (.inl ⟨by kernel_rfl, fun w _ => by go_simp⟩) hSK ?_
            go_simp
            refine takeH 39 (.pointer (some ⟨gr, 2, none⟩)) (some 208) rfl rfl (by kernel_rfl) (by kernel_rfl) (by kernel_rfl) (fun _ _ _ h => h) (.inl ⟨by kernel_rfl, fun w _ => by go_simp⟩) hSK ?_
            refine takeH 40 (.bool s'.dead) (some 209) rfl rfl (by kernel_rfl) (by kernel_rfl) (by kernel_rfl) (fun _ _ _ h => h) (.inl ⟨by kernel_rfl, fun w hw => by have hc := HD2.out w hw; go_simp⟩) hSK ?_
            go_simp
            refine callH 33 rfl (by kernel_rfl) (by kernel_rfl) (some 202) rfl 63 #[.pointer (some ⟨gd, 0, none⟩)] ?hrun ((dxDead (HP.out.tx.keep hSK).lxs.dxs).mono ?_)
            case hrun => go_simp; try rfl
            rintro e wM ⟨rfl, rfl⟩
            skip
            refine ⟨_, rfl, hSK, ?_⟩
            go_simp
            refine takeH 41 (.bool false) (some 210) rfl rfl (by kernel_rfl) (by kernel_rfl) (by kernel_rfl) (fun _ _ _ h => h) (.inl ⟨by kernel_rfl, fun w _ => by go_simp⟩) hSK ?_
            refine takeH 42 (.bool false) (some 211) rfl rfl (by kernel_rfl) (by kernel_rfl) (by kernel_rfl) (fun _ _ _ h => h) (.inl ⟨by kernel_rfl, fun w _ => by go_simp⟩) hSK ?_
            refine wpAnyH_done (by kernel_rfl) ?_ _
            go_simp
            go_wp2_with fail
            go_meet
            exact ⟨rfl, hSK⟩
    · go_wp2_with fail
      go_ret
      exact ⟨rfl, HP.out.bl⟩

end Go.Proofs.Ytonfnlohbgbffaa
