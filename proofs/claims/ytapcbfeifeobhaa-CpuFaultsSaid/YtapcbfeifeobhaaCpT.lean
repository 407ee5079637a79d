/- CpuFaults: its walk. -/
import Derived.Test.YtapcbfeifeobhaaCpU4
set_option linter.unusedVariables false
set_option linter.unusedSimpArgs false
namespace Go.Proofs.Ytapcbfeifeobhaa
open Go.RowKit
open Go.Maps (Keyed)
theorem not_mwS {g gm gx k B : Nat} (h1 : gx < B) (h2 : g < B) (h3 : gm < B) (hk : B ≤ k) : ¬ mwS g gm gx k := fun h => by
  rcases h with rfl | rfl | rfl <;> omega
theorem MW.lts {w : World} {g gm gs base m gx : Nat} {a : Option Addr} {us : Nat → Nat} {v : Value} {F : Nat × Nat → Option (Nat → Nat)} {s : Mach} (h : MW w g gm gs base m gx a us v F s) : gx < w.heap.size ∧ g < w.heap.size ∧ gm < w.heap.size := ⟨h.rw.lt, h.tp.row.lt, h.tp.mp.lt⟩
theorem SI.chgN {S : Nat → Prop} {w w' : World} {g n cap : Nat} {zs : List Int} (h : SI w .u8 (.slice (some ⟨g, 0, none⟩) n cap) zs) (c : Chg S w w') (hg : ¬ S g) : SI w' .u8 (.slice (some ⟨g, 0, none⟩) n cap) zs :=
  ⟨h.sr.keepAt c.size (fun a cp hv _ hl => by injection hv with e1 e2 e3; injection e1 with e1; subst e1; exact c.block g hl hg), h.wf⟩
theorem bytesN_le (o : Nat) : bytesN o = 1 ∨ bytesN o = 2 ∨ bytesN o = 4 := by
  unfold bytesN
  split
  · exact .inr (.inl rfl)
  · split
    · exact .inr (.inr rfl)
    · exact .inl rfl
theorem memI_ok {m : Nat} {s : Mach} (h : MOk m s) (o x a : Nat) : MOk m (memI m s o x a).1 := by
  unfold memI
  by_cases c1 : 64 * m < a + bytesN o
  · rw [if_pos c1]; exact h
  · rw [if_neg c1]
    by_cases c2 : o = 27 ∨ o = 28 ∨ o = 29
    · rw [if_pos c2]
      refine ⟨h.r0, h.a0, fun i hi => ?_⟩
      show stN s.mem a (bytesN o) (s.R x).toNat i < 256
      unfold stN
      split
      · exact Nat.mod_lt _ (by omega)
      · exact h.m0 i hi
    · rw [if_neg c2]
      have h1 := ldN_lt (mem := s.mem) (at_ := a) (bytesN o) (fun i hi => h.m0 _ (by omega))
      have h2 : ldN s.mem a (bytesN o) ≤ 4294967295 := by
        rcases bytesN_le o with e | e | e <;> rw [e] at h1 ⊢ <;> omega
      refine h.setR x _ ?_ ?_
      · unfold ldI
        split
        · exact (sx8_le _).1
        · split
          · exact (sx16_le _).1
          · omega
      · unfold ldI
        split
        · exact (sx8_le _).2
        · split
          · exact (sx16_le _).2
          · omega
theorem insB_le {m : Nat} {s : Mach} (h : MOk m s) (hin : pcN s + 4 ≤ 64 * m) (i : Nat) (hi : i < 4) : insB s i ≤ 255 := by
  have := h.m0 (pcN s + i) (by omega)
  show s.mem (pcN s + i) ≤ 255
  omega
theorem stI_ok {m : Nat} {s : Mach} (h : MOk m s) : MOk m (stI m s).1 := by
  unfold stI
  by_cases hin : pcN s + 4 ≤ 64 * m
  · rw [if_pos hin]
    by_cases hck : ckI s = 0
    · rw [if_pos hck]
      by_cases h39 : insB s 0 = 39
      · rw [if_pos h39]; exact h.setAt _ (nextI_le s).1 (nextI_le s).2
      · rw [if_neg h39]
        by_cases he : (stepI m s (insB s 0) (insB s 1) (insB s 2) (insB s 3)).2 = 0
        · rw [if_pos he]
          obtain ⟨k1, k2, k3, k4⟩ := chk hck
          have r := fun i (hi : i < 16) => h.r0 i hi
          have b2 := insB_le h hin 2 (by omega)
          have b3 := insB_le h hin 3 (by omega)
          have n := nextI_le s
          show MOk m (stepI m s (insB s 0) (insB s 1) (insB s 2) (insB s 3)).1
          generalize insB s 0 = o at *
          generalize insB s 1 = x at *
          generalize insB s 2 = y at *
          generalize insB s 3 = z at *
          unfold stepI
          by_cases c : 5 ≤ o ∧ o ≤ 20
          · rw [if_pos c]
            have hn := numI_le o c.1 c.2 (s.R (y % 16)) (s.R (z % 16)) (r _ (Nat.mod_lt _ (by omega))).1 (r _ (Nat.mod_lt _ (by omega))).2 (r _ (Nat.mod_lt _ (by omega))).1 (r _ (Nat.mod_lt _ (by omega))).2
            by_cases d : (numI o (s.R (y % 16)) (s.R (z % 16))).2 = 0
            · rw [if_pos d]; exact (h.setR x _ hn.1 hn.2).setAt _ n.1 n.2
            · rw [if_neg d]; exact h
          · rw [if_neg c]
            by_cases c2 : 22 ≤ o ∧ o ≤ 29
            · rw [if_pos c2]
              generalize ((s.R (y % 16) + near z % 4294967296) % 4294967296).toNat = ad
              by_cases d : (memI m s o x ad).2 = 0
              · rw [if_pos d]; exact (memI_ok h o x ad).setAt _ n.1 n.2
              · rw [if_neg d]; exact h
            · rw [if_neg c2]
              have hx := r (x % 16) (Nat.mod_lt _ (by omega))
              have hy := r (y % 16) (Nat.mod_lt _ (by omega))
              obtain ⟨p1, _, p3, p4⟩ := plainI_ok h o x y z k3 b2 b3 (s.R (x % 16)) (s.R (y % 16)) (nextI s) hx.1 hx.2 hy.1 hy.2 n.1 n.2
              exact p1.setAt _ p3 p4
        · rw [if_neg he]; exact h
    · rw [if_neg hck]; exact h
  · rw [if_neg hin]; exact h
theorem stI_e32 {m : Nat} {s s' : Mach} {e : Nat} (h : stI m s = (s', .flt e)) : e ≤ 32 := by
  unfold stI at h
  by_cases c : pcN s + 4 ≤ 64 * m
  · rw [if_pos c] at h
    by_cases d : ckI s = 0
    · rw [if_pos d] at h
      by_cases f : insB s 0 = 39
      · rw [if_pos f] at h; injection h with _ h; cases h
      · rw [if_neg f] at h
        by_cases k : (stepI m s (insB s 0) (insB s 1) (insB s 2) (insB s 3)).2 = 0
        · rw [if_pos k] at h; injection h with _ h; cases h
        · rw [if_neg k] at h
          injection h with _ h
          injection h with h
          rcases stepI_err m s (insB s 0) (insB s 1) (insB s 2) (insB s 3) with e1 | ⟨e1, e2, _⟩
          · exact absurd e1 k
          · omega
    · rw [if_neg d] at h
      injection h with _ h
      injection h with h
      rcases checkI_ways (formOf (insB s 0)) (insB s 1) (insB s 2) (insB s 3) with e1 | e1 | e1
      · exact absurd e1 d
      · have : ckI s = 28 := e1; omega
      · have : ckI s = 32 := e1; omega
  · rw [if_neg c] at h
    injection h with _ h
    injection h with h
    omega
theorem MemW.readG {w : World} {g gm gs base m : Nat} {a : Option Addr} {us : Nat → Nat} {v : Value} {F : Nat × Nat → Option (Nat → Nat)} {mem : Nat → Nat} (h : MemW w g gm gs base m a us v F mem) (k : Nat) (hk : k ≤ 64 * m) :
    Calls Try.prog 16 #[.pointer (some ⟨gs, 0, none⟩), .int .u32 0, .int .i64 k] w fun e w' => ∃ gO, e = .returned (.tuple #[.slice (some ⟨gO, 0, none⟩) k k, .int .i64 0]) ∧ w.heap.size ≤ gO ∧ SI w' .u8 (.slice (some ⟨gO, 0, none⟩) k k) (memL mem k) ∧ Below w.heap.size w w' := by
  have hl := h.ok.len
  rw [morePs_len] at hl
  have hr := spaceRead_in h.tp h.sp h.ok 0 k (by omega) (by rw [morePs_len]; omega)
  refine hr.mono ?_
  rintro e w' ⟨gO, rfl, hgO, hrow, hb⟩
  refine ⟨gO, rfl, hgO, ?_, hb⟩
  have e1 : memL mem k = memL (fun j => spMem F (morePs 0 0 m) (0 + j)) k := memL_congr fun i hi => by
    show mem i = spMem F (morePs 0 0 m) (0 + i)
    rw [Nat.zero_add, h.mm i (by omega)]
  rw [e1]
  refine memL_row hrow (fun j hj => ?_) (by omega)
  show spMem F (morePs 0 0 m) (0 + j) < 256
  rw [Nat.zero_add, ← h.mm j (by omega)]
  exact h.m0 j (by omega)
/-- The machine that asked is right. -/
theorem run_askq {m : Nat} (b : Nat) : ∀ d s s' n d', MOk m s → runM (stI m) b d s = (s', 1, n, d') → ∃ q, MOk m q ∧ stI m q = (s', .ask n) := by
  induction b with
  | zero =>
    intro d s s' n d' _ h
    injection h with _ h
    injection h with h _
    exact absurd h (by decide)
  | succ b ih =>
    intro d s s' n d' hs h
    obtain ⟨p, o, hst⟩ : ∃ s' o, stI m s = (s', o) := ⟨_, _, rfl⟩
    cases o with
    | go =>
      rw [run_go hst] at h
      exact ih _ _ _ _ _ (by have := stI_ok hs; rw [hst] at this; exact this) h
    | ask k =>
      rw [run_ask hst] at h
      injection h with h1 h2
      injection h2 with _ h2
      injection h2 with h2 _
      exact ⟨s, hs, by rw [hst, h1, h2]⟩
    | flt e =>
      rw [run_flt hst] at h
      injection h with _ h
      injection h with h _
      exact absurd h (by decide)
/-- A machine that asked: its next instruction stands behind four bytes. -/
theorem stI_ask_at {m n : Nat} {q s : Mach} (hm : m ≤ 32) (q0 : 0 ≤ q.at_) (h : stI m q = (s, .ask n)) : 4 ≤ s.at_ := by
  unfold stI at h
  by_cases hin : pcN q + 4 ≤ 64 * m
  · rw [if_pos hin] at h
    by_cases hck : ckI q = 0
    · rw [if_pos hck] at h
      by_cases h39 : insB q 0 = 39
      · rw [if_pos h39] at h
        injection h with h1 h2
        rw [← h1]
        show 4 ≤ nextI q
        unfold pcN at hin
        unfold nextI
        omega
      · rw [if_neg h39] at h
        split at h
        · injection h with _ h; cases h
        · injection h with _ h; cases h
    · rw [if_neg hck] at h; injection h with _ h; cases h
  · rw [if_neg hin] at h; injection h with _ h; cases h
set_option maxRecDepth 100000 in
set_option maxHeartbeats 16000000 in
theorem cpuFaults_walk (W : World) (v0 v1 : Value) (o0 : Arg Try.prog W 51 v0) (o1 : Arg Try.prog W 34 v1) :
    Calls Try.prog 6 #[v0, v1] W fun e w' => e = .returned (.bool true) ∧ Below W.heap.size W w' := by
  obtain ⟨vl, n, cap, vd, dl, dcap, c, rfl, hcode⟩ := CodeC.of_arg o0
  obtain ⟨R, rfl, hR⟩ := regs_of_arg o1
  obtain ⟨X, hX⟩ : ∃ X, X = rowArr 16 (regC R) := ⟨_, rfl⟩
  rw [← hX]
  have HX := Lib.hid hX
  have HR := Lib.hid hR
  have HXS := Lib.hid (show (Try.prog.info? 34).map (·.size) = some X.size by rw [hX]; exact regs_size R)
  clear o0 o1 hX hR
  have HCODE := Lib.hid hcode
  have HB := Lib.hid (Below.refl W.heap.size W)
  clear hcode
  go_enter Try.func6, Try.ntmps6
  go_upto_region 1 with fail
  have hbw1 := bnew W (.cells #[.slice vl n cap, .slice vd dl dcap, .int .u8 (c : Nat)] 51)
  have hlw1 := heap_alloc_last W (.cells #[.slice vl n cap, .slice vd dl dcap, .int .u8 (c : Nat)] 51)
  have nHCODE := Lib.hid (HCODE.out.keep hbw1)
  have nHB := Lib.hid (HB.out.trans (hbw1.mono HB.out.size))
  clear HCODE HB
  have HCODE := nHCODE; clear nHCODE
  have HB := nHB; clear nHB
  have HL1 := Lib.hid (hlw1)
  clear hbw1 hlw1
  obtain ⟨N1, hN1⟩ : ∃ k, k = W.heap.size := ⟨_, rfl⟩
  rw [← hN1] at HL1
  have hsz : (W.alloc (.cells #[.slice vl n cap, .slice vd dl dcap, .int .u8 (c : Nat)] 51)).heap.size = N1 + 1 := by rw [World.size_alloc, hN1]
  rw [← hN1]
  generalize W.alloc (.cells #[.slice vl n cap, .slice vd dl dcap, .int .u8 (c : Nat)] 51) = w1 at *
  clear hN1
  have hbw2 := bnew w1 (.cells X 34)
  have hlw2 := heap_alloc_last w1 (.cells X 34)
  have nHCODE := Lib.hid (HCODE.out.keep hbw2)
  have nHB := Lib.hid (HB.out.trans (hbw2.mono HB.out.size))
  have nHL1 := Lib.hid (bkeep hbw2 HL1.out)
  clear HCODE HB HL1
  have HCODE := nHCODE; clear nHCODE
  have HB := nHB; clear nHB
  have HL1 := nHL1; clear nHL1
  have HL2 := Lib.hid (hlw2)
  clear hbw2 hlw2
  obtain ⟨N2, hN2⟩ : ∃ k, k = w1.heap.size := ⟨_, rfl⟩
  rw [← hN2] at HL2
  rw [← hN2] at hsz
  try rw [← hsz]
  generalize w1.alloc (.cells X 34) = w2 at *
  clear hN2 hsz
  go_wp2_with fail
  refine (cpuAwake_in _).mono ?_; rintro e w3 ⟨rfl, hb3⟩
  have nHCODE := Lib.hid (HCODE.out.keep hb3)
  have nHB := Lib.hid (HB.out.trans (hb3.mono HB.out.size))
  have nHL1 := Lib.hid (bkeep hb3 HL1.out)
  have nHL2 := Lib.hid (bkeep hb3 HL2.out)
  clear HCODE HB HL1 HL2
  have HCODE := nHCODE; clear nHCODE
  have HB := nHB; clear nHB
  have HL1 := nHL1; clear nHL1
  have HL2 := nHL2; clear nHL2
  clear hb3
  have hc1 := rowcell HL1.out
  go_wp2_with fail
  clear hc1
  refine (codeBytes_in HCODE.out).mono ?_; rintro e w4 ⟨A, cp, bs, rfl, hsi, h220, hb4⟩
  clear HCODE HL1
  have nHB := Lib.hid (HB.out.trans (hb4.mono HB.out.size))
  have nHL2 := Lib.hid (bkeep hb4 HL2.out)
  clear HB HL2
  have HB := nHB; clear nHB
  have HL2 := nHL2; clear nHL2
  clear hb4
  obtain ⟨len, hlen⟩ : ∃ l, l = bs.length := ⟨_, rfl⟩
  obtain ⟨p, hp⟩ : ∃ p, p = (len + 63) / 64 := ⟨_, rfl⟩
  have hp4 : p ≤ 4 := by omega
  have fp : ((len : Int) + 63) / 64 = p := by omega
  have hbz := wf_bytes hsi.wf
  have hmem := memory_in w4 A cp bs hsi hbz p (by omega) (by omega)
  rw [← hlen] at hmem ⊢
  have HMEM := Lib.hid hmem
  have HBZ := Lib.hid hbz
  clear hmem hsi hbz hp hlen
  go_wp2_with fail
  refine HMEM.out.mono ?_
  rintro e w5 ⟨g, gm, gs, base, a, us, v, F, rfl, hg, hgm, _, hmw, hb5⟩
  have HG := Lib.hid (And.intro (Nat.le_trans HB.out.size hg) (Nat.le_trans HB.out.size hgm))
  have nHB := Lib.hid (HB.out.trans (hb5.mono HB.out.size))
  have nHL2 := Lib.hid (bkeep hb5 HL2.out)
  clear HB HL2
  have HB := nHB; clear nHB
  have HL2 := nHL2; clear nHL2
  clear hb5 hg hgm HMEM
  have HM := Lib.hid (hmw)
  clear hmw
  obtain ⟨s0, hs0⟩ : ∃ s : Mach, s = ⟨R, 0, memZ bs⟩ := ⟨_, rfl⟩
  obtain ⟨Y, hY⟩ : ∃ Y, Y = rowArr 17 (stV s0) := ⟨_, rfl⟩
  have HY := Lib.hid hY
  have HS0 := Lib.hid hs0
  have HBU := Lib.hid (show Try.prog.built 36 [(0, .agg X)] = some Y by rw [HX.out, hY, hs0]; exact built_state R (memZ bs))
  clear hY hs0
  go_upto_region 6 with (first | (refine wpList_load_pieceTo rfl 34 (.tmp 3) rfl (some 25) rfl N2 0 rfl X _ (fun j v hj => by rw [Nat.zero_add, rowcell HL2.out]; simpa using hj) Try.underlying34 rfl HXS.out ?_) | (with_reducible refine wpList_stop (some 26) rfl ?_))
  clear HL2
  refine Lib.hid ?_
  refine wpList_buildTo rfl 36 _ rfl (some 26) rfl Y ?hf ?_
  case hf => (go_simp; exact HBU.out)
  go_upto_region 6 with fail
  have HBs := Lib.hid HB.out.size
  have hbw6 := bnew w5 (.cells Y 36)
  have hlw6 := heap_alloc_last w5 (.cells Y 36)
  have nHB := Lib.hid (HB.out.trans (hbw6.mono HB.out.size))
  have nHM := Lib.hid (HM.out.keep hbw6)
  clear HB HM
  have HB := nHB; clear nHB
  have HM := nHM; clear nHM
  have HYL := Lib.hid (hlw6)
  clear hbw6 hlw6
  obtain ⟨gx, hgx⟩ : ∃ k, k = w5.heap.size := ⟨_, rfl⟩
  rw [← hgx] at HYL
  have hrow : (w5.alloc (.cells Y 36)).rowIs gx 36 17 (stV s0) := rowIs_of_arr (by rw [← HY.out]; exact HYL.out)
  have hmw : MW (w5.alloc (.cells Y 36)) g gm gs base p gx a us v F s0 := MemW.mw (s := s0) (by rw [HS0.out]; exact HM.out) hrow (fun i hi => by rw [HS0.out]; exact HR.out i hi) (by rw [HS0.out]; exact ⟨Int.le_refl 0, (by decide : (0 : Int) ≤ 4294967295)⟩)
  have HMW := Lib.hid hmw
  have HGX := Lib.hid (show W.heap.size ≤ gx by rw [hgx]; exact HBs.out)
  rw [← hgx]
  generalize w5.alloc (.cells Y 36) = w6 at *
  clear hrow hmw HYL HM hgx HX HXS HBU
  go_wp2_with fail
  have hrun := run_in HMW.out 300 (by omega)
  unfold RunP at hrun
  have hways := run_ways (st := stI p) 300 0 s0
  have hask := fun s' n d' => run_askq (m := p) 300 0 s0 s' n d' HMW.out.wf
  obtain ⟨r, hr⟩ : ∃ r, r = runM (stI p) 300 0 s0 := ⟨_, rfl⟩
  rw [← hr] at hrun hways hask
  clear hr
  have HRUN := Lib.hid hrun
  have HWAYS := Lib.hid hways
  have HASK := Lib.hid hask
  clear hrun hways hask
  have hm32 := HMW.out.m32
  refine HRUN.out.mono ?_
  rintro e w7 ⟨rfl, ⟨F7, hmw7⟩, hc7⟩
  have nHB := Lib.hid (Chg.go HB.out hc7 (fun k hk => by rcases hk with rfl | rfl | rfl; exact HGX.out; exact HG.out.1; exact HG.out.2) HB.out.size)
  have HM7 := Lib.hid hmw7
  clear hmw7 hc7 HB HMW HRUN
  have HB := nHB; clear nHB
  unfold endA
  rcases HWAYS.out with ⟨s', hr⟩ | ⟨s', nn, d', q, hr, hd1, hd2, hst⟩ | ⟨s', ee, d', q, hr, hd1, hd2, hst⟩
  all_goals subst hr
  all_goals clear HWAYS
  · go_wp2_with fail
    go_ret
    exact ⟨rfl, bnewAfter HB.out _⟩
  · obtain ⟨q2, hq2, hst2⟩ := HASK.out s' nn d' rfl
    have h4 : 4 ≤ s'.at_ := stI_ask_at hm32 hq2.a0.1 hst2
    clear hq2 hst2 hst
    have hbw8 := bnew w7 (.cells #[.int .u8 1, .int .i64 (nn : Nat), .int .i64 (d' : Nat)] 43)
    have hlw8 := heap_alloc_last w7 (.cells #[.int .u8 1, .int .i64 (nn : Nat), .int .i64 (d' : Nat)] 43)
    have nHM7 := Lib.hid (HM7.out.keep hbw8)
    have nHB := Lib.hid (HB.out.trans (hbw8.mono HB.out.size))
    clear HM7 HB
    have HM7 := nHM7; clear nHM7
    have HB := nHB; clear nHB
    have HE := Lib.hid (hlw8)
    clear hbw8 hlw8
    go_upto_region 7 with fail
    obtain ⟨NE, hNE⟩ : ∃ k, k = w7.heap.size := ⟨_, rfl⟩
    rw [← hNE] at HE ⊢
    generalize w7.alloc (.cells #[.int .u8 1, .int .i64 (nn : Nat), .int .i64 (d' : Nat)] 43) = w8 at *
    have GNE := Lib.hid (Nat.le_of_eq hNE.symm)
    clear hNE
    have hcE := rowcell HE.out
    have c16 : w8.cell? ⟨gx, 16, none⟩ = some (.int .u32 s'.at_) := HM7.out.rw.cell (i := 16) (by omega)
    obtain ⟨t', ht'⟩ : ∃ t, t = s'.at_ := ⟨_, rfl⟩
    rw [← ht'] at c16 h4
    have hd1' : (1 : Int) ≤ d' := by omega
    clear ht'
    go_wp2_with fail
    go_ret
    exact ⟨rfl, HB.out⟩
  · have HLT := Lib.hid HM7.out.lts
    have he32 := stI_e32 hst
    have hst' := stI_flt p q s' ee hst
    rw [← hst'] at hst
    have HST := Lib.hid hst
    clear hst hst'
    have hbw8 := bnew w7 (.cells #[.int .u8 2, .int .i64 (ee : Nat), .int .i64 (d' : Nat)] 43)
    have hlw8 := heap_alloc_last w7 (.cells #[.int .u8 2, .int .i64 (ee : Nat), .int .i64 (d' : Nat)] 43)
    have nHM7 := Lib.hid (HM7.out.keep hbw8)
    have nHB := Lib.hid (HB.out.trans (hbw8.mono HB.out.size))
    clear HM7 HB
    have HM7 := nHM7; clear nHM7
    have HB := nHB; clear nHB
    have HE := Lib.hid (hlw8)
    clear hbw8 hlw8
    go_upto_region 7 with fail
    obtain ⟨NE, hNE⟩ : ∃ k, k = w7.heap.size := ⟨_, rfl⟩
    rw [← hNE] at HE ⊢
    generalize w7.alloc (.cells #[.int .u8 2, .int .i64 (ee : Nat), .int .i64 (d' : Nat)] 43) = w8 at *
    have GNE := Lib.hid (Nat.le_of_eq hNE.symm)
    clear hNE
    have hcE := rowcell HE.out
    obtain ⟨Z, hZ⟩ : ∃ Z, Z = rowArr 17 (stV s') := ⟨_, rfl⟩
    have HZ := Lib.hid hZ
    have HZS := Lib.hid (show (Try.prog.info? 36).map (·.size) = some Z.size by rw [hZ]; exact state_size s')
    clear hZ
    go_upto_region 9 with fail
    go_wp2_with (first | (refine wpList_load_pieceTo rfl 36 (.tmp 60) rfl (some 61) rfl gx 0 rfl Z _ (fun j v hj => by rw [HZ.out] at hj; obtain ⟨h1, rfl⟩ := rowArr_get _ _ _ _ hj; rw [Nat.zero_add]; exact HM7.out.rw.cell h1) Try.underlying36 rfl HZS.out ?_) | (with_reducible refine wpList_stop none rfl ?_))
    refine Lib.hid ?_
    have hb9 := bnew w8 (.cells #[.int .u32 0, .int .u32 0, .int .u32 0, .int .u32 0, .int .u32 0, .int .u32 0, .int .u32 0, .int .u32 0, .int .u32 0, .int .u32 0, .int .u32 0, .int .u32 0, .int .u32 0, .int .u32 0, .int .u32 0, .int .u32 0, .int .u32 0] 36)
    have hl9 := heap_alloc_last w8 (.cells #[.int .u32 0, .int .u32 0, .int .u32 0, .int .u32 0, .int .u32 0, .int .u32 0, .int .u32 0, .int .u32 0, .int .u32 0, .int .u32 0, .int .u32 0, .int .u32 0, .int .u32 0, .int .u32 0, .int .u32 0, .int .u32 0, .int .u32 0] 36)
    obtain ⟨N9, hN9⟩ : ∃ k, k = w8.heap.size := ⟨_, rfl⟩
    rw [← hN9] at hl9 ⊢
    generalize w8.alloc (.cells #[.int .u32 0, .int .u32 0, .int .u32 0, .int .u32 0, .int .u32 0, .int .u32 0, .int .u32 0, .int .u32 0, .int .u32 0, .int .u32 0, .int .u32 0, .int .u32 0, .int .u32 0, .int .u32 0, .int .u32 0, .int .u32 0, .int .u32 0] 36) = w9 at *
    have HL9 := Lib.hid hl9
    have HB9 := Lib.hid hb9
    have HN9 := Lib.hid (Nat.le_of_eq hN9.symm)
    have hr9 : w9.rowIs N9 36 17 (fun _ => .int .u32 0) := ⟨_, hl9, rfl, fun i hi => by rcases (show i = 0 ∨ i = 1 ∨ i = 2 ∨ i = 3 ∨ i = 4 ∨ i = 5 ∨ i = 6 ∨ i = 7 ∨ i = 8 ∨ i = 9 ∨ i = 10 ∨ i = 11 ∨ i = 12 ∨ i = 13 ∨ i = 14 ∨ i = 15 ∨ i = 16 by omega) with rfl | rfl | rfl | rfl | rfl | rfl | rfl | rfl | rfl | rfl | rfl | rfl | rfl | rfl | rfl | rfl | rfl <;> rfl⟩
    have HR9 := Lib.hid hr9
    clear hb9 hl9 hN9 hr9
    have HZ17 := Lib.hid (show Z.size = 17 by rw [HZ.out, rowArr_size])
    refine wpList_store_pieceTo rfl 36 (.tmp 9) (.tmp 61) rfl rfl N9 0 Z ?hx ?hy HZS.out (fun j hj => by rw [Nat.zero_add, HR9.out.cell (by rw [HZ17.out] at hj; exact hj)]; rfl) (fun j hj => HR9.out.frozen _) (by rw [HZ.out]; exact state_one s') ?_
    case hx => go_simp
    case hy => go_simp
    intro w10 hw10
    have hr10 : w10.rowIs N9 36 17 (stV s') := by
      rw [hw10, HZ.out]
      exact (rowIs_piece (off := 0) (m := 17) (h := stV s') HR9.out).congr (fun j hj => by rw [if_pos ⟨Nat.zero_le _, by omega⟩, Nat.sub_zero])
    have HS78 := Lib.hid (Nat.le_trans GNE.out (Nat.le_of_lt (rowlt HE.out)))
    have hb10 : Below w8.heap.size w8 w10 := by rw [hw10]; exact below_setCells HN9.out _ _ _ HB9.out
    clear hcE
    have nHM7 := Lib.hid (HM7.out.keep hb10)
    have nHB := Lib.hid (HB.out.trans (hb10.mono HB.out.size))
    have nHE := Lib.hid (bkeep hb10 HE.out)
    clear HM7 HB HE
    have HM7 := nHM7; clear nHM7
    have HB := nHB; clear nHB
    have HE := nHE; clear nHE
    have HS9 := Lib.hid (hr10)
    clear hr10 hb10 hw10 HB9 HL9 HR9
    go_upto_region 10 with fail
    have HN9' := Lib.hid (Nat.le_trans HS78.out HN9.out)
    obtain ⟨K, hK⟩ : ∃ K, K = 64 * p := ⟨_, rfl⟩
    have HK := Lib.hid (Nat.le_of_eq hK)
    have HKE := Lib.hid hK
    clear hK
    have HS10 := Lib.hid (Nat.le_trans HN9'.out (Nat.le_of_lt HS9.out.lt))
    have hszw11 := spaceSize_in HM7.out.sp (by rw [HM7.out.len]; omega)
    rw [morePs_len, ← HKE.out] at hszw11
    go_wp2_with fail
    refine hszw11.mono ?_; rintro e wx ⟨rfl, hwx⟩
    subst hwx
    clear hszw11
    go_wp2_with fail
    refine (HM7.out.memW.readG K HK.out).mono ?_; rintro e w11 ⟨gO, rfl, hgO, hso, hbw11⟩
    have HgO := Lib.hid hgO
    have nHM7 := Lib.hid (HM7.out.keep hbw11)
    have nHB := Lib.hid (HB.out.trans (hbw11.mono HB.out.size))
    have nHE := Lib.hid (bkeep hbw11 HE.out)
    have nHS9 := Lib.hid (HS9.out.of_block (hbw11.block _ HS9.out.lt))
    clear HM7 HB HE HS9
    have HM7 := nHM7; clear nHM7
    have HB := nHB; clear nHB
    have HE := nHE; clear nHE
    have HS9 := nHS9; clear nHS9
    clear hgO hbw11
    have HX := Lib.hid (hso)
    clear hso
    go_wp2_with fail
    have hrun2 := run_in HM7.out 300 (by omega)
    unfold RunP at hrun2
    rw [show runM (stI p) 300 0 s' = (s', 2, ee, 0) from run_flt HST.out 299 0] at hrun2
    refine hrun2.mono ?_
    rintro e w12 ⟨rfl, ⟨F12, hm12⟩, hc12⟩
    clear hrun2
    have nS : ∀ k, w7.heap.size ≤ k → ¬ mwS g gm gx k := fun k hk => not_mwS HLT.out.1 HLT.out.2.1 HLT.out.2.2 hk
    have nHB := Lib.hid (Chg.go HB.out hc12 (fun k hk => by rcases hk with rfl | rfl | rfl; exact HGX.out; exact HG.out.1; exact HG.out.2) HB.out.size)
    have nHE := Lib.hid (hc12.blk HE.out (nS _ GNE.out))
    have nHS9 := Lib.hid (HS9.out.of_block (hc12.block _ HS9.out.lt (nS _ HN9'.out)))
    have nHX := Lib.hid (HX.out.chgN hc12 (nS _ (Nat.le_trans HS10.out HgO.out)))
    clear HB HE HS9 HX
    have HB := nHB; clear nHB
    have HE := nHE; clear nHE
    have HS9 := nHS9; clear nHS9
    have HX := nHX; clear nHX
    clear HM7
    have HM7 := Lib.hid hm12
    clear hm12 hc12 nS
    unfold endA
    have hbw13 := bnew w12 (.cells #[.int .u8 2, .int .i64 (ee : Nat), .int .i64 0] 43)
    have hlw13 := heap_alloc_last w12 (.cells #[.int .u8 2, .int .i64 (ee : Nat), .int .i64 0] 43)
    have nHM7 := Lib.hid (HM7.out.keep hbw13)
    have nHB := Lib.hid (HB.out.trans (hbw13.mono HB.out.size))
    have nHE := Lib.hid (bkeep hbw13 HE.out)
    have nHS9 := Lib.hid (HS9.out.of_block (hbw13.block _ HS9.out.lt))
    have nHX := Lib.hid (HX.out.keep hbw13)
    clear HM7 HB HE HS9 HX
    have HM7 := nHM7; clear nHM7
    have HB := nHB; clear nHB
    have HE := nHE; clear nHE
    have HS9 := nHS9; clear nHS9
    have HX := nHX; clear nHX
    have HF := Lib.hid (hlw13)
    clear hbw13 hlw13
    go_upto_region 12 with fail
    obtain ⟨NF, hNF⟩ : ∃ k, k = w12.heap.size := ⟨_, rfl⟩
    rw [← hNF] at HF ⊢
    generalize w12.alloc (.cells #[.int .u8 2, .int .i64 (ee : Nat), .int .i64 0] 43) = w13 at *
    have GNF := Lib.hid (Nat.le_of_eq hNF.symm)
    clear hNF
    have hszw14 := spaceSize_in HM7.out.sp (by rw [HM7.out.len]; omega)
    rw [morePs_len, ← HKE.out] at hszw14
    go_wp2_with fail
    refine hszw14.mono ?_; rintro e wx ⟨rfl, hwx⟩
    subst hwx
    clear hszw14
    go_wp2_with fail
    refine (HM7.out.memW.readG K HK.out).mono ?_; rintro e w14 ⟨gP, rfl, hgP, hso, hbw14⟩
    have HgP := Lib.hid hgP
    have nHM7 := Lib.hid (HM7.out.keep hbw14)
    have nHB := Lib.hid (HB.out.trans (hbw14.mono HB.out.size))
    have nHE := Lib.hid (bkeep hbw14 HE.out)
    have nHS9 := Lib.hid (HS9.out.of_block (hbw14.block _ HS9.out.lt))
    have nHX := Lib.hid (HX.out.keep hbw14)
    have nHF := Lib.hid (bkeep hbw14 HF.out)
    clear HM7 HB HE HS9 HX HF
    have HM7 := nHM7; clear nHM7
    have HB := nHB; clear nHB
    have HE := nHE; clear nHE
    have HS9 := nHS9; clear nHS9
    have HX := nHX; clear nHX
    have HF := nHF; clear nHF
    clear hgP hbw14
    have HY := Lib.hid (hso)
    clear hso
    have heq : ∀ w : World, (Op.equalIn 10000 43 (.agg #[.int .u8 2, .int .i64 (ee : Nat), .int .i64 0]) (.agg #[.int .u8 2, .int .i64 (ee : Nat), .int .i64 0])).run Try.prog w = .ok true w := fun w => eqEnd (x := 2) (by omega) (by omega) (by omega) w
    have HEQ := Lib.hid heq
    have HEQ2 := Lib.hid (fun w => eqState HM7.out.wf.r0 HM7.out.wf.a0 w)
    have hSE : ∀ w', Below w14.heap.size w14 w' → w'.heap[NE]? = some (.cells #[.int .u8 2, .int .i64 (ee : Nat), .int .i64 (d' : Nat)] 43 (0, 0)) := fun w' h => bkeep h HE.out
    have hSF : ∀ w', Below w14.heap.size w14 w' → w'.heap[NF]? = some (.cells #[.int .u8 2, .int .i64 (ee : Nat), .int .i64 0] 43 (0, 0)) := fun w' h => bkeep h HF.out
    have hSX : ∀ w', Below w14.heap.size w14 w' → w'.rowIs gx 36 17 (stV s') := fun w' h => HM7.out.rw.of_block (h.block _ HM7.out.rw.lt)
    have hS9 : ∀ w', Below w14.heap.size w14 w' → w'.rowIs N9 36 17 (stV s') := fun w' h => HS9.out.of_block (h.block _ HS9.out.lt)
    have HSE := Lib.hid hSE
    have HSF := Lib.hid hSF
    have HSX := Lib.hid hSX
    have HSN := Lib.hid hS9
    clear heq hSE hSF hSX hS9
    obtain ⟨st, hst⟩ : ∃ st, st = strOfNums (memL s'.mem K) := ⟨_, rfl⟩
    have HCX := Lib.hid (fun (w' : World) (h : Below w14.heap.size w14 w') => by have := (HX.out.keep h).toString (P := Try.prog) Try.underlying32 Try.underlying5 Try.underlying9; rw [← hst] at this; exact this)
    have HCY := Lib.hid (fun (w' : World) (h : Below w14.heap.size w14 w') => by have := (HY.out.keep h).toString (P := Try.prog) Try.underlying32 Try.underlying5 Try.underlying9; rw [← hst] at this; exact this)
    clear hst
    have hS0 : (fun w' : World => Below w14.heap.size w14 w') (World.drew w14) := drewb w14
    go_upto_region 13 with fail
    refine wp_region_held (S := fun w' => Below w14.heap.size w14 w') (by kernel_rfl) ?_
    change wpAnyH _ _ _ _ _ _ _ _ (World.drew _)
    refine takeH 0 (.agg #[.int .u8 2, .int .i64 (ee : Nat), .int .i64 0]) (some 79) rfl rfl (by kernel_rfl) (by kernel_rfl) (by kernel_rfl) (fun _ _ _ h => h) (yi_piece (by kernel_rfl) 43 (.tmp 12) rfl NF 0 (by go_simp) #[.int .u8 2, .int .i64 (ee : Nat), .int .i64 0] _ (fun w' hw j v hj => by rw [rowcell (HSF.out w' hw), Nat.zero_add]; simpa using hj) Try.underlying43 rfl (by kernel_rfl)) hS0 ?_
    refine takeH 1 (.pointer (some ⟨NE, 1, none⟩)) (some 80) rfl rfl (by kernel_rfl) (by kernel_rfl) (by kernel_rfl) (fun _ _ _ h => h) (.inl ⟨by kernel_rfl, fun w _ => by go_simp⟩) hS0 ?_
    refine takeH 2 (.int .i64 (ee : Nat)) (some 81) rfl rfl (by kernel_rfl) (by kernel_rfl) (by kernel_rfl) (fun _ _ _ h => h) (.inl ⟨by kernel_rfl, fun w hw => by have hc := rowcell (HSE.out w hw); go_simp⟩) hS0 ?_
    refine takeH 3 (.agg #[.int .u8 2, .int .i64 (ee : Nat), .int .i64 0]) (some 82) rfl rfl (by kernel_rfl) (by kernel_rfl) (by kernel_rfl) (fun _ _ _ h => h) (.inl ⟨by kernel_rfl, fun w _ => by go_simp⟩) hS0 ?_
    refine takeH 4 (.bool true) (some 83) rfl rfl (by kernel_rfl) (by kernel_rfl) (by kernel_rfl) (fun _ _ _ h => h) (.inl ⟨by kernel_rfl, fun w _ => exec_eql (xs := #[.int .u8 2, .int .i64 (ee : Nat), .int .i64 0]) (ys := #[.int .u8 2, .int .i64 (ee : Nat), .int .i64 0]) rfl (by go_simp) (by go_simp) (by kernel_rfl) (HEQ.out w)⟩) hS0 ?_
    go_simp
    refine takeH 5 (.bool true) (some 84) rfl rfl (by kernel_rfl) (by kernel_rfl) (by kernel_rfl) (fun _ _ _ h => h) (.inl ⟨by kernel_rfl, fun w _ => by go_simp⟩) hS0 ?_
    refine takeH 6 (.pointer (some ⟨gx, 0, none⟩)) (some 85) rfl rfl (by kernel_rfl) (by kernel_rfl) (by kernel_rfl) (fun _ _ _ h => h) (.inl ⟨by kernel_rfl, fun w _ => by go_simp⟩) hS0 ?_
    refine takeH 7 (.pointer (some ⟨gx, 0, none⟩)) (some 86) rfl rfl (by kernel_rfl) (by kernel_rfl) (by kernel_rfl) (fun _ _ _ h => h) (.inl ⟨by kernel_rfl, fun w _ => by go_simp⟩) hS0 ?_
    refine takeH 8 (.agg Z) (some 87) rfl rfl (by kernel_rfl) (by kernel_rfl) (by kernel_rfl) (fun _ _ _ h => h) (yi_piece (by kernel_rfl) 36 (.tmp 86) rfl gx 0 (by go_simp) Z _ (fun w' hw j v hj => by rw [HZ.out] at hj; obtain ⟨h1, rfl⟩ := rowArr_get _ _ _ _ hj; rw [Nat.zero_add]; exact (HSX.out w' hw).cell h1) Try.underlying36 rfl HZS.out) hS0 ?_
    go_simp
    refine takeH 9 (.agg Z) (some 88) rfl rfl (by kernel_rfl) (by kernel_rfl) (by kernel_rfl) (fun _ _ _ h => h) (yi_piece (by kernel_rfl) 36 (.tmp 9) rfl N9 0 (by go_simp) Z _ (fun w' hw j v hj => by rw [HZ.out] at hj; obtain ⟨h1, rfl⟩ := rowArr_get _ _ _ _ hj; rw [Nat.zero_add]; exact (HSN.out w' hw).cell h1) Try.underlying36 rfl HZS.out) hS0 ?_
    refine takeH 10 (.bool true) (some 89) rfl rfl (by kernel_rfl) (by kernel_rfl) (by kernel_rfl) (fun _ _ _ h => h) (.inl ⟨by kernel_rfl, fun w _ => exec_eql (xs := Z) (ys := Z) rfl (by go_simp) (by go_simp) (by kernel_rfl) (by rw [HZ.out]; exact HEQ2.out w)⟩) hS0 ?_
    refine takeH 11 (.bool true) (some 90) rfl rfl (by kernel_rfl) (by kernel_rfl) (by kernel_rfl) (fun _ _ _ h => h) (.inl ⟨by kernel_rfl, fun w _ => by go_simp⟩) hS0 ?_
    refine takeH 12 (.bool true) (some 91) rfl rfl (by kernel_rfl) (by kernel_rfl) (by kernel_rfl) (fun _ _ _ h => h) (.inl ⟨by kernel_rfl, fun w _ => by go_simp⟩) hS0 ?_
    go_simp
    refine takeH 13 (.slice (some ⟨gO, 0, none⟩) K K) (some 92) rfl rfl (by kernel_rfl) (by kernel_rfl) (by kernel_rfl) (fun _ _ _ h => h) (.inl ⟨by kernel_rfl, fun w _ => by go_simp⟩) hS0 ?_
    refine takeH 14 (.string st) (some 93) rfl rfl (by kernel_rfl) (by kernel_rfl) (by kernel_rfl) (fun _ _ _ h => h) (yi_convert (by kernel_rfl) 32 9 (.tmp 92) rfl _ _ (by go_simp) (fun w hw => HCX.out w hw)) hS0 ?_
    refine takeH 15 (.slice (some ⟨gP, 0, none⟩) K K) (some 94) rfl rfl (by kernel_rfl) (by kernel_rfl) (by kernel_rfl) (fun _ _ _ h => h) (.inl ⟨by kernel_rfl, fun w _ => by go_simp⟩) hS0 ?_
    go_simp
    refine takeH 16 (.string st) (some 95) rfl rfl (by kernel_rfl) (by kernel_rfl) (by kernel_rfl) (fun _ _ _ h => h) (yi_convert (by kernel_rfl) 32 9 (.tmp 94) rfl _ _ (by go_simp) (fun w hw => HCY.out w hw)) hS0 ?_
    refine takeH 17 (.bool true) (some 96) rfl rfl (by kernel_rfl) (by kernel_rfl) (by kernel_rfl) (fun _ _ _ h => h) (.inl ⟨by kernel_rfl, fun w _ => by go_simp⟩) hS0 ?_
    refine takeH 18 (.bool true) (some 97) rfl rfl (by kernel_rfl) (by kernel_rfl) (by kernel_rfl) (fun _ _ _ h => h) (.inl ⟨by kernel_rfl, fun w _ => by go_simp⟩) hS0 ?_
    refine takeH 19 (.bool true) (some 4) rfl rfl (by kernel_rfl) (by kernel_rfl) (by kernel_rfl) (fun _ _ _ h => h) (.inl ⟨by kernel_rfl, fun w _ => by go_simp⟩) hS0 ?_
    refine wpAnyH_done (by kernel_rfl) ?_ _
    go_simp
    go_wp2_with fail
    go_ret
    exact ⟨rfl, HB.out.trans ((drewb w14).mono HB.out.size)⟩
end Go.Proofs.Ytapcbfeifeobhaa
