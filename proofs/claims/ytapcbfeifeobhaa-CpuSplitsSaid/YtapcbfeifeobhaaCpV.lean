/- CpuFaults: its walk. Two boxes made in whatever order. CpuSplits: its walk. -/
import Derived.Test.YtapcbfeifeobhaaCpU4
import Derived.Test.YtapcbfeifeobhaaHeld
set_option linter.unusedVariables false
set_option linter.unusedSimpArgs false
namespace Go.Proofs.Ytapcbfeifeobhaa
open Go.RowKit
open Go.Maps (Keyed)
theorem not_mwS {g gm gx k B : Nat} (h1 : gx < B) (h2 : g < B) (h3 : gm < B) (hk : B ≤ k) : ¬ mwS g gm gx k := fun h => by
  rcases h with rfl | rfl | rfl <;> omega
theorem MW.lts {w : World} {g gm gs base m gx : Nat} {a : Option Addr} {us : Nat → Nat} {v : Value} {F : Nat × Nat → Option (Nat → Nat)} {s : Mach} (h : MW w g gm gs base m gx a us v F s) : gx < w.heap.size ∧ g < w.heap.size ∧ gm < w.heap.size := ⟨h.rw.lt, h.tp.row.lt, h.tp.mp.lt⟩
theorem SI.chgN {S : Nat → Prop} {w w' : World} {g n cap : Nat} {zs : List Int} (h : SI w .u8 (.slice (some ⟨g, 0, none⟩) n cap) zs) (c : Chg S w w') (hg : ¬ S g) : SI w' .u8 (.slice (some ⟨g, 0, none⟩) n cap) zs :=
  ⟨h.sr.keepAt c.size (fun a cp hv _ hl => by injection hv with e1 e2 e3; injection e1 with e1; subst e1; exact c.block g hl hg), h.wf⟩
theorem bytesN_le (o : Nat) : bytesN o = 1 ∨ bytesN o = 2 ∨ bytesN o = 4 := by
  unfold bytesN
  split
  · exact .inr (.inl rfl)
  · split
    · exact .inr (.inr rfl)
    · exact .inl rfl
theorem memI_ok {m : Nat} {s : Mach} (h : MOk m s) (o x a : Nat) : MOk m (memI m s o x a).1 := by
  unfold memI
  by_cases c1 : 64 * m < a + bytesN o
  · rw [if_pos c1]; exact h
  · rw [if_neg c1]
    by_cases c2 : o = 27 ∨ o = 28 ∨ o = 29
    · rw [if_pos c2]
      refine ⟨h.r0, h.a0, fun i hi => ?_⟩
      show stN s.mem a (bytesN o) (s.R x).toNat i < 256
      unfold stN
      split
      · exact Nat.mod_lt _ (by omega)
      · exact h.m0 i hi
    · rw [if_neg c2]
      have h1 := ldN_lt (mem := s.mem) (at_ := a) (bytesN o) (fun i hi => h.m0 _ (by omega))
      have h2 : ldN s.mem a (bytesN o) ≤ 4294967295 := by
        rcases bytesN_le o with e | e | e <;> rw [e] at h1 ⊢ <;> omega
      refine h.setR x _ ?_ ?_
      · unfold ldI
        split
        · exact (sx8_le _).1
        · split
          · exact (sx16_le _).1
          · omega
      · unfold ldI
        split
        · exact (sx8_le _).2
        · split
          · exact (sx16_le _).2
          · omega
theorem insB_le {m : Nat} {s : Mach} (h : MOk m s) (hin : pcN s + 4 ≤ 64 * m) (i : Nat) (hi : i < 4) : insB s i ≤ 255 := by
  have := h.m0 (pcN s + i) (by omega)
  show s.mem (pcN s + i) ≤ 255
  omega
theorem stI_ok {m : Nat} {s : Mach} (h : MOk m s) : MOk m (stI m s).1 := by
  unfold stI
  by_cases hin : pcN s + 4 ≤ 64 * m
  · rw [if_pos hin]
    by_cases hck : ckI s = 0
    · rw [if_pos hck]
      by_cases h39 : insB s 0 = 39
      · rw [if_pos h39]; exact h.setAt _ (nextI_le s).1 (nextI_le s).2
      · rw [if_neg h39]
        by_cases he : (stepI m s (insB s 0) (insB s 1) (insB s 2) (insB s 3)).2 = 0
        · rw [if_pos he]
          obtain ⟨k1, k2, k3, k4⟩ := chk hck
          have r := fun i (hi : i < 16) => h.r0 i hi
          have b2 := insB_le h hin 2 (by omega)
          have b3 := insB_le h hin 3 (by omega)
          have n := nextI_le s
          show MOk m (stepI m s (insB s 0) (insB s 1) (insB s 2) (insB s 3)).1
          generalize insB s 0 = o at *
          generalize insB s 1 = x at *
          generalize insB s 2 = y at *
          generalize insB s 3 = z at *
          unfold stepI
          by_cases c : 5 ≤ o ∧ o ≤ 20
          · rw [if_pos c]
            have hn := numI_le o c.1 c.2 (s.R (y % 16)) (s.R (z % 16)) (r _ (Nat.mod_lt _ (by omega))).1 (r _ (Nat.mod_lt _ (by omega))).2 (r _ (Nat.mod_lt _ (by omega))).1 (r _ (Nat.mod_lt _ (by omega))).2
            by_cases d : (numI o (s.R (y % 16)) (s.R (z % 16))).2 = 0
            · rw [if_pos d]; exact (h.setR x _ hn.1 hn.2).setAt _ n.1 n.2
            · rw [if_neg d]; exact h
          · rw [if_neg c]
            by_cases c2 : 22 ≤ o ∧ o ≤ 29
            · rw [if_pos c2]
              generalize ((s.R (y % 16) + near z % 4294967296) % 4294967296).toNat = ad
              by_cases d : (memI m s o x ad).2 = 0
              · rw [if_pos d]; exact (memI_ok h o x ad).setAt _ n.1 n.2
              · rw [if_neg d]; exact h
            · rw [if_neg c2]
              have hx := r (x % 16) (Nat.mod_lt _ (by omega))
              have hy := r (y % 16) (Nat.mod_lt _ (by omega))
              obtain ⟨p1, _, p3, p4⟩ := plainI_ok h o x y z k3 b2 b3 (s.R (x % 16)) (s.R (y % 16)) (nextI s) hx.1 hx.2 hy.1 hy.2 n.1 n.2
              exact p1.setAt _ p3 p4
        · rw [if_neg he]; exact h
    · rw [if_neg hck]; exact h
  · rw [if_neg hin]; exact h
theorem stI_e32 {m : Nat} {s s' : Mach} {e : Nat} (h : stI m s = (s', .flt e)) : e ≤ 32 := by
  unfold stI at h
  by_cases c : pcN s + 4 ≤ 64 * m
  · rw [if_pos c] at h
    by_cases d : ckI s = 0
    · rw [if_pos d] at h
      by_cases f : insB s 0 = 39
      · rw [if_pos f] at h; injection h with _ h; cases h
      · rw [if_neg f] at h
        by_cases k : (stepI m s (insB s 0) (insB s 1) (insB s 2) (insB s 3)).2 = 0
        · rw [if_pos k] at h; injection h with _ h; cases h
        · rw [if_neg k] at h
          injection h with _ h
          injection h with h
          rcases stepI_err m s (insB s 0) (insB s 1) (insB s 2) (insB s 3) with e1 | ⟨e1, e2, _⟩
          · exact absurd e1 k
          · omega
    · rw [if_neg d] at h
      injection h with _ h
      injection h with h
      rcases checkI_ways (formOf (insB s 0)) (insB s 1) (insB s 2) (insB s 3) with e1 | e1 | e1
      · exact absurd e1 d
      · have : ckI s = 28 := e1; omega
      · have : ckI s = 32 := e1; omega
  · rw [if_neg c] at h
    injection h with _ h
    injection h with h
    omega
theorem MemW.readG {w : World} {g gm gs base m : Nat} {a : Option Addr} {us : Nat → Nat} {v : Value} {F : Nat × Nat → Option (Nat → Nat)} {mem : Nat → Nat} (h : MemW w g gm gs base m a us v F mem) (k : Nat) (hk : k ≤ 64 * m) :
    Calls Try.prog 16 #[.pointer (some ⟨gs, 0, none⟩), .int .u32 0, .int .i64 k] w fun e w' => ∃ gO, e = .returned (.tuple #[.slice (some ⟨gO, 0, none⟩) k k, .int .i64 0]) ∧ w.heap.size ≤ gO ∧ SI w' .u8 (.slice (some ⟨gO, 0, none⟩) k k) (memL mem k) ∧ Below w.heap.size w w' := by
  have hl := h.ok.len
  rw [morePs_len] at hl
  have hr := spaceRead_in h.tp h.sp h.ok 0 k (by omega) (by rw [morePs_len]; omega)
  refine hr.mono ?_
  rintro e w' ⟨gO, rfl, hgO, hrow, hb⟩
  refine ⟨gO, rfl, hgO, ?_, hb⟩
  have e1 : memL mem k = memL (fun j => spMem F (morePs 0 0 m) (0 + j)) k := memL_congr fun i hi => by
    show mem i = spMem F (morePs 0 0 m) (0 + i)
    rw [Nat.zero_add, h.mm i (by omega)]
  rw [e1]
  refine memL_row hrow (fun j hj => ?_) (by omega)
  show spMem F (morePs 0 0 m) (0 + j) < 256
  rw [Nat.zero_add, ← h.mm j (by omega)]
  exact h.m0 j (by omega)
/-- The machine that asked is right. -/
theorem run_askq {m : Nat} (b : Nat) : ∀ d s s' n d', MOk m s → runM (stI m) b d s = (s', 1, n, d') → ∃ q, MOk m q ∧ stI m q = (s', .ask n) := by
  induction b with
  | zero =>
    intro d s s' n d' _ h
    injection h with _ h
    injection h with h _
    exact absurd h (by decide)
  | succ b ih =>
    intro d s s' n d' hs h
    obtain ⟨p, o, hst⟩ : ∃ s' o, stI m s = (s', o) := ⟨_, _, rfl⟩
    cases o with
    | go =>
      rw [run_go hst] at h
      exact ih _ _ _ _ _ (by have := stI_ok hs; rw [hst] at this; exact this) h
    | ask k =>
      rw [run_ask hst] at h
      injection h with h1 h2
      injection h2 with _ h2
      injection h2 with h2 _
      exact ⟨s, hs, by rw [hst, h1, h2]⟩
    | flt e =>
      rw [run_flt hst] at h
      injection h with _ h
      injection h with h _
      exact absurd h (by decide)
/-- A machine that asked: its next instruction stands behind four bytes. -/
theorem stI_ask_at {m n : Nat} {q s : Mach} (hm : m ≤ 32) (q0 : 0 ≤ q.at_) (h : stI m q = (s, .ask n)) : 4 ≤ s.at_ := by
  unfold stI at h
  by_cases hin : pcN q + 4 ≤ 64 * m
  · rw [if_pos hin] at h
    by_cases hck : ckI q = 0
    · rw [if_pos hck] at h
      by_cases h39 : insB q 0 = 39
      · rw [if_pos h39] at h
        injection h with h1 h2
        rw [← h1]
        show 4 ≤ nextI q
        unfold pcN at hin
        unfold nextI
        omega
      · rw [if_neg h39] at h
        split at h
        · injection h with _ h; cases h
        · injection h with _ h; cases h
    · rw [if_neg hck] at h; injection h with _ h; cases h
  · rw [if_neg hin] at h; injection h with _ h; cases h
set_option maxRecDepth 100000 in
set_option maxHeartbeats 16000000 in
theorem cpuFaults_walk (W : World) (v0 v1 : Value) (o0 : Arg Try.prog W 51 v0) (o1 : Arg Try.prog W 34 v1) :
    Calls Try.prog 6 #[v0, v1] W fun e w' => e = .returned (.bool true) ∧ Below W.heap.size W w' := by
  obtain ⟨vl, n, cap, vd, dl, dcap, c, rfl, hcode⟩ := CodeC.of_arg o0
  obtain ⟨R, rfl, hR⟩ := regs_of_arg o1
  obtain ⟨X, hX⟩ : ∃ X, X = rowArr 16 (regC R) := ⟨_, rfl⟩
  rw [← hX]
  have HX := Lib.hid hX
  have HR := Lib.hid hR
  have HXS := Lib.hid (show (Try.prog.info? 34).map (·.size) = some X.size by rw [hX]; exact regs_size R)
  clear o0 o1 hX hR
  have HCODE := Lib.hid hcode
  have HB := Lib.hid (Below.refl W.heap.size W)
  clear hcode
  go_enter Try.func6, Try.ntmps6
  go_upto_region 1 with fail
  have hbw1 := bnew W (.cells #[.slice vl n cap, .slice vd dl dcap, .int .u8 (c : Nat)] 51)
  have hlw1 := heap_alloc_last W (.cells #[.slice vl n cap, .slice vd dl dcap, .int .u8 (c : Nat)] 51)
  have nHCODE := Lib.hid (HCODE.out.keep hbw1)
  have nHB := Lib.hid (HB.out.trans (hbw1.mono HB.out.size))
  clear HCODE HB
  have HCODE := nHCODE; clear nHCODE
  have HB := nHB; clear nHB
  have HL1 := Lib.hid (hlw1)
  clear hbw1 hlw1
  obtain ⟨N1, hN1⟩ : ∃ k, k = W.heap.size := ⟨_, rfl⟩
  rw [← hN1] at HL1
  have hsz : (W.alloc (.cells #[.slice vl n cap, .slice vd dl dcap, .int .u8 (c : Nat)] 51)).heap.size = N1 + 1 := by rw [World.size_alloc, hN1]
  rw [← hN1]
  generalize W.alloc (.cells #[.slice vl n cap, .slice vd dl dcap, .int .u8 (c : Nat)] 51) = w1 at *
  clear hN1
  have hbw2 := bnew w1 (.cells X 34)
  have hlw2 := heap_alloc_last w1 (.cells X 34)
  have nHCODE := Lib.hid (HCODE.out.keep hbw2)
  have nHB := Lib.hid (HB.out.trans (hbw2.mono HB.out.size))
  have nHL1 := Lib.hid (bkeep hbw2 HL1.out)
  clear HCODE HB HL1
  have HCODE := nHCODE; clear nHCODE
  have HB := nHB; clear nHB
  have HL1 := nHL1; clear nHL1
  have HL2 := Lib.hid (hlw2)
  clear hbw2 hlw2
  obtain ⟨N2, hN2⟩ : ∃ k, k = w1.heap.size := ⟨_, rfl⟩
  rw [← hN2] at HL2
  rw [← hN2] at hsz
  try rw [← hsz]
  generalize w1.alloc (.cells X 34) = w2 at *
  clear hN2 hsz
  go_wp2_with fail
  refine (cpuAwake_in _).mono ?_; rintro e w3 ⟨rfl, hb3⟩
  have nHCODE := Lib.hid (HCODE.out.keep hb3)
  have nHB := Lib.hid (HB.out.trans (hb3.mono HB.out.size))
  have nHL1 := Lib.hid (bkeep hb3 HL1.out)
  have nHL2 := Lib.hid (bkeep hb3 HL2.out)
  clear HCODE HB HL1 HL2
  have HCODE := nHCODE; clear nHCODE
  have HB := nHB; clear nHB
  have HL1 := nHL1; clear nHL1
  have HL2 := nHL2; clear nHL2
  clear hb3
  have hc1 := rowcell HL1.out
  go_wp2_with fail
  clear hc1
  refine (codeBytes_in HCODE.out).mono ?_; rintro e w4 ⟨A, cp, bs, rfl, hsi, h220, hb4⟩
  clear HCODE HL1
  have nHB := Lib.hid (HB.out.trans (hb4.mono HB.out.size))
  have nHL2 := Lib.hid (bkeep hb4 HL2.out)
  clear HB HL2
  have HB := nHB; clear nHB
  have HL2 := nHL2; clear nHL2
  clear hb4
  obtain ⟨len, hlen⟩ : ∃ l, l = bs.length := ⟨_, rfl⟩
  obtain ⟨p, hp⟩ : ∃ p, p = (len + 63) / 64 := ⟨_, rfl⟩
  have hp4 : p ≤ 4 := by omega
  have fp : ((len : Int) + 63) / 64 = p := by omega
  have hbz := wf_bytes hsi.wf
  have hmem := memory_in w4 A cp bs hsi hbz p (by omega) (by omega)
  rw [← hlen] at hmem ⊢
  have HMEM := Lib.hid hmem
  have HBZ := Lib.hid hbz
  clear hmem hsi hbz hp hlen
  go_wp2_with fail
  refine HMEM.out.mono ?_
  rintro e w5 ⟨g, gm, gs, base, a, us, v, F, rfl, hg, hgm, _, hmw, hb5⟩
  have HG := Lib.hid (And.intro (Nat.le_trans HB.out.size hg) (Nat.le_trans HB.out.size hgm))
  have nHB := Lib.hid (HB.out.trans (hb5.mono HB.out.size))
  have nHL2 := Lib.hid (bkeep hb5 HL2.out)
  clear HB HL2
  have HB := nHB; clear nHB
  have HL2 := nHL2; clear nHL2
  clear hb5 hg hgm HMEM
  have HM := Lib.hid (hmw)
  clear hmw
  obtain ⟨s0, hs0⟩ : ∃ s : Mach, s = ⟨R, 0, memZ bs⟩ := ⟨_, rfl⟩
  obtain ⟨Y, hY⟩ : ∃ Y, Y = rowArr 17 (stV s0) := ⟨_, rfl⟩
  have HY := Lib.hid hY
  have HS0 := Lib.hid hs0
  have HBU := Lib.hid (show Try.prog.built 36 [(0, .agg X)] = some Y by rw [HX.out, hY, hs0]; exact built_state R (memZ bs))
  clear hY hs0
  go_upto_region 6 with (first | (refine wpList_load_pieceTo rfl 34 (.tmp 3) rfl (some 25) rfl N2 0 rfl X _ (fun j v hj => by rw [Nat.zero_add, rowcell HL2.out]; simpa using hj) Try.underlying34 rfl HXS.out ?_) | (with_reducible refine wpList_stop (some 26) rfl ?_))
  clear HL2
  refine Lib.hid ?_
  refine wpList_buildTo rfl 36 _ rfl (some 26) rfl Y ?hf ?_
  case hf => (go_simp; exact HBU.out)
  go_upto_region 6 with fail
  have HBs := Lib.hid HB.out.size
  have hbw6 := bnew w5 (.cells Y 36)
  have hlw6 := heap_alloc_last w5 (.cells Y 36)
  have nHB := Lib.hid (HB.out.trans (hbw6.mono HB.out.size))
  have nHM := Lib.hid (HM.out.keep hbw6)
  clear HB HM
  have HB := nHB; clear nHB
  have HM := nHM; clear nHM
  have HYL := Lib.hid (hlw6)
  clear hbw6 hlw6
  obtain ⟨gx, hgx⟩ : ∃ k, k = w5.heap.size := ⟨_, rfl⟩
  rw [← hgx] at HYL
  have hrow : (w5.alloc (.cells Y 36)).rowIs gx 36 17 (stV s0) := rowIs_of_arr (by rw [← HY.out]; exact HYL.out)
  have hmw : MW (w5.alloc (.cells Y 36)) g gm gs base p gx a us v F s0 := MemW.mw (s := s0) (by rw [HS0.out]; exact HM.out) hrow (fun i hi => by rw [HS0.out]; exact HR.out i hi) (by rw [HS0.out]; exact ⟨Int.le_refl 0, (by decide : (0 : Int) ≤ 4294967295)⟩)
  have HMW := Lib.hid hmw
  have HGX := Lib.hid (show W.heap.size ≤ gx by rw [hgx]; exact HBs.out)
  rw [← hgx]
  generalize w5.alloc (.cells Y 36) = w6 at *
  clear hrow hmw HYL HM hgx HX HXS HBU
  go_wp2_with fail
  have hrun := run_in HMW.out 300 (by omega)
  unfold RunP at hrun
  have hways := run_ways (st := stI p) 300 0 s0
  have hask := fun s' n d' => run_askq (m := p) 300 0 s0 s' n d' HMW.out.wf
  obtain ⟨r, hr⟩ : ∃ r, r = runM (stI p) 300 0 s0 := ⟨_, rfl⟩
  rw [← hr] at hrun hways hask
  clear hr
  have HRUN := Lib.hid hrun
  have HWAYS := Lib.hid hways
  have HASK := Lib.hid hask
  clear hrun hways hask
  have hm32 := HMW.out.m32
  refine HRUN.out.mono ?_
  rintro e w7 ⟨rfl, ⟨F7, hmw7⟩, hc7⟩
  have nHB := Lib.hid (Chg.go HB.out hc7 (fun k hk => by rcases hk with rfl | rfl | rfl; exact HGX.out; exact HG.out.1; exact HG.out.2) HB.out.size)
  have HM7 := Lib.hid hmw7
  clear hmw7 hc7 HB HMW HRUN
  have HB := nHB; clear nHB
  unfold endA
  rcases HWAYS.out with ⟨s', hr⟩ | ⟨s', nn, d', q, hr, hd1, hd2, hst⟩ | ⟨s', ee, d', q, hr, hd1, hd2, hst⟩
  all_goals subst hr
  all_goals clear HWAYS
  · go_wp2_with fail
    go_ret
    exact ⟨rfl, bnewAfter HB.out _⟩
  · obtain ⟨q2, hq2, hst2⟩ := HASK.out s' nn d' rfl
    have h4 : 4 ≤ s'.at_ := stI_ask_at hm32 hq2.a0.1 hst2
    clear hq2 hst2 hst
    have hbw8 := bnew w7 (.cells #[.int .u8 1, .int .i64 (nn : Nat), .int .i64 (d' : Nat)] 43)
    have hlw8 := heap_alloc_last w7 (.cells #[.int .u8 1, .int .i64 (nn : Nat), .int .i64 (d' : Nat)] 43)
    have nHM7 := Lib.hid (HM7.out.keep hbw8)
    have nHB := Lib.hid (HB.out.trans (hbw8.mono HB.out.size))
    clear HM7 HB
    have HM7 := nHM7; clear nHM7
    have HB := nHB; clear nHB
    have HE := Lib.hid (hlw8)
    clear hbw8 hlw8
    go_upto_region 7 with fail
    obtain ⟨NE, hNE⟩ : ∃ k, k = w7.heap.size := ⟨_, rfl⟩
    rw [← hNE] at HE ⊢
    generalize w7.alloc (.cells #[.int .u8 1, .int .i64 (nn : Nat), .int .i64 (d' : Nat)] 43) = w8 at *
    have GNE := Lib.hid (Nat.le_of_eq hNE.symm)
    clear hNE
    have hcE := rowcell HE.out
    have c16 : w8.cell? ⟨gx, 16, none⟩ = some (.int .u32 s'.at_) := HM7.out.rw.cell (i := 16) (by omega)
    obtain ⟨t', ht'⟩ : ∃ t, t = s'.at_ := ⟨_, rfl⟩
    rw [← ht'] at c16 h4
    have hd1' : (1 : Int) ≤ d' := by omega
    clear ht'
    go_wp2_with fail
    go_ret
    exact ⟨rfl, HB.out⟩
  · have HLT := Lib.hid HM7.out.lts
    have he32 := stI_e32 hst
    have hst' := stI_flt p q s' ee hst
    rw [← hst'] at hst
    have HST := Lib.hid hst
    clear hst hst'
    have hbw8 := bnew w7 (.cells #[.int .u8 2, .int .i64 (ee : Nat), .int .i64 (d' : Nat)] 43)
    have hlw8 := heap_alloc_last w7 (.cells #[.int .u8 2, .int .i64 (ee : Nat), .int .i64 (d' : Nat)] 43)
    have nHM7 := Lib.hid (HM7.out.keep hbw8)
    have nHB := Lib.hid (HB.out.trans (hbw8.mono HB.out.size))
    clear HM7 HB
    have HM7 := nHM7; clear nHM7
    have HB := nHB; clear nHB
    have HE := Lib.hid (hlw8)
    clear hbw8 hlw8
    go_upto_region 7 with fail
    obtain ⟨NE, hNE⟩ : ∃ k, k = w7.heap.size := ⟨_, rfl⟩
    rw [← hNE] at HE ⊢
    generalize w7.alloc (.cells #[.int .u8 2, .int .i64 (ee : Nat), .int .i64 (d' : Nat)] 43) = w8 at *
    have GNE := Lib.hid (Nat.le_of_eq hNE.symm)
    clear hNE
    have hcE := rowcell HE.out
    obtain ⟨Z, hZ⟩ : ∃ Z, Z = rowArr 17 (stV s') := ⟨_, rfl⟩
    have HZ := Lib.hid hZ
    have HZS := Lib.hid (show (Try.prog.info? 36).map (·.size) = some Z.size by rw [hZ]; exact state_size s')
    clear hZ
    go_upto_region 9 with fail
    go_wp2_with (first | (refine wpList_load_pieceTo rfl 36 (.tmp 60) rfl (some 61) rfl gx 0 rfl Z _ (fun j v hj => by rw [HZ.out] at hj; obtain ⟨h1, rfl⟩ := rowArr_get _ _ _ _ hj; rw [Nat.zero_add]; exact HM7.out.rw.cell h1) Try.underlying36 rfl HZS.out ?_) | (with_reducible refine wpList_stop none rfl ?_))
    refine Lib.hid ?_
    have hb9 := bnew w8 (.cells #[.int .u32 0, .int .u32 0, .int .u32 0, .int .u32 0, .int .u32 0, .int .u32 0, .int .u32 0, .int .u32 0, .int .u32 0, .int .u32 0, .int .u32 0, .int .u32 0, .int .u32 0, .int .u32 0, .int .u32 0, .int .u32 0, .int .u32 0] 36)
    have hl9 := heap_alloc_last w8 (.cells #[.int .u32 0, .int .u32 0, .int .u32 0, .int .u32 0, .int .u32 0, .int .u32 0, .int .u32 0, .int .u32 0, .int .u32 0, .int .u32 0, .int .u32 0, .int .u32 0, .int .u32 0, .int .u32 0, .int .u32 0, .int .u32 0, .int .u32 0] 36)
    obtain ⟨N9, hN9⟩ : ∃ k, k = w8.heap.size := ⟨_, rfl⟩
    rw [← hN9] at hl9 ⊢
    generalize w8.alloc (.cells #[.int .u32 0, .int .u32 0, .int .u32 0, .int .u32 0, .int .u32 0, .int .u32 0, .int .u32 0, .int .u32 0, .int .u32 0, .int .u32 0, .int .u32 0, .int .u32 0, .int .u32 0, .int .u32 0, .int .u32 0, .int .u32 0, .int .u32 0] 36) = w9 at *
    have HL9 := Lib.hid hl9
    have HB9 := Lib.hid hb9
    have HN9 := Lib.hid (Nat.le_of_eq hN9.symm)
    have hr9 : w9.rowIs N9 36 17 (fun _ => .int .u32 0) := ⟨_, hl9, rfl, fun i hi => by rcases (show i = 0 ∨ i = 1 ∨ i = 2 ∨ i = 3 ∨ i = 4 ∨ i = 5 ∨ i = 6 ∨ i = 7 ∨ i = 8 ∨ i = 9 ∨ i = 10 ∨ i = 11 ∨ i = 12 ∨ i = 13 ∨ i = 14 ∨ i = 15 ∨ i = 16 by omega) with rfl | rfl | rfl | rfl | rfl | rfl | rfl | rfl | rfl | rfl | rfl | rfl | rfl | rfl | rfl | rfl | rfl <;> rfl⟩
    have HR9 := Lib.hid hr9
    clear hb9 hl9 hN9 hr9
    have HZ17 := Lib.hid (show Z.size = 17 by rw [HZ.out, rowArr_size])
    refine wpList_store_pieceTo rfl 36 (.tmp 9) (.tmp 61) rfl rfl N9 0 Z ?hx ?hy HZS.out (fun j hj => by rw [Nat.zero_add, HR9.out.cell (by rw [HZ17.out] at hj; exact hj)]; rfl) (fun j hj => HR9.out.frozen _) (by rw [HZ.out]; exact state_one s') ?_
    case hx => go_simp
    case hy => go_simp
    intro w10 hw10
    have hr10 : w10.rowIs N9 36 17 (stV s') := by
      rw [hw10, HZ.out]
      exact (rowIs_piece (off := 0) (m := 17) (h := stV s') HR9.out).congr (fun j hj => by rw [if_pos ⟨Nat.zero_le _, by omega⟩, Nat.sub_zero])
    have HS78 := Lib.hid (Nat.le_trans GNE.out (Nat.le_of_lt (rowlt HE.out)))
    have hb10 : Below w8.heap.size w8 w10 := by rw [hw10]; exact below_setCells HN9.out _ _ _ HB9.out
    clear hcE
    have nHM7 := Lib.hid (HM7.out.keep hb10)
    have nHB := Lib.hid (HB.out.trans (hb10.mono HB.out.size))
    have nHE := Lib.hid (bkeep hb10 HE.out)
    clear HM7 HB HE
    have HM7 := nHM7; clear nHM7
    have HB := nHB; clear nHB
    have HE := nHE; clear nHE
    have HS9 := Lib.hid (hr10)
    clear hr10 hb10 hw10 HB9 HL9 HR9
    go_upto_region 10 with fail
    have HN9' := Lib.hid (Nat.le_trans HS78.out HN9.out)
    obtain ⟨K, hK⟩ : ∃ K, K = 64 * p := ⟨_, rfl⟩
    have HK := Lib.hid (Nat.le_of_eq hK)
    have HKE := Lib.hid hK
    clear hK
    have HS10 := Lib.hid (Nat.le_trans HN9'.out (Nat.le_of_lt HS9.out.lt))
    have hszw11 := spaceSize_in HM7.out.sp (by rw [HM7.out.len]; omega)
    rw [morePs_len, ← HKE.out] at hszw11
    go_wp2_with fail
    refine hszw11.mono ?_; rintro e wx ⟨rfl, hwx⟩
    subst hwx
    clear hszw11
    go_wp2_with fail
    refine (HM7.out.memW.readG K HK.out).mono ?_; rintro e w11 ⟨gO, rfl, hgO, hso, hbw11⟩
    have HgO := Lib.hid hgO
    have nHM7 := Lib.hid (HM7.out.keep hbw11)
    have nHB := Lib.hid (HB.out.trans (hbw11.mono HB.out.size))
    have nHE := Lib.hid (bkeep hbw11 HE.out)
    have nHS9 := Lib.hid (HS9.out.of_block (hbw11.block _ HS9.out.lt))
    clear HM7 HB HE HS9
    have HM7 := nHM7; clear nHM7
    have HB := nHB; clear nHB
    have HE := nHE; clear nHE
    have HS9 := nHS9; clear nHS9
    clear hgO hbw11
    have HX := Lib.hid (hso)
    clear hso
    go_wp2_with fail
    have hrun2 := run_in HM7.out 300 (by omega)
    unfold RunP at hrun2
    rw [show runM (stI p) 300 0 s' = (s', 2, ee, 0) from run_flt HST.out 299 0] at hrun2
    refine hrun2.mono ?_
    rintro e w12 ⟨rfl, ⟨F12, hm12⟩, hc12⟩
    clear hrun2
    have nS : ∀ k, w7.heap.size ≤ k → ¬ mwS g gm gx k := fun k hk => not_mwS HLT.out.1 HLT.out.2.1 HLT.out.2.2 hk
    have nHB := Lib.hid (Chg.go HB.out hc12 (fun k hk => by rcases hk with rfl | rfl | rfl; exact HGX.out; exact HG.out.1; exact HG.out.2) HB.out.size)
    have nHE := Lib.hid (hc12.blk HE.out (nS _ GNE.out))
    have nHS9 := Lib.hid (HS9.out.of_block (hc12.block _ HS9.out.lt (nS _ HN9'.out)))
    have nHX := Lib.hid (HX.out.chgN hc12 (nS _ (Nat.le_trans HS10.out HgO.out)))
    clear HB HE HS9 HX
    have HB := nHB; clear nHB
    have HE := nHE; clear nHE
    have HS9 := nHS9; clear nHS9
    have HX := nHX; clear nHX
    clear HM7
    have HM7 := Lib.hid hm12
    clear hm12 hc12 nS
    unfold endA
    have hbw13 := bnew w12 (.cells #[.int .u8 2, .int .i64 (ee : Nat), .int .i64 0] 43)
    have hlw13 := heap_alloc_last w12 (.cells #[.int .u8 2, .int .i64 (ee : Nat), .int .i64 0] 43)
    have nHM7 := Lib.hid (HM7.out.keep hbw13)
    have nHB := Lib.hid (HB.out.trans (hbw13.mono HB.out.size))
    have nHE := Lib.hid (bkeep hbw13 HE.out)
    have nHS9 := Lib.hid (HS9.out.of_block (hbw13.block _ HS9.out.lt))
    have nHX := Lib.hid (HX.out.keep hbw13)
    clear HM7 HB HE HS9 HX
    have HM7 := nHM7; clear nHM7
    have HB := nHB; clear nHB
    have HE := nHE; clear nHE
    have HS9 := nHS9; clear nHS9
    have HX := nHX; clear nHX
    have HF := Lib.hid (hlw13)
    clear hbw13 hlw13
    go_upto_region 12 with fail
    obtain ⟨NF, hNF⟩ : ∃ k, k = w12.heap.size := ⟨_, rfl⟩
    rw [← hNF] at HF ⊢
    generalize w12.alloc (.cells #[.int .u8 2, .int .i64 (ee : Nat), .int .i64 0] 43) = w13 at *
    have GNF := Lib.hid (Nat.le_of_eq hNF.symm)
    clear hNF
    have hszw14 := spaceSize_in HM7.out.sp (by rw [HM7.out.len]; omega)
    rw [morePs_len, ← HKE.out] at hszw14
    go_wp2_with fail
    refine hszw14.mono ?_; rintro e wx ⟨rfl, hwx⟩
    subst hwx
    clear hszw14
    go_wp2_with fail
    refine (HM7.out.memW.readG K HK.out).mono ?_; rintro e w14 ⟨gP, rfl, hgP, hso, hbw14⟩
    have HgP := Lib.hid hgP
    have nHM7 := Lib.hid (HM7.out.keep hbw14)
    have nHB := Lib.hid (HB.out.trans (hbw14.mono HB.out.size))
    have nHE := Lib.hid (bkeep hbw14 HE.out)
    have nHS9 := Lib.hid (HS9.out.of_block (hbw14.block _ HS9.out.lt))
    have nHX := Lib.hid (HX.out.keep hbw14)
    have nHF := Lib.hid (bkeep hbw14 HF.out)
    clear HM7 HB HE HS9 HX HF
    have HM7 := nHM7; clear nHM7
    have HB := nHB; clear nHB
    have HE := nHE; clear nHE
    have HS9 := nHS9; clear nHS9
    have HX := nHX; clear nHX
    have HF := nHF; clear nHF
    clear hgP hbw14
    have HY := Lib.hid (hso)
    clear hso
    have heq : ∀ w : World, (Op.equalIn 10000 43 (.agg #[.int .u8 2, .int .i64 (ee : Nat), .int .i64 0]) (.agg #[.int .u8 2, .int .i64 (ee : Nat), .int .i64 0])).run Try.prog w = .ok true w := fun w => eqEnd (x := 2) (by omega) (by omega) (by omega) w
    have HEQ := Lib.hid heq
    have HEQ2 := Lib.hid (fun w => eqState HM7.out.wf.r0 HM7.out.wf.a0 w)
    have hSE : ∀ w', Below w14.heap.size w14 w' → w'.heap[NE]? = some (.cells #[.int .u8 2, .int .i64 (ee : Nat), .int .i64 (d' : Nat)] 43 (0, 0)) := fun w' h => bkeep h HE.out
    have hSF : ∀ w', Below w14.heap.size w14 w' → w'.heap[NF]? = some (.cells #[.int .u8 2, .int .i64 (ee : Nat), .int .i64 0] 43 (0, 0)) := fun w' h => bkeep h HF.out
    have hSX : ∀ w', Below w14.heap.size w14 w' → w'.rowIs gx 36 17 (stV s') := fun w' h => HM7.out.rw.of_block (h.block _ HM7.out.rw.lt)
    have hS9 : ∀ w', Below w14.heap.size w14 w' → w'.rowIs N9 36 17 (stV s') := fun w' h => HS9.out.of_block (h.block _ HS9.out.lt)
    have HSE := Lib.hid hSE
    have HSF := Lib.hid hSF
    have HSX := Lib.hid hSX
    have HSN := Lib.hid hS9
    clear heq hSE hSF hSX hS9
    obtain ⟨st, hst⟩ : ∃ st, st = strOfNums (memL s'.mem K) := ⟨_, rfl⟩
    have HCX := Lib.hid (fun (w' : World) (h : Below w14.heap.size w14 w') => by have := (HX.out.keep h).toString (P := Try.prog) Try.underlying32 Try.underlying5 Try.underlying9; rw [← hst] at this; exact this)
    have HCY := Lib.hid (fun (w' : World) (h : Below w14.heap.size w14 w') => by have := (HY.out.keep h).toString (P := Try.prog) Try.underlying32 Try.underlying5 Try.underlying9; rw [← hst] at this; exact this)
    clear hst
    have hS0 : (fun w' : World => Below w14.heap.size w14 w') (World.drew w14) := drewb w14
    go_upto_region 13 with fail
    refine wp_region_held (S := fun w' => Below w14.heap.size w14 w') (by kernel_rfl) ?_
    change wpAnyH _ _ _ _ _ _ _ _ (World.drew _)
    refine takeH 0 (.agg #[.int .u8 2, .int .i64 (ee : Nat), .int .i64 0]) (some 79) rfl rfl (by kernel_rfl) (by kernel_rfl) (by kernel_rfl) (fun _ _ _ h => h) (yi_piece (by kernel_rfl) 43 (.tmp 12) rfl NF 0 (by go_simp) #[.int .u8 2, .int .i64 (ee : Nat), .int .i64 0] _ (fun w' hw j v hj => by rw [rowcell (HSF.out w' hw), Nat.zero_add]; simpa using hj) Try.underlying43 rfl (by kernel_rfl)) hS0 ?_
    refine takeH 1 (.pointer (some ⟨NE, 1, none⟩)) (some 80) rfl rfl (by kernel_rfl) (by kernel_rfl) (by kernel_rfl) (fun _ _ _ h => h) (.inl ⟨by kernel_rfl, fun w _ => by go_simp⟩) hS0 ?_
    refine takeH 2 (.int .i64 (ee : Nat)) (some 81) rfl rfl (by kernel_rfl) (by kernel_rfl) (by kernel_rfl) (fun _ _ _ h => h) (.inl ⟨by kernel_rfl, fun w hw => by have hc := rowcell (HSE.out w hw); go_simp⟩) hS0 ?_
    refine takeH 3 (.agg #[.int .u8 2, .int .i64 (ee : Nat), .int .i64 0]) (some 82) rfl rfl (by kernel_rfl) (by kernel_rfl) (by kernel_rfl) (fun _ _ _ h => h) (.inl ⟨by kernel_rfl, fun w _ => by go_simp⟩) hS0 ?_
    refine takeH 4 (.bool true) (some 83) rfl rfl (by kernel_rfl) (by kernel_rfl) (by kernel_rfl) (fun _ _ _ h => h) (.inl ⟨by kernel_rfl, fun w _ => exec_eql (xs := #[.int .u8 2, .int .i64 (ee : Nat), .int .i64 0]) (ys := #[.int .u8 2, .int .i64 (ee : Nat), .int .i64 0]) rfl (by go_simp) (by go_simp) (by kernel_rfl) (HEQ.out w)⟩) hS0 ?_
    go_simp
    refine takeH 5 (.bool true) (some 84) rfl rfl (by kernel_rfl) (by kernel_rfl) (by kernel_rfl) (fun _ _ _ h => h) (.inl ⟨by kernel_rfl, fun w _ => by go_simp⟩) hS0 ?_
    refine takeH 6 (.pointer (some ⟨gx, 0, none⟩)) (some 85) rfl rfl (by kernel_rfl) (by kernel_rfl) (by kernel_rfl) (fun _ _ _ h => h) (.inl ⟨by kernel_rfl, fun w _ => by go_simp⟩) hS0 ?_
    refine takeH 7 (.pointer (some ⟨gx, 0, none⟩)) (some 86) rfl rfl (by kernel_rfl) (by kernel_rfl) (by kernel_rfl) (fun _ _ _ h => h) (.inl ⟨by kernel_rfl, fun w _ => by go_simp⟩) hS0 ?_
    refine takeH 8 (.agg Z) (some 87) rfl rfl (by kernel_rfl) (by kernel_rfl) (by kernel_rfl) (fun _ _ _ h => h) (yi_piece (by kernel_rfl) 36 (.tmp 86) rfl gx 0 (by go_simp) Z _ (fun w' hw j v hj => by rw [HZ.out] at hj; obtain ⟨h1, rfl⟩ := rowArr_get _ _ _ _ hj; rw [Nat.zero_add]; exact (HSX.out w' hw).cell h1) Try.underlying36 rfl HZS.out) hS0 ?_
    go_simp
    refine takeH 9 (.agg Z) (some 88) rfl rfl (by kernel_rfl) (by kernel_rfl) (by kernel_rfl) (fun _ _ _ h => h) (yi_piece (by kernel_rfl) 36 (.tmp 9) rfl N9 0 (by go_simp) Z _ (fun w' hw j v hj => by rw [HZ.out] at hj; obtain ⟨h1, rfl⟩ := rowArr_get _ _ _ _ hj; rw [Nat.zero_add]; exact (HSN.out w' hw).cell h1) Try.underlying36 rfl HZS.out) hS0 ?_
    refine takeH 10 (.bool true) (some 89) rfl rfl (by kernel_rfl) (by kernel_rfl) (by kernel_rfl) (fun _ _ _ h => h) (.inl ⟨by kernel_rfl, fun w _ => exec_eql (xs := Z) (ys := Z) rfl (by go_simp) (by go_simp) (by kernel_rfl) (by rw [HZ.out]; exact HEQ2.out w)⟩) hS0 ?_
    refine takeH 11 (.bool true) (some 90) rfl rfl (by kernel_rfl) (by kernel_rfl) (by kernel_rfl) (fun _ _ _ h => h) (.inl ⟨by kernel_rfl, fun w _ => by go_simp⟩) hS0 ?_
    refine takeH 12 (.bool true) (some 91) rfl rfl (by kernel_rfl) (by kernel_rfl) (by kernel_rfl) (fun _ _ _ h => h) (.inl ⟨by kernel_rfl, fun w _ => by go_simp⟩) hS0 ?_
    go_simp
    refine takeH 13 (.slice (some ⟨gO, 0, none⟩) K K) (some 92) rfl rfl (by kernel_rfl) (by kernel_rfl) (by kernel_rfl) (fun _ _ _ h => h) (.inl ⟨by kernel_rfl, fun w _ => by go_simp⟩) hS0 ?_
    refine takeH 14 (.string st) (some 93) rfl rfl (by kernel_rfl) (by kernel_rfl) (by kernel_rfl) (fun _ _ _ h => h) (yi_convert (by kernel_rfl) 32 9 (.tmp 92) rfl _ _ (by go_simp) (fun w hw => HCX.out w hw)) hS0 ?_
    refine takeH 15 (.slice (some ⟨gP, 0, none⟩) K K) (some 94) rfl rfl (by kernel_rfl) (by kernel_rfl) (by kernel_rfl) (fun _ _ _ h => h) (.inl ⟨by kernel_rfl, fun w _ => by go_simp⟩) hS0 ?_
    go_simp
    refine takeH 16 (.string st) (some 95) rfl rfl (by kernel_rfl) (by kernel_rfl) (by kernel_rfl) (fun _ _ _ h => h) (yi_convert (by kernel_rfl) 32 9 (.tmp 94) rfl _ _ (by go_simp) (fun w hw => HCY.out w hw)) hS0 ?_
    refine takeH 17 (.bool true) (some 96) rfl rfl (by kernel_rfl) (by kernel_rfl) (by kernel_rfl) (fun _ _ _ h => h) (.inl ⟨by kernel_rfl, fun w _ => by go_simp⟩) hS0 ?_
    refine takeH 18 (.bool true) (some 97) rfl rfl (by kernel_rfl) (by kernel_rfl) (by kernel_rfl) (fun _ _ _ h => h) (.inl ⟨by kernel_rfl, fun w _ => by go_simp⟩) hS0 ?_
    refine takeH 19 (.bool true) (some 4) rfl rfl (by kernel_rfl) (by kernel_rfl) (by kernel_rfl) (fun _ _ _ h => h) (.inl ⟨by kernel_rfl, fun w _ => by go_simp⟩) hS0 ?_
    refine wpAnyH_done (by kernel_rfl) ?_ _
    go_simp
    go_wp2_with fail
    go_ret
    exact ⟨rfl, HB.out.trans ((drewb w14).mono HB.out.size)⟩
end Go.Proofs.Ytapcbfeifeobhaa

set_option linter.unusedVariables false
set_option linter.unusedSimpArgs false
namespace Go.Proofs.Ytapcbfeifeobhaa
open Go.RowKit
theorem exec_box {P : Program} {ρ : Operand → Value} {o : Oper} {t : TypeId} {x : Operand} {cs : Array Value} (ho : o.op = .box t x) (hx : ρ x = .agg cs) (w : World) :
    (execOp ρ o).run P w = .ok (.value (.pointer (some ⟨w.heap.size, 0, none⟩))) (w.alloc (.cells cs t)) := by
  unfold execOp
  simp only [ho, hx]
  simp [Instr.box, go_sem]
section
variable {P : Program} {ops : Array Oper} {Q : Exit → Act → World → Prop} {md : Region.Mode} {fuel : Nat} {l : Array Bool} {a : Act} {wd : World} {oi oj ok om : Oper}
/-- Two boxes, each with its assignment, in whatever order. -/
theorem twoBoxes (i j k m : Nat) (di dj dk dm : Tmp) (n1 : m ≠ i) (n2 : j ≠ i) (n3 : m ≠ k) (n4 : j ≠ k) (e1 : dm ≠ di) (e2 : dj ≠ di) (e3 : dm ≠ dk) (e4 : dj ≠ dk)
    (hi : ops[i]? = some oi) (hj : ops[j]? = some oj) (hk : ops[k]? = some ok) (hm : ops[m]? = some om) (gi : oi.guard = none) (gj : oj.guard = none) (gk : ok.guard = none) (gm : om.guard = none)
    (ti : oi.dst = some di) (tj : oj.dst = some dj) (tk : ok.dst = some dk) (tm : om.dst = some dm)
    (r0 : Region.ready md ops l = [i, j]) (hsel : Region.noSelect ops = true)
    (ri : (Region.ready md ops (l.setIfInBounds i true)).contains k = true) (fi : Region.free md ops (l.setIfInBounds i true) k = true)
    (rk : Region.ready md ops ((l.setIfInBounds i true).setIfInBounds k true) = [j])
    (rm : (Region.ready md ops (((l.setIfInBounds i true).setIfInBounds k true).setIfInBounds j true)).contains m = true) (fm : Region.free md ops (((l.setIfInBounds i true).setIfInBounds k true).setIfInBounds j true) m = true)
    (rj : Region.ready md ops (l.setIfInBounds j true) = [i])
    (rn : (Region.ready md ops ((l.setIfInBounds j true).setIfInBounds i true)).contains k = true) (fn : Region.free md ops ((l.setIfInBounds j true).setIfInBounds i true) k = true)
    (rl : (Region.ready md ops (((l.setIfInBounds j true).setIfInBounds i true).setIfInBounds k true)).contains m = true) (fl : Region.free md ops (((l.setIfInBounds j true).setIfInBounds i true).setIfInBounds k true) m = true)
    (hQk : ∀ v c a w, Q (.panic c) (a.put (some dk) v) w → Q (.panic c) a w) (hQm : ∀ v c a w, Q (.panic c) (a.put (some dm) v) w → Q (.panic c) a w)
    (t : TypeId) (xi xj : Operand) (bi : oi.op = .box t xi) (bj : oj.op = .box t xj) (ak : ok.op = .assign (.tmp di)) (am : om.op = .assign (.tmp dj)) (ci cj : Array Value)
    (vi : a.eval xi = .agg ci) (vi' : ∀ u, (a.put (some dj) u).eval xi = .agg ci) (vj : a.eval xj = .agg cj) (vj' : ∀ u v, ((a.put (some di) u).put (some dk) v).eval xj = .agg cj)
    (pi : ∀ u, (a.put (some di) u).eval (.tmp di) = u)
    (pi' : ∀ u z, ((a.put (some dj) u).put (some di) z).eval (.tmp di) = z) (pj : ∀ u v z, (((a.put (some dj) u).put (some di) v).put (some dk) z).eval (.tmp dj) = u) (pj' : ∀ u v z, (((a.put (some di) u).put (some dk) v).put (some dj) z).eval (.tmp dj) = z)
    (rest : ∀ A B w', Below wd.heap.size wd w' → w'.heap[A]? = some (.cells ci t) → w'.heap[B]? = some (.cells cj t) → A ≠ B → wd.heap.size ≤ A → wd.heap.size ≤ B →
      wpAnyH P md ops Q (fun w' => Below wd.heap.size wd w') fuel ((((l.setIfInBounds i true).setIfInBounds k true).setIfInBounds j true).setIfInBounds m true) ((((a.put (some di) (.pointer (some ⟨A, 0, none⟩))).put (some dk) (.pointer (some ⟨A, 0, none⟩))).put (some dj) (.pointer (some ⟨B, 0, none⟩))).put (some dm) (.pointer (some ⟨B, 0, none⟩))) w') :
    wpAnyH P md ops Q (fun w' => Below wd.heap.size wd w') (fuel + 4) l a wd := by
  have wi : ∀ a, Region.wanted oi (yielded ops a) = true := fun a => by simp [Region.wanted, gi]
  have wj : ∀ a, Region.wanted oj (yielded ops a) = true := fun a => by simp [Region.wanted, gj]
  have wk : ∀ a, Region.wanted ok (yielded ops a) = true := fun a => by simp [Region.wanted, gk]
  have wm : ∀ a, Region.wanted om (yielded ops a) = true := fun a => by simp [Region.wanted, gm]
  have asg : ∀ {o : Oper} {d : Tmp} {a : Act} {u : Value}, o.op = .assign (.tmp d) → a.eval (.tmp d) = u → Region.wanted o (yielded ops a.tmps) = true → YieldsIf P ops (fun w' => Below wd.heap.size wd w') o u a := fun ho hv hw => .inl ⟨hw, fun w _ => by
    unfold execOp
    simp only [ho, hv]
    rfl⟩
  have s1 : (wd.alloc (.cells ci t)).heap.size = wd.heap.size + 1 := by simp
  have s2 : (wd.alloc (.cells cj t)).heap.size = wd.heap.size + 1 := by simp
  refine wpAnyH_all r0 (by simp) ?_
  intro q hq
  simp only [List.mem_cons, List.not_mem_nil, or_false] at hq
  have b1 : Below wd.heap.size wd (wd.alloc (.cells ci t)) := bnew _ _
  have b2 : Below wd.heap.size wd (wd.alloc (.cells cj t)) := bnew _ _
  rcases hq with rfl | rfl
  · refine loudBr _ hi (wi _) _ ti _ _ (exec_box bi vi wd) b1 ?_
    refine takeH k (.pointer (some ⟨wd.heap.size, 0, none⟩)) (some dk) hk tk hsel fi ri (hQk _) (asg ak (pi _) (wk _)) b1 (wpAnyH_all rk (by simp) ?_)
    intro q hq
    obtain rfl : q = j := by simpa using hq
    have b3 : Below wd.heap.size wd ((wd.alloc (.cells ci t)).alloc (.cells cj t)) := b1.alloc b1.size _
    refine loudBr _ hj (wj _) _ tj _ _ (exec_box bj (vj' _ _) _) b3 ?_
    refine takeH m (.pointer (some ⟨(wd.alloc (.cells ci t)).heap.size, 0, none⟩)) (some dm) hm tm hsel fm rm (hQm _) (asg am (pj' _ _ _) (wm _)) b3 ?_
    refine rest _ _ _ b3 ?_ (heap_alloc_last _ _) (by rw [s1]; omega) (Nat.le_refl _) (by rw [s1]; omega)
    rw [(bnew (wd.alloc (.cells ci t)) (.cells cj t)).block wd.heap.size (by rw [s1]; omega)]
    exact heap_alloc_last wd _
  · refine loudBr _ hj (wj _) _ tj _ _ (exec_box bj vj wd) b2 (wpAnyH_all rj (by simp) ?_)
    intro p hp
    obtain rfl : p = i := by simpa using hp
    have b3 : Below wd.heap.size wd ((wd.alloc (.cells cj t)).alloc (.cells ci t)) := b2.alloc b2.size _
    refine loudBr _ hi (wi _) _ ti _ _ (exec_box bi (vi' _) _) b3 ?_
    refine takeH k (.pointer (some ⟨(wd.alloc (.cells cj t)).heap.size, 0, none⟩)) (some dk) hk tk hsel fn rn (hQk _) (asg ak (pi' _ _) (wk _)) b3 ?_
    refine takeH m (.pointer (some ⟨wd.heap.size, 0, none⟩)) (some dm) hm tm hsel fl rl (hQm _) (asg am (pj _ _ _) (wm _)) b3 ?_
    have h := rest (wd.alloc (.cells cj t)).heap.size wd.heap.size ((wd.alloc (.cells cj t)).alloc (.cells ci t)) b3 (heap_alloc_last _ _) (by
      rw [(bnew (wd.alloc (.cells cj t)) (.cells ci t)).block wd.heap.size (by rw [s2]; omega)]
      exact heap_alloc_last wd _) (by rw [s2]; omega) (by rw [s2]; omega) (Nat.le_refl _)
    have c1 : ∀ (l : Array Bool), (((l.setIfInBounds p true).setIfInBounds k true).setIfInBounds q true).setIfInBounds m true = (((l.setIfInBounds q true).setIfInBounds p true).setIfInBounds k true).setIfInBounds m true := fun l => by
      rw [Array.setIfInBounds_comm (i := k) (j := q) _ _ (Ne.symm n4), Array.setIfInBounds_comm (i := p) (j := q) _ _ (Ne.symm n2)]
    have c2 : ∀ (a : Act) u v, (((a.put (some di) u).put (some dk) u).put (some dj) v).put (some dm) v = (((a.put (some dj) v).put (some di) u).put (some dk) u).put (some dm) v := fun a u v => by
      rw [put_comm _ dk dj _ _ (Ne.symm e4), put_comm _ di dj _ _ (Ne.symm e2)]
    rw [c1, c2] at h
    exact h
end
end Go.Proofs.Ytapcbfeifeobhaa

set_option linter.unusedVariables false
set_option linter.unusedSimpArgs false
namespace Go.Proofs.Ytapcbfeifeobhaa
open Go.RowKit
open Go.Maps (Keyed)
theorem run_split {st : Mach → Mach × Out} (n part : Nat) (hp : part ≤ n) (s0 : Mach) :
    (∃ s2 s3 y m d, runM st part 0 s0 = (s2, 0, 0, part) ∧ runM st (n - part) 0 s2 = (s3, y, m, d) ∧ runM st n 0 s0 = (s3, y, m, d + part) ∧ d ≤ n - part) ∨
    (∃ s2 y m d, y ≠ 0 ∧ runM st part 0 s0 = (s2, y, m, d) ∧ runM st n 0 s0 = (s2, y, m, d) ∧ d ≤ part) := by
  have e : part + (n - part) = n := by omega
  rcases run_ways (st := st) part 0 s0 with ⟨s2, h⟩ | ⟨s2, k, d, q, h, h1, h2, _⟩ | ⟨s2, k, d, q, h, h1, h2, _⟩
  · rw [Nat.zero_add] at h
    have h1 := run_over part (n - part) 0 s0 s2 0 part h
    rw [e] at h1
    obtain ⟨⟨s3, y, m, d⟩, hr⟩ : ∃ r, r = runM st (n - part) 0 s2 := ⟨_, rfl⟩
    have h2 := run_shift (n - part) 0 part s2 s3 y m d hr.symm
    rw [Nat.zero_add] at h2
    refine .inl ⟨s2, s3, y, m, d, h, hr.symm, h1.trans h2, ?_⟩
    rcases run_ways (st := st) (n - part) 0 s2 with ⟨_, h⟩ | ⟨_, _, d', _, h, _, h2, _⟩ | ⟨_, _, d', _, h, _, h2, _⟩
    all_goals
      rw [← hr] at h
      injection h with _ h
      injection h with _ h
      injection h with _ h
      omega
  · exact .inr ⟨s2, 1, k, d, by omega, h, by have := run_ended part (n - part) 0 s0 s2 1 k d (by omega) h; rwa [e] at this, by omega⟩
  · exact .inr ⟨s2, 2, k, d, by omega, h, by have := run_ended part (n - part) 0 s0 s2 2 k d (by omega) h; rwa [e] at this, by omega⟩
section
variable {w w' : World} {g gm gs base m gx : Nat} {a : Option Addr} {us : Nat → Nat} {v : Value} {F : Nat × Nat → Option (Nat → Nat)} {s : Mach}
theorem MW.chgS {S : Nat → Prop} (h : MW w g gm gs base m gx a us v F s) (c : Chg S w w') (h1 : ¬ S g) (h2 : ¬ S gm) (h3 : ¬ S gs) (h4 : ∀ x, v.ownBlock = some x → ¬ S x) (h5 : ¬ S gx) : MW w' g gm gs base m gx a us v F s :=
  ⟨pt_chg h.tp c h1 h2, h.sp.chg c h3 h4, h.ok, h.mm, h.rw.of_block (c.block gx h.rw.lt h5), h.wf⟩
theorem MemW.ltsV {mem : Nat → Nat} (h : MemW w g gm gs base m a us v F mem) : g < w.heap.size ∧ gm < w.heap.size ∧ gs < w.heap.size ∧ ∀ x, v.ownBlock = some x → x < w.heap.size :=
  ⟨h.tp.row.lt, h.tp.mp.lt, h.sp.row.lt, fun x hx => by obtain ⟨_, _, hb⟩ := own_blk h.sp.ov hx; exact rowlt hb⟩
/-- Where a machine's blocks lie: from B on, below C; its state's block apart. -/
structure Lies (B C g gm gs : Nat) (v : Value) : Prop where
  g : B ≤ g ∧ g < C
  gm : B ≤ gm ∧ gm < C
  gs : B ≤ gs ∧ gs < C
  v : ∀ x, v.ownBlock = some x → B ≤ x ∧ x < C
theorem MW.other {B C D g' gm' gx' : Nat} (h : MW w g gm gs base m gx a us v F s) (l : Lies B C g gm gs v) (c : Chg (mwS g' gm' gx') w w') (h1 : g' < B ∨ C ≤ g') (h2 : gm' < B ∨ C ≤ gm') (h3 : C ≤ gx') (h4 : D ≤ gx) (h5 : g' < D) (h6 : gm' < D) (h7 : gx ≠ gx') : MW w' g gm gs base m gx a us v F s := by
  have n : ∀ k, B ≤ k → k < C → ¬ mwS g' gm' gx' k := fun k a1 a2 a3 => by rcases a3 with rfl | rfl | rfl <;> omega
  exact h.chgS c (n _ l.g.1 l.g.2) (n _ l.gm.1 l.gm.2) (n _ l.gs.1 l.gs.2) (fun x hx => n x (l.v x hx).1 (l.v x hx).2) (fun e => by rcases e with e | e | e <;> omega)
theorem MW.apart {N B C : Nat} (h : MW w g gm gs base m gx a us v F s) (l : Lies B C g gm gs v) (c : Chg (fun k => k = N) w w') (hC : C ≤ N) (hx : gx < N) : MW w' g gm gs base m gx a us v F s :=
  h.chgS c (fun e => by have := l.g; omega) (fun e => by have := l.gm; omega) (fun e => by have := l.gs; omega) (fun x hx e => by have := l.v x hx; omega) (fun e => by omega)
end
theorem set_three {w : World} {G : Nat} {x0 x1 x2 : Value} {t : TypeId} (h : w.heap[G]? = some (.cells #[x0, x1, x2] t (0, 0))) (y0 y1 y2 : Value) :
    (((w.setCell ⟨G, 0, none⟩ y0).setCell ⟨G, 1, none⟩ y1).setCell ⟨G, 2, none⟩ y2).heap[G]? = some (.cells #[y0, y1, y2] t (0, 0)) ∧ One w (((w.setCell ⟨G, 0, none⟩ y0).setCell ⟨G, 1, none⟩ y1).setCell ⟨G, 2, none⟩ y2) (some G) := by
  have h1 := heap_setCell_same h y0 (off := 0) (by simp)
  have h2 := heap_setCell_same h1 y1 (off := 1) (by simp)
  have h3 := heap_setCell_same h2 y2 (off := 2) (by simp)
  exact ⟨by simpa using h3, ((one_setCell w G 0 y0).trans (one_setCell _ G 1 y1)).trans (one_setCell _ G 2 y2)⟩
set_option maxRecDepth 100000 in
set_option maxHeartbeats 16000000 in
theorem cpuSplits_walk (W : World) (v0 v1 v2 v3 : Value) (o0 : Arg Try.prog W 51 v0) (o1 : Arg Try.prog W 34 v1) (o2 : Arg Try.prog W 5 v2) (o3 : Arg Try.prog W 5 v3) :
    Calls Try.prog 5 #[v0, v1, v2, v3] W fun e w' => e = .returned (.bool true) ∧ Below W.heap.size W w' := by
  obtain ⟨vl, n, cap, vd, dl, dcap, c, rfl, hcode⟩ := CodeC.of_arg o0
  obtain ⟨R, rfl, hR⟩ := regs_of_arg o1
  obtain ⟨x2, rfl, hx2⟩ := Arg.int Try.underlying5 o2
  obtain ⟨x3, rfl, hx3⟩ := Arg.int Try.underlying5 o3
  have bx2 := wf_u8 hx2
  have bx3 := wf_u8 hx3
  obtain ⟨nn, rfl⟩ : ∃ n : Nat, x2 = n := ⟨x2.toNat, by omega⟩
  obtain ⟨kk, rfl⟩ : ∃ n : Nat, x3 = n := ⟨x3.toNat, by omega⟩
  have hnn : nn ≤ 255 := by omega
  obtain ⟨part, hpart⟩ : ∃ q : Nat, q = kk % (nn + 1) := ⟨_, rfl⟩
  have hpn : part ≤ nn := by rw [hpart]; have := Nat.mod_lt kk (show 0 < nn + 1 by omega); omega
  have fpart : (kk : Int) % ((nn : Int) + 1) = part := by rw [hpart]; simp
  have fpart2 : (wrap64 (kk : Int)).tmod ((nn : Int) + 1) = part := by
    rw [show wrap64 (kk : Int) = kk by simp only [wrap64]; omega, Int.tmod_eq_emod_of_nonneg (by omega)]
    exact fpart
  obtain ⟨rest, hrest⟩ : ∃ q : Nat, q = nn - part := ⟨_, rfl⟩
  have frest : (nn : Int) - (part : Int) = rest := by omega
  have hr255 : rest ≤ 255 := by omega
  have hsplit := fun (st : Mach → Mach × Out) (s0 : Mach) => run_split (st := st) nn part hpn s0
  rw [← hrest] at hsplit
  have HSPLIT := Lib.hid hsplit
  clear hpart hrest hsplit hx2 hx3 bx2 bx3
  obtain ⟨X, hX⟩ : ∃ X, X = rowArr 16 (regC R) := ⟨_, rfl⟩
  rw [← hX]
  have HX := Lib.hid hX
  have HR := Lib.hid hR
  have HXS := Lib.hid (show (Try.prog.info? 34).map (·.size) = some X.size by rw [hX]; exact regs_size R)
  clear o0 o1 o2 o3 hX hR
  have HCODE := Lib.hid hcode
  have HB := Lib.hid (Below.refl W.heap.size W)
  clear hcode
  go_enter Try.func5, Try.ntmps5
  go_upto_region 1 with fail
  have hbw1 := bnew W (.cells #[.slice vl n cap, .slice vd dl dcap, .int .u8 (c : Nat)] 51)
  have hlw1 := heap_alloc_last W (.cells #[.slice vl n cap, .slice vd dl dcap, .int .u8 (c : Nat)] 51)
  have nHCODE := Lib.hid (HCODE.out.keep hbw1)
  have nHB := Lib.hid (HB.out.trans (hbw1.mono HB.out.size))
  clear HCODE HB
  have HCODE := nHCODE; clear nHCODE
  have HB := nHB; clear nHB
  have HL1 := Lib.hid (hlw1)
  clear hbw1 hlw1
  obtain ⟨N1, hN1⟩ : ∃ k, k = W.heap.size := ⟨_, rfl⟩
  rw [← hN1] at HL1
  have hsz : (W.alloc (.cells #[.slice vl n cap, .slice vd dl dcap, .int .u8 (c : Nat)] 51)).heap.size = N1 + 1 := by rw [World.size_alloc, hN1]
  rw [← hN1]
  generalize W.alloc (.cells #[.slice vl n cap, .slice vd dl dcap, .int .u8 (c : Nat)] 51) = w1 at *
  clear hN1
  have hbw2 := bnew w1 (.cells X 34)
  have hlw2 := heap_alloc_last w1 (.cells X 34)
  have nHCODE := Lib.hid (HCODE.out.keep hbw2)
  have nHB := Lib.hid (HB.out.trans (hbw2.mono HB.out.size))
  have nHL1 := Lib.hid (bkeep hbw2 HL1.out)
  clear HCODE HB HL1
  have HCODE := nHCODE; clear nHCODE
  have HB := nHB; clear nHB
  have HL1 := nHL1; clear nHL1
  have HL2 := Lib.hid (hlw2)
  clear hbw2 hlw2
  obtain ⟨N2, hN2⟩ : ∃ k, k = w1.heap.size := ⟨_, rfl⟩
  rw [← hN2] at HL2
  rw [← hN2] at hsz
  try rw [← hsz]
  generalize w1.alloc (.cells X 34) = w2 at *
  clear hN2 hsz
  go_wp2_with fail
  refine (cpuAwake_in _).mono ?_; rintro e w3 ⟨rfl, hb3⟩
  have nHCODE := Lib.hid (HCODE.out.keep hb3)
  have nHB := Lib.hid (HB.out.trans (hb3.mono HB.out.size))
  have nHL1 := Lib.hid (bkeep hb3 HL1.out)
  have nHL2 := Lib.hid (bkeep hb3 HL2.out)
  clear HCODE HB HL1 HL2
  have HCODE := nHCODE; clear nHCODE
  have HB := nHB; clear nHB
  have HL1 := nHL1; clear nHL1
  have HL2 := nHL2; clear nHL2
  clear hb3
  have hc1 := rowcell HL1.out
  go_wp2_with fail
  clear hc1
  refine (codeBytes_in HCODE.out).mono ?_; rintro e w4 ⟨A, cp, bs, rfl, hsi, h220, hb4⟩
  clear HCODE HL1
  have nHB := Lib.hid (HB.out.trans (hb4.mono HB.out.size))
  have nHL2 := Lib.hid (bkeep hb4 HL2.out)
  clear HB HL2
  have HB := nHB; clear nHB
  have HL2 := nHL2; clear nHL2
  clear hb4
  have HSI := Lib.hid (hsi)
  have HSI0 := HSI
  obtain ⟨len, hlen⟩ : ∃ l, l = bs.length := ⟨_, rfl⟩
  obtain ⟨p, hp⟩ : ∃ p, p = (len + 63) / 64 := ⟨_, rfl⟩
  have hp4 : p ≤ 4 := by omega
  have fp : ((len : Int) + 63) / 64 = p := by omega
  have hbz := wf_bytes hsi.wf
  have hmm := fun (w : World) (h : SI w .u8 (.slice A bs.length cp) bs) => memory_in w A cp bs h hbz p (by omega) (by omega)
  rw [← hlen] at hmm ⊢
  have HMM := Lib.hid hmm
  have HBZ := Lib.hid hbz
  have hm4 := hmm w4 (by rw [hlen]; exact hsi)
  have HLEN := Lib.hid hlen
  clear hsi hbz hp hlen hmm HSI0
  go_wp2_with fail
  refine hm4.mono ?_
  rintro e w5 ⟨g, gm, gs, base, a, us, v, F, rfl, hg, hgm, hbs, hmw, hb5⟩
  have HG := Lib.hid (And.intro hg (And.intro hgm hbs))
  have HW4 := Lib.hid HB.out.size
  have nHB := Lib.hid (HB.out.trans (hb5.mono HB.out.size))
  have nHL2 := Lib.hid (bkeep hb5 HL2.out)
  have nHSI := Lib.hid (HSI.out.keep hb5)
  clear HB HL2 HSI
  have HB := nHB; clear nHB
  have HL2 := nHL2; clear nHL2
  have HSI := nHSI; clear nHSI
  clear hb5 hg hgm hbs hm4
  have HM := Lib.hid (hmw)
  have hlt := hmw.ltsV
  have HLA := Lib.hid (show Lies W.heap.size w5.heap.size g gm gs v from ⟨⟨Nat.le_trans HW4.out HG.out.1, hlt.1⟩, ⟨Nat.le_trans HW4.out HG.out.2.1, hlt.2.1⟩, ⟨Nat.le_trans HW4.out (Nat.le_trans HG.out.2.2 hmw.sp.bs), hlt.2.2.1⟩, fun x hx => ⟨Nat.le_trans HW4.out (Nat.le_trans HG.out.2.2 (own_blk hmw.sp.ov hx).1), hlt.2.2.2 x hx⟩⟩)
  clear hmw hlt
  have hm5 := HMM.out w5 (by have h := HSI.out; rw [← HLEN.out] at h; exact h)
  go_wp2_with fail
  refine hm5.mono ?_
  rintro e w6 ⟨g', gm', gs', base', a', us', v', F', rfl, hg, hgm, hbs, hmw, hb6⟩
  have HG' := Lib.hid (And.intro hg (And.intro hgm hbs))
  clear HSI
  have nHB := Lib.hid (HB.out.trans (hb6.mono HB.out.size))
  have nHL2 := Lib.hid (bkeep hb6 HL2.out)
  have nHM := Lib.hid (HM.out.keep hb6)
  clear HB HL2 HM
  have HB := nHB; clear nHB
  have HL2 := nHL2; clear nHL2
  have HM := nHM; clear nHM
  clear hg hgm hbs hm5
  have HM2 := Lib.hid (hmw)
  have hlt := hmw.ltsV
  have HLB := Lib.hid (show Lies w5.heap.size w6.heap.size g' gm' gs' v' from ⟨⟨HG'.out.1, hlt.1⟩, ⟨HG'.out.2.1, hlt.2.1⟩, ⟨Nat.le_trans HG'.out.2.2 hmw.sp.bs, hlt.2.2.1⟩, fun x hx => ⟨Nat.le_trans HG'.out.2.2 (own_blk hmw.sp.ov hx).1, hlt.2.2.2 x hx⟩⟩)
  have H56 := Lib.hid hb6.size
  clear hmw hlt HG HG' HMM HLEN HW4 hb6
  obtain ⟨s0, hs0⟩ : ∃ s : Mach, s = ⟨R, 0, memZ bs⟩ := ⟨_, rfl⟩
  obtain ⟨Y, hY⟩ : ∃ Y, Y = rowArr 17 (stV s0) := ⟨_, rfl⟩
  have HY := Lib.hid hY
  have HS0 := Lib.hid hs0
  have HBU := Lib.hid (show Try.prog.built 36 [(0, .agg X)] = some Y by rw [HX.out, hY, hs0]; exact built_state R (memZ bs))
  clear hY hs0
  go_upto_region 6 with fail
  have hS0 : (fun w' : World => Below (World.drew w6).heap.size (World.drew w6) w') (World.drew w6) := Below.refl _ _
  have HL6 := Lib.hid (fun w' (h : Below (World.drew w6).heap.size (World.drew w6) w') => bkeep (W := World.drew w6) h HL2.out)
  refine wp_region_held (S := fun w' => Below (World.drew w6).heap.size (World.drew w6) w') (by kernel_rfl) ?_
  change wpAnyH _ _ _ _ _ _ _ _ (World.drew _)
  refine takeH 0 (.agg X) (some 38) rfl rfl (by kernel_rfl) (by kernel_rfl) (by kernel_rfl) (fun _ _ _ h => h) (yi_piece (by kernel_rfl) 34 (.tmp 5) rfl N2 0 (by go_simp) X _ (fun w' hw j v hj => by rw [Nat.zero_add, rowcell (HL6.out w' hw)]; simpa using hj) Try.underlying34 rfl HXS.out) hS0 ?_
  refine takeH 1 (.agg Y) (some 39) rfl rfl (by kernel_rfl) (by kernel_rfl) (by kernel_rfl) (fun _ _ _ h => h) (.inl ⟨by kernel_rfl, fun w _ => by refine exec_build 36 #[(0, .tmp 38)] rfl Y ?_; go_simp; exact HBU.out⟩) hS0 ?_
  refine takeH 3 (.agg X) (some 41) rfl rfl (by kernel_rfl) (by kernel_rfl) (by kernel_rfl) (fun _ _ _ h => h) (yi_piece (by kernel_rfl) 34 (.tmp 5) rfl N2 0 (by go_simp) X _ (fun w' hw j v hj => by rw [Nat.zero_add, rowcell (HL6.out w' hw)]; simpa using hj) Try.underlying34 rfl HXS.out) hS0 ?_
  refine takeH 4 (.agg Y) (some 42) rfl rfl (by kernel_rfl) (by kernel_rfl) (by kernel_rfl) (fun _ _ _ h => h) (.inl ⟨by kernel_rfl, fun w _ => by refine exec_build 36 #[(0, .tmp 41)] rfl Y ?_; go_simp; exact HBU.out⟩) hS0 ?_
  go_simp
  refine twoBoxes 2 5 6 7 40 43 13 14 (by decide) (by decide) (by decide) (by decide) (by decide) (by decide) (by decide) (by decide) rfl rfl rfl rfl ?gi ?gj ?gk ?gm ?ti ?tj ?tk ?tm (by kernel_rfl) (by kernel_rfl) (by kernel_rfl) (by kernel_rfl) (by kernel_rfl) (by kernel_rfl) (by kernel_rfl) (by kernel_rfl) (by kernel_rfl) (by kernel_rfl) (by kernel_rfl) (by kernel_rfl) ?hQk ?hQm 36 (.tmp 39) (.tmp 42) ?bi ?bj ?ak ?am Y Y ?v1 ?v2 ?v3 ?v4 ?v5 ?v6 ?v7 ?v8 ?rest
  case gi => rfl
  case gj => rfl
  case gk => rfl
  case gm => rfl
  case ti => rfl
  case tj => rfl
  case tk => rfl
  case tm => rfl
  case bi => rfl
  case bj => rfl
  case ak => rfl
  case am => rfl
  case hQk => exact fun _ _ _ _ h => h
  case hQm => exact fun _ _ _ _ h => h
  case v1 => go_simp
  case v2 => intro u; go_simp
  case v3 => go_simp
  case v4 => intro u v; go_simp
  case v5 => intro u; go_simp
  case v6 => intro u z; go_simp
  case v7 => intro u v z; go_simp
  case v8 => intro u v z; go_simp
  case rest =>
    intro gx gy w7 hb7' hA hB hne hgx hgy
    have hb7 := (drewb w6).trans (hb7'.mono (Nat.le_refl _))
    have hgx : w6.heap.size ≤ gx := hgx
    have hgy : w6.heap.size ≤ gy := hgy
    have HGX := Lib.hid (And.intro hgx (And.intro hgy hne))
    clear HL2
    have nHB := Lib.hid (HB.out.trans (hb7.mono HB.out.size))
    have nHM := Lib.hid (HM.out.keep hb7)
    have nHM2 := Lib.hid (HM2.out.keep hb7)
    clear HB HM HM2
    have HB := nHB; clear nHB
    have HM := nHM; clear nHM
    have HM2 := nHM2; clear nHM2
    have hrA : w7.rowIs gx 36 17 (stV s0) := rowIs_of_arr (by rw [← HY.out]; exact hA)
    have hrB : w7.rowIs gy 36 17 (stV s0) := rowIs_of_arr (by rw [← HY.out]; exact hB)
    have hma : MW w7 g gm gs base p gx a us v F s0 := MemW.mw (s := s0) (by rw [HS0.out]; exact HM.out) hrA (fun i hi => by rw [HS0.out]; exact HR.out i hi) (by rw [HS0.out]; exact ⟨Int.le_refl 0, (by decide : (0 : Int) ≤ 4294967295)⟩)
    have hmb : MW w7 g' gm' gs' base' p gy a' us' v' F' s0 := MemW.mw (s := s0) (by rw [HS0.out]; exact HM2.out) hrB (fun i hi => by rw [HS0.out]; exact HR.out i hi) (by rw [HS0.out]; exact ⟨Int.le_refl 0, (by decide : (0 : Int) ≤ 4294967295)⟩)
    have HMA := Lib.hid hma
    have HMB := Lib.hid hmb
    clear hma hmb
    clear hb7' HM HM2 hA hB hne hgx hgy hrA hrB hb7 HX HXS HBU HL6 hS0 HY
    refine wpAnyH_done (by kernel_rfl) ?_ _
    go_simp
    have HW6 := Lib.hid (show W.heap.size ≤ w6.heap.size from Nat.le_trans HLA.out.g.1 (Nat.le_trans (Nat.le_of_lt HLA.out.g.2) H56.out))
    have HGA := Lib.hid (show ∀ k, mwS g gm gx k → W.heap.size ≤ k from fun k hk => by rcases hk with rfl | rfl | rfl; exact Nat.le_trans HW6.out HGX.out.1; exact HLA.out.g.1; exact HLA.out.gm.1)
    have HW5 := Lib.hid (show W.heap.size ≤ w5.heap.size from Nat.le_trans HLA.out.g.1 (Nat.le_of_lt HLA.out.g.2))
    have HGB := Lib.hid (show ∀ k, mwS g' gm' gy k → W.heap.size ≤ k from fun k hk => by rcases hk with rfl | rfl | rfl; exact Nat.le_trans HW6.out HGX.out.2.1; exact Nat.le_trans HW5.out HLB.out.g.1; exact Nat.le_trans HW5.out HLB.out.gm.1)
    go_wp2_with fail
    rcases HSPLIT.out (stI p) s0 with ⟨s2, s3, y, m, d, e1, e2, e3, hd⟩ | ⟨s2, y, m, d, hy, e1, e3, hd⟩
    · obtain ⟨dt, hdt⟩ : ∃ dt, dt = d + part := ⟨_, rfl⟩
      rw [← hdt] at e3
      have fdt : (part : Int) + (d : Int) = dt := by omega
      clear hdt
      have hrun := run_in HMA.out nn (by omega)
      unfold RunP at hrun
      rw [e3] at hrun
      refine hrun.mono ?_
      rintro e w8 ⟨rfl, ⟨Fa, hma⟩, hca⟩
      clear hrun
      have nHB := Lib.hid (Chg.go HB.out hca HGA.out HB.out.size)
      have nHMB := Lib.hid (HMB.out.other (D := w6.heap.size) HLB.out hca (.inl HLA.out.g.2) (.inl HLA.out.gm.2) HGX.out.1 HGX.out.2.1 (Nat.lt_of_lt_of_le HLA.out.g.2 H56.out) (Nat.lt_of_lt_of_le HLA.out.gm.2 H56.out) (fun e => HGX.out.2.2 e.symm))
      clear HB HMB
      have HB := nHB; clear nHB
      have HMB := nHMB; clear nHMB
      clear HMA
      have HMA := Lib.hid hma
      clear hma hca
      unfold endA
      have HLTw8 := Lib.hid HMB.out.lts
      have HLUw8 := Lib.hid HMA.out.lts
      have hbw9 := bnew w8 (.cells #[.int .u8 (y : Nat), .int .i64 (m : Nat), .int .i64 (dt : Nat)] 43)
      have hlw9 := heap_alloc_last w8 (.cells #[.int .u8 (y : Nat), .int .i64 (m : Nat), .int .i64 (dt : Nat)] 43)
      have nHB := Lib.hid (HB.out.trans (hbw9.mono HB.out.size))
      have nHMB := Lib.hid (HMB.out.keep hbw9)
      have nHMA := Lib.hid (HMA.out.keep hbw9)
      clear HB HMB HMA
      have HB := nHB; clear nHB
      have HMB := nHMB; clear nHMB
      have HMA := nHMA; clear nHMA
      have HE := Lib.hid (hlw9)
      clear hbw9 hlw9
      go_upto_region 10 with fail
      obtain ⟨NE, hNE⟩ : ∃ k, k = w8.heap.size := ⟨_, rfl⟩
      rw [← hNE] at HE ⊢
      generalize w8.alloc (.cells #[.int .u8 (y : Nat), .int .i64 (m : Nat), .int .i64 (dt : Nat)] 43) = w9 at *
      have GNE := Lib.hid (Nat.le_of_eq hNE.symm)
      clear hNE
      go_wp2_with fail
      have hrun := run_in HMB.out part (by omega)
      unfold RunP at hrun
      rw [e1] at hrun
      have hlb := HMB.out.lts
      have hlb := HMB.out.lts
      refine hrun.mono ?_
      rintro e w10 ⟨rfl, ⟨Fa, hmb⟩, hcb⟩
      clear hrun
      have nHB := Lib.hid (Chg.go HB.out hcb HGB.out HB.out.size)
      have nHMA := Lib.hid (HMA.out.other (D := w6.heap.size) HLA.out hcb (.inr HLB.out.g.1) (.inr HLB.out.gm.1) (Nat.le_trans H56.out HGX.out.2.1) HGX.out.1 HLB.out.g.2 HLB.out.gm.2 HGX.out.2.2)
      have nHE := Lib.hid (hcb.blk HE.out (not_mwS HLTw8.out.1 HLTw8.out.2.1 HLTw8.out.2.2 GNE.out))
      clear HB HMA HE
      have HB := nHB; clear nHB
      have HMA := nHMA; clear nHMA
      have HE := nHE; clear nHE
      clear HMB hlb
      have HMB := Lib.hid hmb
      clear hmb hcb
      unfold endA
      have HLTw10 := Lib.hid HMB.out.lts
      have HLUw10 := Lib.hid HMA.out.lts
      have HWF := Lib.hid HB.out.size
      have HLE := Lib.hid (rowlt HE.out)
      have HC6 := Lib.hid (show w6.heap.size ≤ w10.heap.size from Nat.le_trans HGX.out.1 (Nat.le_of_lt HLUw10.out.1))
      have HC5 := Lib.hid (Nat.le_trans H56.out HC6.out)
      have hbw11 := bnew w10 (.cells #[.int .u8 0, .int .i64 0, .int .i64 (part : Nat)] 43)
      have hlw11 := heap_alloc_last w10 (.cells #[.int .u8 0, .int .i64 0, .int .i64 (part : Nat)] 43)
      have nHB := Lib.hid (HB.out.trans (hbw11.mono HB.out.size))
      have nHMB := Lib.hid (HMB.out.keep hbw11)
      have nHMA := Lib.hid (HMA.out.keep hbw11)
      have nHE := Lib.hid (bkeep hbw11 HE.out)
      clear HB HMB HMA HE
      have HB := nHB; clear nHB
      have HMB := nHMB; clear nHMB
      have HMA := nHMA; clear nHMA
      have HE := nHE; clear nHE
      have HF := Lib.hid (hlw11)
      clear hbw11 hlw11
      go_upto_region 11 with fail
      obtain ⟨NF, hNF⟩ : ∃ k, k = w10.heap.size := ⟨_, rfl⟩
      rw [← hNF] at HF ⊢
      generalize w10.alloc (.cells #[.int .u8 0, .int .i64 0, .int .i64 (part : Nat)] 43) = w11 at *
      have GNF := Lib.hid (Nat.le_of_eq hNF.symm)
      clear hNF
      have hcF := rowcell HF.out
      go_wp2_with fail
      clear hcF
      have hrun := run_in HMB.out rest (by omega)
      unfold RunP at hrun
      rw [e2] at hrun
      have hlb := HMB.out.lts
      have hlb := HMB.out.lts
      refine hrun.mono ?_
      rintro e w12 ⟨rfl, ⟨Fa, hmb⟩, hcb⟩
      clear hrun
      have nHB := Lib.hid (Chg.go HB.out hcb HGB.out HB.out.size)
      have nHMA := Lib.hid (HMA.out.other (D := w6.heap.size) HLA.out hcb (.inr HLB.out.g.1) (.inr HLB.out.gm.1) (Nat.le_trans H56.out HGX.out.2.1) HGX.out.1 HLB.out.g.2 HLB.out.gm.2 HGX.out.2.2)
      have nHE := Lib.hid (hcb.blk HE.out (not_mwS HLTw8.out.1 HLTw8.out.2.1 HLTw8.out.2.2 GNE.out))
      have nHF := Lib.hid (hcb.blk HF.out (not_mwS HLTw10.out.1 HLTw10.out.2.1 HLTw10.out.2.2 GNF.out))
      clear HB HMA HE HF
      have HB := nHB; clear nHB
      have HMA := nHMA; clear nHMA
      have HE := nHE; clear nHE
      have HF := nHF; clear nHF
      clear HMB hlb
      have HMB := Lib.hid hmb
      clear hmb hcb
      unfold endA
      have hcF := rowcell HF.out
      have hfF := rowfree HF.out
      go_upto_region 14 with fail
      have h3 := set_three HF.out (.int .u8 (y : Nat)) (.int .i64 (m : Nat)) (.int .i64 (d : Nat))
      clear hcF hfF
      generalize ((w12.setCell ⟨NF, 0, none⟩ (.int .u8 (y : Nat))).setCell ⟨NF, 1, none⟩ (.int .i64 (m : Nat))).setCell ⟨NF, 2, none⟩ (.int .i64 (d : Nat)) = w13 at *
      have hcc := Chg.of_one (S := fun k => k = NF) h3.2 rfl
      have hNE : NE ≠ NF := by have h1 := GNF.out; have h2 := HLE.out; omega
      have nHB := Lib.hid (Chg.go HB.out hcc (fun k hk => by subst hk; exact Nat.le_trans HWF.out GNF.out) HB.out.size)
      have nHE := Lib.hid (hcc.blk HE.out hNE)
      have nHMA := Lib.hid (HMA.out.apart HLA.out hcc (Nat.le_trans HC5.out GNF.out) (Nat.lt_of_lt_of_le HLUw10.out.1 GNF.out))
      have nHMB := Lib.hid (HMB.out.apart HLB.out hcc (Nat.le_trans HC6.out GNF.out) (Nat.lt_of_lt_of_le HLTw10.out.1 GNF.out))
      clear HB HE HMA HMB
      have HB := nHB; clear nHB
      have HE := nHE; clear nHE
      have HMA := nHMA; clear nHMA
      have HMB := nHMB; clear nHMB
      clear HF
      have HF := Lib.hid h3.1
      clear h3 hcc hNE
      have hcF := rowcell HF.out
      go_upto_region 15 with fail
      clear hcF
      obtain ⟨K, hK⟩ : ∃ K, K = 64 * p := ⟨_, rfl⟩
      have HK := Lib.hid (Nat.le_of_eq hK)
      have HKE := Lib.hid hK
      clear hK
      have hszwr := spaceSize_in HMA.out.sp (by rw [HMA.out.len]; omega)
      rw [morePs_len, ← HKE.out] at hszwr
      go_wp2_with fail
      refine hszwr.mono ?_; rintro e wx ⟨rfl, hwx⟩
      subst hwx
      clear hszwr
      go_wp2_with fail
      refine (HMA.out.memW.readG K HK.out).mono ?_; rintro e wr ⟨gO, rfl, _, hso, hbwr⟩
      have nHB := Lib.hid (HB.out.trans (hbwr.mono HB.out.size))
      have nHMB := Lib.hid (HMB.out.keep hbwr)
      have nHMA := Lib.hid (HMA.out.keep hbwr)
      have nHE := Lib.hid (bkeep hbwr HE.out)
      have nHF := Lib.hid (bkeep hbwr HF.out)
      clear HB HMB HMA HE HF
      have HB := nHB; clear nHB
      have HMB := nHMB; clear nHMB
      have HMA := nHMA; clear nHMA
      have HE := nHE; clear nHE
      have HF := nHF; clear nHF
      clear hbwr
      have HX := Lib.hid (hso)
      clear hso
      have hszwt := spaceSize_in HMB.out.sp (by rw [HMB.out.len]; omega)
      rw [morePs_len, ← HKE.out] at hszwt
      go_wp2_with fail
      refine hszwt.mono ?_; rintro e wx ⟨rfl, hwx⟩
      subst hwx
      clear hszwt
      go_wp2_with fail
      refine (HMB.out.memW.readG K HK.out).mono ?_; rintro e wt ⟨gP, rfl, _, hso, hbwt⟩
      have nHB := Lib.hid (HB.out.trans (hbwt.mono HB.out.size))
      have nHMB := Lib.hid (HMB.out.keep hbwt)
      have nHMA := Lib.hid (HMA.out.keep hbwt)
      have nHE := Lib.hid (bkeep hbwt HE.out)
      have nHF := Lib.hid (bkeep hbwt HF.out)
      have nHX := Lib.hid (HX.out.keep hbwt)
      clear HB HMB HMA HE HF HX
      have HB := nHB; clear nHB
      have HMB := nHMB; clear nHMB
      have HMA := nHMA; clear nHMA
      have HE := nHE; clear nHE
      have HF := nHF; clear nHF
      have HX := nHX; clear nHX
      clear hbwt
      have HY := Lib.hid (hso)
      clear hso
      obtain ⟨Z, hZ⟩ : ∃ Z, Z = rowArr 17 (stV s3) := ⟨_, rfl⟩
      have HZ := Lib.hid hZ
      have HZS := Lib.hid (show (Try.prog.info? 36).map (·.size) = some Z.size by rw [hZ]; exact state_size s3)
      clear hZ
      have HEQ2 := Lib.hid (fun w => eqState HMA.out.wf.r0 HMA.out.wf.a0 w)
      have HSE := Lib.hid (fun w' (h : Below wt.heap.size wt w') => bkeep (W := wt) h HE.out)
      have HSF := Lib.hid (fun w' (h : Below wt.heap.size wt w') => bkeep (W := wt) h HF.out)
      have hHSX : ∀ w', Below wt.heap.size wt w' → w'.rowIs gx 36 17 (stV s3) := fun w' h => HMA.out.rw.of_block (h.block _ HMA.out.rw.lt)
      have HSX := Lib.hid hHSX
      clear hHSX
      have hHSN : ∀ w', Below wt.heap.size wt w' → w'.rowIs gy 36 17 (stV s3) := fun w' h => HMB.out.rw.of_block (h.block _ HMB.out.rw.lt)
      have HSN := Lib.hid hHSN
      clear hHSN
      obtain ⟨st, hst⟩ : ∃ st, st = strOfNums (memL s3.mem K) := ⟨_, rfl⟩
      have hHCX : ∀ w', Below wt.heap.size wt w' → (convert 32 9 (.slice (some ⟨gO, 0, none⟩) K K)).run Try.prog w' = .ok (.string st) w' := fun w' h => by rw [hst]; exact (HX.out.keep h).toString (P := Try.prog) Try.underlying32 Try.underlying5 Try.underlying9
      have HCX := Lib.hid hHCX
      clear hHCX
      have hHCY : ∀ w', Below wt.heap.size wt w' → (convert 32 9 (.slice (some ⟨gP, 0, none⟩) K K)).run Try.prog w' = .ok (.string st) w' := fun w' h => by rw [hst]; exact (HY.out.keep h).toString (P := Try.prog) Try.underlying32 Try.underlying5 Try.underlying9
      have HCY := Lib.hid hHCY
      clear hHCY
      clear hst
      go_upto_region 17 with fail
      have hS0 : (fun w' : World => Below wt.heap.size wt w') (World.drew wt) := drewb wt
      refine wp_region_held (S := fun w' => Below wt.heap.size wt w') (by kernel_rfl) ?_
      change wpAnyH _ _ _ _ _ _ _ _ (World.drew _)
      refine takeH 0 (.pointer (some ⟨NE, 0, none⟩)) (some 88) rfl rfl (by kernel_rfl) (by kernel_rfl) (by kernel_rfl) (fun _ _ _ h => h) (.inl ⟨by kernel_rfl, fun w _ => by go_simp⟩) hS0 ?_
      refine takeH 1 (.int .u8 (y : Nat)) (some 89) rfl rfl (by kernel_rfl) (by kernel_rfl) (by kernel_rfl) (fun _ _ _ h => h) (.inl ⟨by kernel_rfl, fun w hw => by have hc := rowcell (HSE.out w hw); go_simp⟩) hS0 ?_
      refine takeH 2 (.pointer (some ⟨NF, 0, none⟩)) (some 90) rfl rfl (by kernel_rfl) (by kernel_rfl) (by kernel_rfl) (fun _ _ _ h => h) (.inl ⟨by kernel_rfl, fun w _ => by go_simp⟩) hS0 ?_
      go_simp
      refine takeH 3 (.int .u8 (y : Nat)) (some 91) rfl rfl (by kernel_rfl) (by kernel_rfl) (by kernel_rfl) (fun _ _ _ h => h) (.inl ⟨by kernel_rfl, fun w hw => by have hc := rowcell (HSF.out w hw); go_simp⟩) hS0 ?_
      refine takeH 4 (.bool true) (some 92) rfl rfl (by kernel_rfl) (by kernel_rfl) (by kernel_rfl) (fun _ _ _ h => h) (.inl ⟨by kernel_rfl, fun w _ => by go_simp⟩) hS0 ?_
      refine takeH 5 (.bool true) (some 93) rfl rfl (by kernel_rfl) (by kernel_rfl) (by kernel_rfl) (fun _ _ _ h => h) (.inl ⟨by kernel_rfl, fun w _ => by go_simp⟩) hS0 ?_
      go_simp
      refine takeH 6 (.pointer (some ⟨NE, 1, none⟩)) (some 94) rfl rfl (by kernel_rfl) (by kernel_rfl) (by kernel_rfl) (fun _ _ _ h => h) (.inl ⟨by kernel_rfl, fun w _ => by go_simp⟩) hS0 ?_
      refine takeH 7 (.int .i64 (m : Nat)) (some 95) rfl rfl (by kernel_rfl) (by kernel_rfl) (by kernel_rfl) (fun _ _ _ h => h) (.inl ⟨by kernel_rfl, fun w hw => by have hc := rowcell (HSE.out w hw); go_simp⟩) hS0 ?_
      refine takeH 8 (.pointer (some ⟨NF, 1, none⟩)) (some 96) rfl rfl (by kernel_rfl) (by kernel_rfl) (by kernel_rfl) (fun _ _ _ h => h) (.inl ⟨by kernel_rfl, fun w _ => by go_simp⟩) hS0 ?_
      go_simp
      refine takeH 9 (.int .i64 (m : Nat)) (some 97) rfl rfl (by kernel_rfl) (by kernel_rfl) (by kernel_rfl) (fun _ _ _ h => h) (.inl ⟨by kernel_rfl, fun w hw => by have hc := rowcell (HSF.out w hw); go_simp⟩) hS0 ?_
      refine takeH 10 (.bool true) (some 98) rfl rfl (by kernel_rfl) (by kernel_rfl) (by kernel_rfl) (fun _ _ _ h => h) (.inl ⟨by kernel_rfl, fun w _ => by go_simp⟩) hS0 ?_
      refine takeH 11 (.bool true) (some 99) rfl rfl (by kernel_rfl) (by kernel_rfl) (by kernel_rfl) (fun _ _ _ h => h) (.inl ⟨by kernel_rfl, fun w _ => by go_simp⟩) hS0 ?_
      go_simp
      refine takeH 12 (.bool true) (some 100) rfl rfl (by kernel_rfl) (by kernel_rfl) (by kernel_rfl) (fun _ _ _ h => h) (.inl ⟨by kernel_rfl, fun w _ => by go_simp⟩) hS0 ?_
      refine takeH 13 (.pointer (some ⟨NE, 2, none⟩)) (some 101) rfl rfl (by kernel_rfl) (by kernel_rfl) (by kernel_rfl) (fun _ _ _ h => h) (.inl ⟨by kernel_rfl, fun w _ => by go_simp⟩) hS0 ?_
      refine takeH 14 (.int .i64 (dt : Nat)) (some 102) rfl rfl (by kernel_rfl) (by kernel_rfl) (by kernel_rfl) (fun _ _ _ h => h) (.inl ⟨by kernel_rfl, fun w hw => by have hc := rowcell (HSE.out w hw); go_simp⟩) hS0 ?_
      go_simp
      refine takeH 15 (.int .i64 (dt : Nat)) (some 103) rfl rfl (by kernel_rfl) (by kernel_rfl) (by kernel_rfl) (fun _ _ _ h => h) (.inl ⟨by kernel_rfl, fun w _ => by go_simp⟩) hS0 ?_
      refine takeH 16 (.bool true) (some 104) rfl rfl (by kernel_rfl) (by kernel_rfl) (by kernel_rfl) (fun _ _ _ h => h) (.inl ⟨by kernel_rfl, fun w _ => by go_simp⟩) hS0 ?_
      refine takeH 17 (.bool true) (some 105) rfl rfl (by kernel_rfl) (by kernel_rfl) (by kernel_rfl) (fun _ _ _ h => h) (.inl ⟨by kernel_rfl, fun w _ => by go_simp⟩) hS0 ?_
      go_simp
      refine takeH 18 (.bool true) (some 106) rfl rfl (by kernel_rfl) (by kernel_rfl) (by kernel_rfl) (fun _ _ _ h => h) (.inl ⟨by kernel_rfl, fun w _ => by go_simp⟩) hS0 ?_
      refine takeH 19 (.pointer (some ⟨gx, 0, none⟩)) (some 107) rfl rfl (by kernel_rfl) (by kernel_rfl) (by kernel_rfl) (fun _ _ _ h => h) (.inl ⟨by kernel_rfl, fun w _ => by go_simp⟩) hS0 ?_
      refine takeH 20 (.pointer (some ⟨gx, 0, none⟩)) (some 108) rfl rfl (by kernel_rfl) (by kernel_rfl) (by kernel_rfl) (fun _ _ _ h => h) (.inl ⟨by kernel_rfl, fun w _ => by go_simp⟩) hS0 ?_
      go_simp
      refine takeH 21 (.agg Z) (some 109) rfl rfl (by kernel_rfl) (by kernel_rfl) (by kernel_rfl) (fun _ _ _ h => h) (yi_piece (by kernel_rfl) 36 (.tmp 108) rfl gx 0 (by go_simp) Z _ (fun w' hw j v hj => by rw [HZ.out] at hj; obtain ⟨h1, rfl⟩ := rowArr_get _ _ _ _ hj; rw [Nat.zero_add]; exact (HSX.out w' hw).cell h1) Try.underlying36 rfl HZS.out) hS0 ?_
      refine takeH 22 (.pointer (some ⟨gy, 0, none⟩)) (some 110) rfl rfl (by kernel_rfl) (by kernel_rfl) (by kernel_rfl) (fun _ _ _ h => h) (.inl ⟨by kernel_rfl, fun w _ => by go_simp⟩) hS0 ?_
      refine takeH 23 (.pointer (some ⟨gy, 0, none⟩)) (some 111) rfl rfl (by kernel_rfl) (by kernel_rfl) (by kernel_rfl) (fun _ _ _ h => h) (.inl ⟨by kernel_rfl, fun w _ => by go_simp⟩) hS0 ?_
      go_simp
      refine takeH 24 (.agg Z) (some 112) rfl rfl (by kernel_rfl) (by kernel_rfl) (by kernel_rfl) (fun _ _ _ h => h) (yi_piece (by kernel_rfl) 36 (.tmp 111) rfl gy 0 (by go_simp) Z _ (fun w' hw j v hj => by rw [HZ.out] at hj; obtain ⟨h1, rfl⟩ := rowArr_get _ _ _ _ hj; rw [Nat.zero_add]; exact (HSN.out w' hw).cell h1) Try.underlying36 rfl HZS.out) hS0 ?_
      refine takeH 25 (.bool true) (some 113) rfl rfl (by kernel_rfl) (by kernel_rfl) (by kernel_rfl) (fun _ _ _ h => h) (.inl ⟨by kernel_rfl, fun w _ => exec_eql (xs := Z) (ys := Z) rfl (by go_simp) (by go_simp) (by kernel_rfl) (by rw [HZ.out]; exact HEQ2.out w)⟩) hS0 ?_
      refine takeH 26 (.bool true) (some 114) rfl rfl (by kernel_rfl) (by kernel_rfl) (by kernel_rfl) (fun _ _ _ h => h) (.inl ⟨by kernel_rfl, fun w _ => by go_simp⟩) hS0 ?_
      go_simp
      refine takeH 27 (.bool true) (some 115) rfl rfl (by kernel_rfl) (by kernel_rfl) (by kernel_rfl) (fun _ _ _ h => h) (.inl ⟨by kernel_rfl, fun w _ => by go_simp⟩) hS0 ?_
      refine takeH 28 (.int .i64 0) (some 116) rfl rfl (by kernel_rfl) (by kernel_rfl) (by kernel_rfl) (fun _ _ _ h => h) (.inl ⟨by kernel_rfl, fun w _ => by go_simp⟩) hS0 ?_
      refine takeH 29 (.bool true) (some 117) rfl rfl (by kernel_rfl) (by kernel_rfl) (by kernel_rfl) (fun _ _ _ h => h) (.inl ⟨by kernel_rfl, fun w _ => by go_simp⟩) hS0 ?_
      go_simp
      refine takeH 30 (.bool true) (some 118) rfl rfl (by kernel_rfl) (by kernel_rfl) (by kernel_rfl) (fun _ _ _ h => h) (.inl ⟨by kernel_rfl, fun w _ => by go_simp⟩) hS0 ?_
      refine takeH 31 (.bool true) (some 119) rfl rfl (by kernel_rfl) (by kernel_rfl) (by kernel_rfl) (fun _ _ _ h => h) (.inl ⟨by kernel_rfl, fun w _ => by go_simp⟩) hS0 ?_
      refine takeH 32 (.int .i64 0) (some 120) rfl rfl (by kernel_rfl) (by kernel_rfl) (by kernel_rfl) (fun _ _ _ h => h) (.inl ⟨by kernel_rfl, fun w _ => by go_simp⟩) hS0 ?_
      go_simp
      refine takeH 33 (.bool true) (some 121) rfl rfl (by kernel_rfl) (by kernel_rfl) (by kernel_rfl) (fun _ _ _ h => h) (.inl ⟨by kernel_rfl, fun w _ => by go_simp⟩) hS0 ?_
      refine takeH 34 (.bool true) (some 122) rfl rfl (by kernel_rfl) (by kernel_rfl) (by kernel_rfl) (fun _ _ _ h => h) (.inl ⟨by kernel_rfl, fun w _ => by go_simp⟩) hS0 ?_
      refine takeH 35 (.bool true) (some 123) rfl rfl (by kernel_rfl) (by kernel_rfl) (by kernel_rfl) (fun _ _ _ h => h) (.inl ⟨by kernel_rfl, fun w _ => by go_simp⟩) hS0 ?_
      go_simp
      refine takeH 36 (.slice (some ⟨gO, 0, none⟩) K K) (some 124) rfl rfl (by kernel_rfl) (by kernel_rfl) (by kernel_rfl) (fun _ _ _ h => h) (.inl ⟨by kernel_rfl, fun w _ => by go_simp⟩) hS0 ?_
      refine takeH 37 (.string st) (some 125) rfl rfl (by kernel_rfl) (by kernel_rfl) (by kernel_rfl) (fun _ _ _ h => h) (yi_convert (by kernel_rfl) 32 9 (.tmp 124) rfl _ _ (by go_simp) (fun w hw => HCX.out w hw)) hS0 ?_
      refine takeH 38 (.slice (some ⟨gP, 0, none⟩) K K) (some 126) rfl rfl (by kernel_rfl) (by kernel_rfl) (by kernel_rfl) (fun _ _ _ h => h) (.inl ⟨by kernel_rfl, fun w _ => by go_simp⟩) hS0 ?_
      go_simp
      refine takeH 39 (.string st) (some 127) rfl rfl (by kernel_rfl) (by kernel_rfl) (by kernel_rfl) (fun _ _ _ h => h) (yi_convert (by kernel_rfl) 32 9 (.tmp 126) rfl _ _ (by go_simp) (fun w hw => HCY.out w hw)) hS0 ?_
      refine takeH 40 (.bool true) (some 128) rfl rfl (by kernel_rfl) (by kernel_rfl) (by kernel_rfl) (fun _ _ _ h => h) (.inl ⟨by kernel_rfl, fun w _ => by go_simp⟩) hS0 ?_
      refine takeH 41 (.bool true) (some 129) rfl rfl (by kernel_rfl) (by kernel_rfl) (by kernel_rfl) (fun _ _ _ h => h) (.inl ⟨by kernel_rfl, fun w _ => by go_simp⟩) hS0 ?_
      go_simp
      refine takeH 42 (.bool true) (some 8) rfl rfl (by kernel_rfl) (by kernel_rfl) (by kernel_rfl) (fun _ _ _ h => h) (.inl ⟨by kernel_rfl, fun w _ => by go_simp⟩) hS0 ?_
      refine wpAnyH_done (by kernel_rfl) ?_ _
      go_simp
      go_wp2_with fail
      go_ret
      exact ⟨rfl, HB.out.trans ((drewb wt).mono HB.out.size)⟩
    · have fy : ((y : Int) == 0) = false := by simp; omega
      have hrun := run_in HMA.out nn (by omega)
      unfold RunP at hrun
      rw [e3] at hrun
      refine hrun.mono ?_
      rintro e w8 ⟨rfl, ⟨Fa, hma⟩, hca⟩
      clear hrun
      have nHB := Lib.hid (Chg.go HB.out hca HGA.out HB.out.size)
      have nHMB := Lib.hid (HMB.out.other (D := w6.heap.size) HLB.out hca (.inl HLA.out.g.2) (.inl HLA.out.gm.2) HGX.out.1 HGX.out.2.1 (Nat.lt_of_lt_of_le HLA.out.g.2 H56.out) (Nat.lt_of_lt_of_le HLA.out.gm.2 H56.out) (fun e => HGX.out.2.2 e.symm))
      clear HB HMB
      have HB := nHB; clear nHB
      have HMB := nHMB; clear nHMB
      clear HMA
      have HMA := Lib.hid hma
      clear hma hca
      unfold endA
      have HLTw8 := Lib.hid HMB.out.lts
      have HLUw8 := Lib.hid HMA.out.lts
      have hbw9 := bnew w8 (.cells #[.int .u8 (y : Nat), .int .i64 (m : Nat), .int .i64 (d : Nat)] 43)
      have hlw9 := heap_alloc_last w8 (.cells #[.int .u8 (y : Nat), .int .i64 (m : Nat), .int .i64 (d : Nat)] 43)
      have nHB := Lib.hid (HB.out.trans (hbw9.mono HB.out.size))
      have nHMB := Lib.hid (HMB.out.keep hbw9)
      have nHMA := Lib.hid (HMA.out.keep hbw9)
      clear HB HMB HMA
      have HB := nHB; clear nHB
      have HMB := nHMB; clear nHMB
      have HMA := nHMA; clear nHMA
      have HE := Lib.hid (hlw9)
      clear hbw9 hlw9
      go_upto_region 10 with fail
      obtain ⟨NE, hNE⟩ : ∃ k, k = w8.heap.size := ⟨_, rfl⟩
      rw [← hNE] at HE ⊢
      generalize w8.alloc (.cells #[.int .u8 (y : Nat), .int .i64 (m : Nat), .int .i64 (d : Nat)] 43) = w9 at *
      have GNE := Lib.hid (Nat.le_of_eq hNE.symm)
      clear hNE
      go_wp2_with fail
      have hrun := run_in HMB.out part (by omega)
      unfold RunP at hrun
      rw [e1] at hrun
      have hlb := HMB.out.lts
      have hlb := HMB.out.lts
      refine hrun.mono ?_
      rintro e w10 ⟨rfl, ⟨Fa, hmb⟩, hcb⟩
      clear hrun
      have nHB := Lib.hid (Chg.go HB.out hcb HGB.out HB.out.size)
      have nHMA := Lib.hid (HMA.out.other (D := w6.heap.size) HLA.out hcb (.inr HLB.out.g.1) (.inr HLB.out.gm.1) (Nat.le_trans H56.out HGX.out.2.1) HGX.out.1 HLB.out.g.2 HLB.out.gm.2 HGX.out.2.2)
      have nHE := Lib.hid (hcb.blk HE.out (not_mwS HLTw8.out.1 HLTw8.out.2.1 HLTw8.out.2.2 GNE.out))
      clear HB HMA HE
      have HB := nHB; clear nHB
      have HMA := nHMA; clear nHMA
      have HE := nHE; clear nHE
      clear HMB hlb
      have HMB := Lib.hid hmb
      clear hmb hcb
      unfold endA
      have hbw11 := bnew w10 (.cells #[.int .u8 (y : Nat), .int .i64 (m : Nat), .int .i64 (d : Nat)] 43)
      have hlw11 := heap_alloc_last w10 (.cells #[.int .u8 (y : Nat), .int .i64 (m : Nat), .int .i64 (d : Nat)] 43)
      have nHB := Lib.hid (HB.out.trans (hbw11.mono HB.out.size))
      have nHMB := Lib.hid (HMB.out.keep hbw11)
      have nHMA := Lib.hid (HMA.out.keep hbw11)
      have nHE := Lib.hid (bkeep hbw11 HE.out)
      clear HB HMB HMA HE
      have HB := nHB; clear nHB
      have HMB := nHMB; clear nHMB
      have HMA := nHMA; clear nHMA
      have HE := nHE; clear nHE
      have HF := Lib.hid (hlw11)
      clear hbw11 hlw11
      go_upto_region 11 with fail
      obtain ⟨NF, hNF⟩ : ∃ k, k = w10.heap.size := ⟨_, rfl⟩
      rw [← hNF] at HF ⊢
      generalize w10.alloc (.cells #[.int .u8 (y : Nat), .int .i64 (m : Nat), .int .i64 (d : Nat)] 43) = w11 at *
      have GNF := Lib.hid (Nat.le_of_eq hNF.symm)
      clear hNF
      have hcF := rowcell HF.out
      go_upto_region 15 with fail
      clear hcF
      obtain ⟨K, hK⟩ : ∃ K, K = 64 * p := ⟨_, rfl⟩
      have HK := Lib.hid (Nat.le_of_eq hK)
      have HKE := Lib.hid hK
      clear hK
      have hszwr := spaceSize_in HMA.out.sp (by rw [HMA.out.len]; omega)
      rw [morePs_len, ← HKE.out] at hszwr
      go_wp2_with fail
      refine hszwr.mono ?_; rintro e wx ⟨rfl, hwx⟩
      subst hwx
      clear hszwr
      go_wp2_with fail
      refine (HMA.out.memW.readG K HK.out).mono ?_; rintro e wr ⟨gO, rfl, _, hso, hbwr⟩
      have nHB := Lib.hid (HB.out.trans (hbwr.mono HB.out.size))
      have nHMB := Lib.hid (HMB.out.keep hbwr)
      have nHMA := Lib.hid (HMA.out.keep hbwr)
      have nHE := Lib.hid (bkeep hbwr HE.out)
      have nHF := Lib.hid (bkeep hbwr HF.out)
      clear HB HMB HMA HE HF
      have HB := nHB; clear nHB
      have HMB := nHMB; clear nHMB
      have HMA := nHMA; clear nHMA
      have HE := nHE; clear nHE
      have HF := nHF; clear nHF
      clear hbwr
      have HX := Lib.hid (hso)
      clear hso
      have hszwt := spaceSize_in HMB.out.sp (by rw [HMB.out.len]; omega)
      rw [morePs_len, ← HKE.out] at hszwt
      go_wp2_with fail
      refine hszwt.mono ?_; rintro e wx ⟨rfl, hwx⟩
      subst hwx
      clear hszwt
      go_wp2_with fail
      refine (HMB.out.memW.readG K HK.out).mono ?_; rintro e wt ⟨gP, rfl, _, hso, hbwt⟩
      have nHB := Lib.hid (HB.out.trans (hbwt.mono HB.out.size))
      have nHMB := Lib.hid (HMB.out.keep hbwt)
      have nHMA := Lib.hid (HMA.out.keep hbwt)
      have nHE := Lib.hid (bkeep hbwt HE.out)
      have nHF := Lib.hid (bkeep hbwt HF.out)
      have nHX := Lib.hid (HX.out.keep hbwt)
      clear HB HMB HMA HE HF HX
      have HB := nHB; clear nHB
      have HMB := nHMB; clear nHMB
      have HMA := nHMA; clear nHMA
      have HE := nHE; clear nHE
      have HF := nHF; clear nHF
      have HX := nHX; clear nHX
      clear hbwt
      have HY := Lib.hid (hso)
      clear hso
      obtain ⟨Z, hZ⟩ : ∃ Z, Z = rowArr 17 (stV s2) := ⟨_, rfl⟩
      have HZ := Lib.hid hZ
      have HZS := Lib.hid (show (Try.prog.info? 36).map (·.size) = some Z.size by rw [hZ]; exact state_size s2)
      clear hZ
      have HEQ2 := Lib.hid (fun w => eqState HMA.out.wf.r0 HMA.out.wf.a0 w)
      have HSE := Lib.hid (fun w' (h : Below wt.heap.size wt w') => bkeep (W := wt) h HE.out)
      have HSF := Lib.hid (fun w' (h : Below wt.heap.size wt w') => bkeep (W := wt) h HF.out)
      have hHSX : ∀ w', Below wt.heap.size wt w' → w'.rowIs gx 36 17 (stV s2) := fun w' h => HMA.out.rw.of_block (h.block _ HMA.out.rw.lt)
      have HSX := Lib.hid hHSX
      clear hHSX
      have hHSN : ∀ w', Below wt.heap.size wt w' → w'.rowIs gy 36 17 (stV s2) := fun w' h => HMB.out.rw.of_block (h.block _ HMB.out.rw.lt)
      have HSN := Lib.hid hHSN
      clear hHSN
      obtain ⟨st, hst⟩ : ∃ st, st = strOfNums (memL s2.mem K) := ⟨_, rfl⟩
      have hHCX : ∀ w', Below wt.heap.size wt w' → (convert 32 9 (.slice (some ⟨gO, 0, none⟩) K K)).run Try.prog w' = .ok (.string st) w' := fun w' h => by rw [hst]; exact (HX.out.keep h).toString (P := Try.prog) Try.underlying32 Try.underlying5 Try.underlying9
      have HCX := Lib.hid hHCX
      clear hHCX
      have hHCY : ∀ w', Below wt.heap.size wt w' → (convert 32 9 (.slice (some ⟨gP, 0, none⟩) K K)).run Try.prog w' = .ok (.string st) w' := fun w' h => by rw [hst]; exact (HY.out.keep h).toString (P := Try.prog) Try.underlying32 Try.underlying5 Try.underlying9
      have HCY := Lib.hid hHCY
      clear hHCY
      clear hst
      go_upto_region 17 with fail
      have hS0 : (fun w' : World => Below wt.heap.size wt w') (World.drew wt) := drewb wt
      refine wp_region_held (S := fun w' => Below wt.heap.size wt w') (by kernel_rfl) ?_
      change wpAnyH _ _ _ _ _ _ _ _ (World.drew _)
      refine takeH 0 (.pointer (some ⟨NE, 0, none⟩)) (some 88) rfl rfl (by kernel_rfl) (by kernel_rfl) (by kernel_rfl) (fun _ _ _ h => h) (.inl ⟨by kernel_rfl, fun w _ => by go_simp⟩) hS0 ?_
      refine takeH 1 (.int .u8 (y : Nat)) (some 89) rfl rfl (by kernel_rfl) (by kernel_rfl) (by kernel_rfl) (fun _ _ _ h => h) (.inl ⟨by kernel_rfl, fun w hw => by have hc := rowcell (HSE.out w hw); go_simp⟩) hS0 ?_
      refine takeH 2 (.pointer (some ⟨NF, 0, none⟩)) (some 90) rfl rfl (by kernel_rfl) (by kernel_rfl) (by kernel_rfl) (fun _ _ _ h => h) (.inl ⟨by kernel_rfl, fun w _ => by go_simp⟩) hS0 ?_
      go_simp
      refine takeH 3 (.int .u8 (y : Nat)) (some 91) rfl rfl (by kernel_rfl) (by kernel_rfl) (by kernel_rfl) (fun _ _ _ h => h) (.inl ⟨by kernel_rfl, fun w hw => by have hc := rowcell (HSF.out w hw); go_simp⟩) hS0 ?_
      refine takeH 4 (.bool true) (some 92) rfl rfl (by kernel_rfl) (by kernel_rfl) (by kernel_rfl) (fun _ _ _ h => h) (.inl ⟨by kernel_rfl, fun w _ => by go_simp⟩) hS0 ?_
      refine takeH 5 (.bool true) (some 93) rfl rfl (by kernel_rfl) (by kernel_rfl) (by kernel_rfl) (fun _ _ _ h => h) (.inl ⟨by kernel_rfl, fun w _ => by go_simp⟩) hS0 ?_
      go_simp
      refine takeH 6 (.pointer (some ⟨NE, 1, none⟩)) (some 94) rfl rfl (by kernel_rfl) (by kernel_rfl) (by kernel_rfl) (fun _ _ _ h => h) (.inl ⟨by kernel_rfl, fun w _ => by go_simp⟩) hS0 ?_
      refine takeH 7 (.int .i64 (m : Nat)) (some 95) rfl rfl (by kernel_rfl) (by kernel_rfl) (by kernel_rfl) (fun _ _ _ h => h) (.inl ⟨by kernel_rfl, fun w hw => by have hc := rowcell (HSE.out w hw); go_simp⟩) hS0 ?_
      refine takeH 8 (.pointer (some ⟨NF, 1, none⟩)) (some 96) rfl rfl (by kernel_rfl) (by kernel_rfl) (by kernel_rfl) (fun _ _ _ h => h) (.inl ⟨by kernel_rfl, fun w _ => by go_simp⟩) hS0 ?_
      go_simp
      refine takeH 9 (.int .i64 (m : Nat)) (some 97) rfl rfl (by kernel_rfl) (by kernel_rfl) (by kernel_rfl) (fun _ _ _ h => h) (.inl ⟨by kernel_rfl, fun w hw => by have hc := rowcell (HSF.out w hw); go_simp⟩) hS0 ?_
      refine takeH 10 (.bool true) (some 98) rfl rfl (by kernel_rfl) (by kernel_rfl) (by kernel_rfl) (fun _ _ _ h => h) (.inl ⟨by kernel_rfl, fun w _ => by go_simp⟩) hS0 ?_
      refine takeH 11 (.bool true) (some 99) rfl rfl (by kernel_rfl) (by kernel_rfl) (by kernel_rfl) (fun _ _ _ h => h) (.inl ⟨by kernel_rfl, fun w _ => by go_simp⟩) hS0 ?_
      go_simp
      refine takeH 12 (.bool true) (some 100) rfl rfl (by kernel_rfl) (by kernel_rfl) (by kernel_rfl) (fun _ _ _ h => h) (.inl ⟨by kernel_rfl, fun w _ => by go_simp⟩) hS0 ?_
      refine takeH 13 (.pointer (some ⟨NE, 2, none⟩)) (some 101) rfl rfl (by kernel_rfl) (by kernel_rfl) (by kernel_rfl) (fun _ _ _ h => h) (.inl ⟨by kernel_rfl, fun w _ => by go_simp⟩) hS0 ?_
      refine takeH 14 (.int .i64 (d : Nat)) (some 102) rfl rfl (by kernel_rfl) (by kernel_rfl) (by kernel_rfl) (fun _ _ _ h => h) (.inl ⟨by kernel_rfl, fun w hw => by have hc := rowcell (HSE.out w hw); go_simp⟩) hS0 ?_
      go_simp
      refine takeH 15 (.int .i64 (d : Nat)) (some 103) rfl rfl (by kernel_rfl) (by kernel_rfl) (by kernel_rfl) (fun _ _ _ h => h) (.inl ⟨by kernel_rfl, fun w _ => by go_simp⟩) hS0 ?_
      refine takeH 16 (.bool true) (some 104) rfl rfl (by kernel_rfl) (by kernel_rfl) (by kernel_rfl) (fun _ _ _ h => h) (.inl ⟨by kernel_rfl, fun w _ => by go_simp⟩) hS0 ?_
      refine takeH 17 (.bool true) (some 105) rfl rfl (by kernel_rfl) (by kernel_rfl) (by kernel_rfl) (fun _ _ _ h => h) (.inl ⟨by kernel_rfl, fun w _ => by go_simp⟩) hS0 ?_
      go_simp
      refine takeH 18 (.bool true) (some 106) rfl rfl (by kernel_rfl) (by kernel_rfl) (by kernel_rfl) (fun _ _ _ h => h) (.inl ⟨by kernel_rfl, fun w _ => by go_simp⟩) hS0 ?_
      refine takeH 19 (.pointer (some ⟨gx, 0, none⟩)) (some 107) rfl rfl (by kernel_rfl) (by kernel_rfl) (by kernel_rfl) (fun _ _ _ h => h) (.inl ⟨by kernel_rfl, fun w _ => by go_simp⟩) hS0 ?_
      refine takeH 20 (.pointer (some ⟨gx, 0, none⟩)) (some 108) rfl rfl (by kernel_rfl) (by kernel_rfl) (by kernel_rfl) (fun _ _ _ h => h) (.inl ⟨by kernel_rfl, fun w _ => by go_simp⟩) hS0 ?_
      go_simp
      refine takeH 21 (.agg Z) (some 109) rfl rfl (by kernel_rfl) (by kernel_rfl) (by kernel_rfl) (fun _ _ _ h => h) (yi_piece (by kernel_rfl) 36 (.tmp 108) rfl gx 0 (by go_simp) Z _ (fun w' hw j v hj => by rw [HZ.out] at hj; obtain ⟨h1, rfl⟩ := rowArr_get _ _ _ _ hj; rw [Nat.zero_add]; exact (HSX.out w' hw).cell h1) Try.underlying36 rfl HZS.out) hS0 ?_
      refine takeH 22 (.pointer (some ⟨gy, 0, none⟩)) (some 110) rfl rfl (by kernel_rfl) (by kernel_rfl) (by kernel_rfl) (fun _ _ _ h => h) (.inl ⟨by kernel_rfl, fun w _ => by go_simp⟩) hS0 ?_
      refine takeH 23 (.pointer (some ⟨gy, 0, none⟩)) (some 111) rfl rfl (by kernel_rfl) (by kernel_rfl) (by kernel_rfl) (fun _ _ _ h => h) (.inl ⟨by kernel_rfl, fun w _ => by go_simp⟩) hS0 ?_
      go_simp
      refine takeH 24 (.agg Z) (some 112) rfl rfl (by kernel_rfl) (by kernel_rfl) (by kernel_rfl) (fun _ _ _ h => h) (yi_piece (by kernel_rfl) 36 (.tmp 111) rfl gy 0 (by go_simp) Z _ (fun w' hw j v hj => by rw [HZ.out] at hj; obtain ⟨h1, rfl⟩ := rowArr_get _ _ _ _ hj; rw [Nat.zero_add]; exact (HSN.out w' hw).cell h1) Try.underlying36 rfl HZS.out) hS0 ?_
      refine takeH 25 (.bool true) (some 113) rfl rfl (by kernel_rfl) (by kernel_rfl) (by kernel_rfl) (fun _ _ _ h => h) (.inl ⟨by kernel_rfl, fun w _ => exec_eql (xs := Z) (ys := Z) rfl (by go_simp) (by go_simp) (by kernel_rfl) (by rw [HZ.out]; exact HEQ2.out w)⟩) hS0 ?_
      refine takeH 26 (.bool true) (some 114) rfl rfl (by kernel_rfl) (by kernel_rfl) (by kernel_rfl) (fun _ _ _ h => h) (.inl ⟨by kernel_rfl, fun w _ => by go_simp⟩) hS0 ?_
      go_simp
      refine takeH 27 (.bool true) (some 115) rfl rfl (by kernel_rfl) (by kernel_rfl) (by kernel_rfl) (fun _ _ _ h => h) (.inl ⟨by kernel_rfl, fun w _ => by go_simp⟩) hS0 ?_
      refine takeH 28 (.int .i64 0) (some 116) rfl rfl (by kernel_rfl) (by kernel_rfl) (by kernel_rfl) (fun _ _ _ h => h) (.inl ⟨by kernel_rfl, fun w _ => by go_simp⟩) hS0 ?_
      refine takeH 29 (.bool true) (some 117) rfl rfl (by kernel_rfl) (by kernel_rfl) (by kernel_rfl) (fun _ _ _ h => h) (.inl ⟨by kernel_rfl, fun w _ => by go_simp⟩) hS0 ?_
      go_simp
      refine takeH 30 (.bool true) (some 118) rfl rfl (by kernel_rfl) (by kernel_rfl) (by kernel_rfl) (fun _ _ _ h => h) (.inl ⟨by kernel_rfl, fun w _ => by go_simp⟩) hS0 ?_
      refine takeH 31 (.bool true) (some 119) rfl rfl (by kernel_rfl) (by kernel_rfl) (by kernel_rfl) (fun _ _ _ h => h) (.inl ⟨by kernel_rfl, fun w _ => by go_simp⟩) hS0 ?_
      refine takeH 32 (.int .i64 0) (some 120) rfl rfl (by kernel_rfl) (by kernel_rfl) (by kernel_rfl) (fun _ _ _ h => h) (.inl ⟨by kernel_rfl, fun w _ => by go_simp⟩) hS0 ?_
      go_simp
      refine takeH 33 (.bool true) (some 121) rfl rfl (by kernel_rfl) (by kernel_rfl) (by kernel_rfl) (fun _ _ _ h => h) (.inl ⟨by kernel_rfl, fun w _ => by go_simp⟩) hS0 ?_
      refine takeH 34 (.bool true) (some 122) rfl rfl (by kernel_rfl) (by kernel_rfl) (by kernel_rfl) (fun _ _ _ h => h) (.inl ⟨by kernel_rfl, fun w _ => by go_simp⟩) hS0 ?_
      refine takeH 35 (.bool true) (some 123) rfl rfl (by kernel_rfl) (by kernel_rfl) (by kernel_rfl) (fun _ _ _ h => h) (.inl ⟨by kernel_rfl, fun w _ => by go_simp⟩) hS0 ?_
      go_simp
      refine takeH 36 (.slice (some ⟨gO, 0, none⟩) K K) (some 124) rfl rfl (by kernel_rfl) (by kernel_rfl) (by kernel_rfl) (fun _ _ _ h => h) (.inl ⟨by kernel_rfl, fun w _ => by go_simp⟩) hS0 ?_
      refine takeH 37 (.string st) (some 125) rfl rfl (by kernel_rfl) (by kernel_rfl) (by kernel_rfl) (fun _ _ _ h => h) (yi_convert (by kernel_rfl) 32 9 (.tmp 124) rfl _ _ (by go_simp) (fun w hw => HCX.out w hw)) hS0 ?_
      refine takeH 38 (.slice (some ⟨gP, 0, none⟩) K K) (some 126) rfl rfl (by kernel_rfl) (by kernel_rfl) (by kernel_rfl) (fun _ _ _ h => h) (.inl ⟨by kernel_rfl, fun w _ => by go_simp⟩) hS0 ?_
      go_simp
      refine takeH 39 (.string st) (some 127) rfl rfl (by kernel_rfl) (by kernel_rfl) (by kernel_rfl) (fun _ _ _ h => h) (yi_convert (by kernel_rfl) 32 9 (.tmp 126) rfl _ _ (by go_simp) (fun w hw => HCY.out w hw)) hS0 ?_
      refine takeH 40 (.bool true) (some 128) rfl rfl (by kernel_rfl) (by kernel_rfl) (by kernel_rfl) (fun _ _ _ h => h) (.inl ⟨by kernel_rfl, fun w _ => by go_simp⟩) hS0 ?_
      refine takeH 41 (.bool true) (some 129) rfl rfl (by kernel_rfl) (by kernel_rfl) (by kernel_rfl) (fun _ _ _ h => h) (.inl ⟨by kernel_rfl, fun w _ => by go_simp⟩) hS0 ?_
      go_simp
      refine takeH 42 (.bool true) (some 8) rfl rfl (by kernel_rfl) (by kernel_rfl) (by kernel_rfl) (fun _ _ _ h => h) (.inl ⟨by kernel_rfl, fun w _ => by go_simp⟩) hS0 ?_
      refine wpAnyH_done (by kernel_rfl) ?_ _
      go_simp
      go_wp2_with fail
      go_ret
      exact ⟨rfl, HB.out.trans ((drewb wt).mono HB.out.size)⟩
end Go.Proofs.Ytapcbfeifeobhaa
