/- TurnPlays: the walk. -/
import Derived.Test.YtpjfnmmgfmfcfaaTrb
import Derived.Test.YtpjfnmmgfmfcfaaTrL
import Derived.Deep.CutBlock
import Derived.Deep.CutRange
set_option linter.unusedVariables false
set_option linter.unusedSimpArgs false
namespace Go.Proofs.Ytpjfnmmgfmfcfaa
open Go.RowKit
open Go.Maps (Keyed)

/-- What the rounds keep, in plain words. -/
structure IV (i n : Nat) (T : Nat → List TE) (L : List QL) (now slots : Nat) : Prop where
  mt : Mt n T L
  l1 : L.length ≤ i
  l2 : now ≤ i
  l3 : slots ≤ i
section
variable {i n now slots B : Nat} {T : Nat → List TE} {L : List QL} {w : World} {g gm : Nat} {a : Option Addr}
theorem endT (ht : TT B w g gm a T) (h : Mt n T L) {k m : Nat} (hk : k < 64) (hm : m ≤ 65535) :
    Calls Try.prog 11 #[.pointer (some ⟨g, 0, none⟩), .agg #[.int .u8 k, .int .u16 m], .int .i32 0] w fun e w' => e = .returned (.tuple #[]) ∧ TT B w' g gm a (setT T k (dropE (T k) m)) ∧ Chg (tS g gm T) w w' := by
  cases hf : tF T (k, m) with
  | none =>
    have hno := tF_none hf
    have e1 : dropE (T k) m = T k := List.filter_eq_self.2 (fun t ht => by have := hno t ht; simpa using this)
    rw [e1, setT_self]
    refine (taskEnd_no ht k m hk hm 0 (fun t ht e => absurd e (hno t ht))).mono ?_
    rintro e w' ⟨he, hb⟩
    exact ⟨he, ht.keep hb, Chg.of_below _ hb⟩
  | some x =>
    obtain ⟨j, hj, h1, h2⟩ := tF_get ht.ok hf
    obtain ⟨t, htt⟩ : ∃ t, (T k)[j] = t := ⟨_, rfl⟩
    rw [htt] at h1
    have hmem : t ∈ T k := by rw [← htt]; exact List.getElem_mem hj
    have hfl := h.fl k t hmem
    have e1 : endL (T k) j m 0 t = dropE (T k) m := by unfold endL; rw [if_pos hfl.par]
    have hnum := ht.ok.num k
    rw [← e1]
    have he := taskEnd_in ht (l := k) hk hj htt m h1.symm 0 (by rcases hfl.st with e | e <;> omega) (by
      unfold kidsL
      rw [List.filter_eq_nil_iff]
      intro s hs
      have h3 := (h.fl k s hs).par
      have h4 := hnum t hmem
      unfold kidB
      rw [h3, decide_eq_false (by omega)]
      simp) (by rw [hfl.par]; omega) (fun s hs e => absurd (hnum s hs).1 (by rw [e, hfl.par]; omega)) (fun _ => False) (fun _ => True) (fun _ h => h.elim) (fun _ _ h => h) (fun _ _ _ _ => trivial) (fun w1 _ => by
      rw [hfl.mem]
      refine (spaceFree_nil w1).mono ?_
      rintro e w2 ⟨he, rfl⟩
      exact ⟨he, Chg.refl _ _, trivial⟩)
    refine he.mono ?_
    rintro e w' ⟨he, ht', hc', _⟩
    exact ⟨he, ht', hc'.mono (fun k _ h => h.resolve_left (fun h => h))⟩
theorem Mt.num (h : Mt n T L) (ok : TOk B T) : ∀ q ∈ L, 1 ≤ q.num := fun q hq => by
  obtain ⟨t, ht, e⟩ := h.there hq
  rw [← e]
  exact (ok.num _ t ht).1
theorem Mt.st (h : Mt n T L) : ∀ q ∈ L, q.st ≠ 3 := fun q hq => by
  obtain ⟨t, ht, e⟩ := h.there hq
  have := (h.fl _ t ht).st
  rw [← e]
  show t.pr.st ≠ 3
  omega
end
set_option maxRecDepth 200000 in
set_option maxHeartbeats 32000000 in
theorem turnPlays_walk (W : World) (v0 v1 : Value) (o0 : Arg Try.prog W 30 v0) (o1 : Arg Try.prog W 69 v1) :
    Calls Try.prog 4 #[v0, v1] W fun e w' => e = .returned (.bool true) ∧ Below W.heap.size W w' := by
  obtain ⟨s, S0⟩ := SizeV.of_arg o0
  have HSV := Lib.hid S0
  obtain ⟨X, tv, rfl, hX, hrest⟩ := S0
  obtain ⟨na, xs, hs, hx⟩ := SR.of_arg (e := 82) Try.underlying69 (by rw [show Try.prog.cellsOf 82 = 6 by kernel_rfl]; omega) o1
  have e6 : Try.prog.cellsOf 82 = 6 := by kernel_rfl
  rw [e6] at hs hx
  obtain ⟨A, cap, rfl, hn1, hn2⟩ := hs.form
  have hnm : (na : Int) ≤ 9223372036854775807 := by unfold maxLen at hn2; omega
  have HS := Lib.hid hs
  have HXX := Lib.hid hx
  obtain ⟨rs, hrs⟩ : ∃ rs, rs = sizeRegs s := ⟨_, rfl⟩
  have hn64 : rs.length ≤ 64 := by rw [hrs]; exact sizeLe64 s
  have hr1 : 0 < rs.length := by rw [hrs, sizeRegs_length]; have := manyOf_le s; omega
  have HPR := Lib.hid (show ∀ r ∈ rs, r.pr ≤ 16 by rw [hrs]; exact sizePr_le s)
  have HRS := Lib.hid hrs
  have HX := Lib.hid (show (Try.prog.info? 30).map (·.size) = some X.size by rw [hX]; kernel_rfl)
  clear hrest hrs hX o0 o1 hs hx e6
  have hb0 := bnew W (.cells X 30)
  have ha0 := heap_alloc_last W (.cells X 30)
  have HSX := Lib.hid (SizeV.keep HSV.out hb0)
  clear HSV
  go_enter Try.func4, Try.ntmps4
  go_wp2_with fail
  obtain ⟨G, hG⟩ : ∃ G, G = W.heap.size := ⟨_, rfl⟩
  rw [← hG] at ha0 ⊢
  generalize W.alloc (.cells X 30) = w0 at *
  have HG := Lib.hid hG
  have HB0 := Lib.hid hb0
  have HA0 := Lib.hid ha0
  clear hG hb0 ha0
  refine (turnAwake_in _).mono ?_; rintro e w1 ⟨rfl, hb1⟩
  have HB1 := Lib.hid (bnext HB0.out hb1)
  have HA1 := Lib.hid (bkeep hb1 HA0.out)
  have HS1 := Lib.hid (SizeV.keep HSX.out hb1)
  clear hb1
  go_wp2_with (refine wpList_load_pieceTo rfl 30 (.tmp 2) rfl (some 25) rfl G 0 rfl X _ (fun j v hj => by rw [Nat.zero_add, rowcell HA1.out]; simpa using hj) Try.underlying30 rfl HX.out ?_)
  refine (sizeRegs_in _ _ s HS1.out).mono ?_; rintro e w2 ⟨hb2, rv, mv, rfl, hr, hm⟩
  rw [← HRS.out] at hr
  obtain ⟨A2, c2, hmv, _, _⟩ := (SR.of_own hm).form
  obtain ⟨gr, offr, capr, hrv, _, _, hgr, hcr⟩ := RS_cases (SR.of_own hr) hr1
  subst hrv
  subst hmv
  have HRV2 := Lib.hid (SR.of_own hr)
  have HA2 := Lib.hid (bkeep hb2 HA1.out)
  have HS2 := Lib.hid (SizeV.keep HS1.out hb2)
  have HB2 := Lib.hid (bnext HB1.out hb2)
  clear hr hm hcr hb2 hgr
  go_wp2_with (refine wpList_load_pieceTo rfl 30 (.tmp 2) rfl (some 29) rfl G 0 rfl X _ (fun j v hj => by rw [Nat.zero_add, rowcell HA2.out]; simpa using hj) Try.underlying30 rfl HX.out ?_)
  refine (sizeConf_in _ _ s HS2.out).mono ?_; rintro e w3 ⟨hb3, cg, gT, gN, gL, v', m', u', rfl, hcf⟩
  have hcp := hcf.toP (sizeLe _) (sizeOk _)
  rw [← HRS.out] at hcp
  have HP := Lib.hid hcp
  have HB3 := Lib.hid (bnext HB2.out hb3)
  have HRV := Lib.hid (show ∀ w', Below w3.heap.size w3 w' → SR w' (.slice (some ⟨gr, offr, none⟩) rs.length capr) rs.length 9 (regCells rs) from fun w' hb => SR.keep (SR.keep HRV2.out hb3) hb)
  clear hcf hb3 hcp HRV2
  go_wp2_with fail
  refine (turnNew_in _ _).mono ?_; rintro e w4 ⟨gt, rfl, hgt, hu, hb4⟩
  go_wp2_with fail
  refine (taskNew_in _ _).mono ?_; rintro e w5 ⟨g, gm, rfl, hg, hgm, ht, hb5⟩
  have HU5 := Lib.hid (show TU w5 gt (some ⟨cg, 0, none⟩) (fun _ => 0) 0 0 from hu.of_block (hb5.block gt hu.lt))
  have HT5 := Lib.hid ht
  have HB5 := Lib.hid (bnext hb4 hb5)
  have HGG := Lib.hid (show w3.heap.size ≤ gt ∧ w4.heap.size ≤ g ∧ w4.heap.size ≤ gm ∧ w3.heap.size ≤ w4.heap.size ∧ w4.heap.size ≤ w5.heap.size by have := hb4.size; have := hb5.size; omega)
  clear hu hb4 hb5 ht hgt hg hgm
  obtain ⟨n, hn⟩ : ∃ n, n = rs.length := ⟨_, rfl⟩
  have HNN := Lib.hid hn
  rw [← hn] at hr1 hn64 HRV ⊢
  clear hn
  have hmk := fun w => run_make_row' (P := Try.prog) 80 3 (.int .i64 0) 8 Try.underlying80 (by kernel_rfl) rfl .i64 .i64 n (by omega) (by omega) w
  go_wp2_with fail
  clear hmk
  have hbQ := bnew w5 (.cells #[.slice (some ⟨gr, offr, none⟩) n capr, .slice none 0 0] 79)
  have hrQ := World.rowIs_alloc w5 #[.slice (some ⟨gr, offr, none⟩) n capr, .slice none 0 0] 79 (tabQ (.slice (some ⟨gr, offr, none⟩) n capr) (.slice none 0 0)) (fun i hi => by
    rcases (show i = 0 ∨ i = 1 by simp at hi; omega) with rfl | rfl <;> rfl)
  have hbL := bnew (w5.alloc (.cells #[.slice (some ⟨gr, offr, none⟩) n capr, .slice none 0 0] 79)) (.cells (madeCells #[.int .i64 0] n) 3)
  have hrL := World.rowIs_made (w5.alloc (.cells #[.slice (some ⟨gr, offr, none⟩) n capr, .slice none 0 0] 79)) (.int .i64 0) n 3
  rw [World.size_alloc] at hrL
  have hB5L : Below w5.heap.size w5 ((w5.alloc (.cells #[.slice (some ⟨gr, offr, none⟩) n capr, .slice none 0 0] 79)).alloc (.cells (madeCells #[.int .i64 0] n) 3)) := bnext hbQ hbL
  have hpw : PW w4.heap.size w3 ((w5.alloc (.cells #[.slice (some ⟨gr, offr, none⟩) n capr, .slice none 0 0] 79)).alloc (.cells (madeCells #[.int .i64 0] n) 3)) g gm gt w5.heap.size (w5.heap.size + 1) n (some ⟨cg, 0, none⟩) (.slice (some ⟨gr, offr, none⟩) n capr) (.slice none 0 0) (fun _ => []) (fun _ => 0) 0 0 [] :=
    ⟨bnext HB5.out hB5L, HT5.out.keep hB5L, HU5.out.of_block (hB5L.block gt HU5.out.lt), ⟨hrQ.of_block (hbL.block _ hrQ.lt), ⟨rfl, .inl ⟨rfl, rfl⟩⟩, HGG.out.2.2.2.2, Nat.zero_le _⟩, hrL.congr (fun j hj => rfl), HGG.out.2.2.2.1, HGG.out.1, by have := HB5.out.size; omega, HGG.out.2.1, HGG.out.2.2.1, Nat.le_trans HGG.out.2.2.2.2 hB5L.size⟩
  have HPW := Lib.hid hpw
  clear hbQ hrQ hbL hrL hB5L hpw
  obtain ⟨gq, hgq⟩ : ∃ gq, gq = w5.heap.size := ⟨_, rfl⟩
  obtain ⟨gl, hgl⟩ : ∃ gl, gl = w5.heap.size + 1 := ⟨_, rfl⟩
  rw [← hgl, ← hgq] at HPW
  rw [← hgl, ← hgq]
  generalize (w5.alloc (.cells #[.slice (some ⟨gr, offr, none⟩) n capr, .slice none 0 0] 79)).alloc (.cells (madeCells #[.int .i64 0] n) 3) = w7 at *
  clear hgq hgl
  go_loopw [12, 13, 43] (fun s12 s13 r wx => ∃ (i : Nat) (T : Nat → List TE) (last : Nat → Nat) (now slots : Nat) (L : List QL) (v : Value), i ≤ na ∧ i ≤ 121 ∧ r = .int .i64 i ∧ s12 = .int .u64 now ∧ s13 = .int .i64 slots ∧ PW w4.heap.size w3 wx g gm gt gq gl n (some ⟨cg, 0, none⟩) (.slice (some ⟨gr, offr, none⟩) n capr) v T last now slots L ∧ IV i n T L now slots) (fun _ _ r _ => na - (intOf r).toNat)
  case atStart => exact ⟨0, _, _, 0, 0, _, _, Nat.zero_le _, by omega, rfl, rfl, rfl, HPW.out, ⟨Mt.nil n, Nat.le_refl _, Nat.le_refl _, Nat.le_refl _⟩⟩
  case round =>
    clear HPW
    obtain ⟨i, T, last, now, slots, L, v, hi, hi121, rfl, rfl, rfl, hpw, hiv⟩ := hrel
    have HFR := Lib.hid hpw
    have HIV := Lib.hid hiv
    clear hpw hiv
    by_cases hin : i < na
    · have f1 : (i : Int) < na := by omega
      obtain ⟨m, hok⟩ := HXX.out i hin
      obtain ⟨kd, la, num, to_, nn, raw, hcs, k0, k1, k2, k3, k4, k5⟩ := act25 hok
      rcases HS.out.cases with ⟨h, _⟩ | ⟨_, ga, o_, cz, hsl, _, _, hga, hca⟩
      · omega
      cases hsl
      have hbW : Below W.heap.size W wr := HB3.out.trans (HFR.out.bl.mono HB3.out.size)
      have hcell : ∀ j, j < 6 → wr.cell? ⟨ga, o_ + i * 6 + j, none⟩ = [Value.int .u8 kd, .int .u8 la, .int .u8 num, .int .u8 to_, .int .i32 nn, .bool raw][j]? := fun j hj => by
        rw [World.cell?_of_block (w := W) (a := ⟨ga, o_ + i * 6 + j, none⟩) (hbW.block ga hga), Nat.add_assoc, hca (i * 6 + j) (by omega), ← hcs, List.getElem?_take_of_lt hj, List.getElem?_drop]
      have d0 := hcell 0 (by omega)
      have d1 := hcell 1 (by omega)
      have d2 := hcell 2 (by omega)
      have d3 := hcell 3 (by omega)
      have d4 := hcell 4 (by omega)
      have d5 := hcell 5 (by omega)
      simp only [Nat.add_zero, List.getElem?_cons_zero, List.getElem?_cons_succ] at d0 d1 d2 d3 d4 d5
      clear hcell hca hbW hok hcs
      have hbA := bnew wr (.cells #[.int .u8 kd, .int .u8 la, .int .u8 num, .int .u8 to_, .int .i32 nn, .bool raw] 82)
      have hlA := heap_alloc_last wr (.cells #[.int .u8 kd, .int .u8 la, .int .u8 num, .int .u8 to_, .int .i32 nn, .bool raw] 82)
      have HFA := Lib.hid (HFR.out.keep hbA)
      have HLA := Lib.hid hlA
      have cA := rowcell hlA
      clear hbA hlA
      by_cases h120 : 120 < i
      · have f2 : (120 : Int) < i := by omega
        go_wp2_with fail
        go_ret
        exact ⟨rfl, HB3.out.trans (HFA.out.bl.mono HB3.out.size)⟩
      have f2 : ¬ ((120 : Int) < i) := by omega
      obtain ⟨k, hk⟩ : ∃ k, k = la % n := ⟨_, rfl⟩
      have hkn : k < n := by rw [hk]; exact Nat.mod_lt _ hr1
      have fk : (la : Int) % (n : Int) = k := by rw [hk]; omega
      have fk2 : (la : Int).tmod (n : Int) = k := by rw [Int.tmod_eq_emod_of_nonneg (by omega)]; exact fk
      have fn0 : ¬ ((n : Int) = 0) := by omega
      obtain ⟨m8, hm8⟩ : ∃ m, m = num % 8 := ⟨_, rfl⟩
      have hm7 : m8 < 8 := by omega
      have fm : (num : Int) % 8 = m8 := by omega
      have fm2 : (num : Int).tmod 8 = m8 := by rw [Int.tmod_eq_emod_of_nonneg (by omega)]; exact fm
      have fw1 : IntKind.i64.wrap (la : Int) = la := by simp [IntKind.wrap, IntKind.bits, IntKind.signed]; omega
      have fw2 : IntKind.i64.wrap (m8 : Int) = m8 := by simp [IntKind.wrap, IntKind.bits, IntKind.signed]; omega
      have fw3 : IntKind.i64.wrap (k : Int) = k := by simp [IntKind.wrap, IntKind.bits, IntKind.signed]; omega
      have fw4 : IntKind.u8.wrap (m8 : Int) = m8 := by simp [IntKind.wrap, IntKind.bits, IntKind.signed]; omega
      have fw5 : IntKind.u8.wrap (k : Int) = k := by simp [IntKind.wrap, IntKind.bits, IntKind.signed]; omega
      have fw6 : IntKind.u16.wrap (m8 : Int) = m8 := by rw [IntKind.wrap_u16]; omega
      clear hm8 hk
      go_upto_region 13 with fail
      obtain ⟨M, hM⟩ : ∃ M, M = wr.heap.size := ⟨_, rfl⟩
      rw [← hM] at cA HLA
      rw [← hM]
      generalize wr.alloc (.cells #[.int .u8 kd, .int .u8 la, .int .u8 num, .int .u8 to_, .int .i32 nn, .bool raw] 82) = wA at *
      clear hM d0 d1 d2 d3 d4 d5
      go_quiet (fail)
      have hbD : Below wA.heap.size wA (wA.drewN nq) := bdrewN (Below.refl _ _) nq
      have HFD := Lib.hid (HFA.out.keep hbD)
      have hlD := bkeep hbD HLA.out
      have HLD := Lib.hid hlD
      clear cA hbD HFA HLA
      have cA := rowcell hlD
      generalize wA.drewN nq = wD at *
      clear hlD
      go_upto_region 15 with fail
      have hbB := bnew wD (.cells #[.int .u8 k, .int .u16 m8] 45)
      have hlP := heap_alloc_last wD (.cells #[.int .u8 k, .int .u16 m8] 45)
      have hlM := bkeep hbB HLD.out
      have HFB := Lib.hid (HFD.out.keep hbB)
      obtain ⟨P, hP⟩ : ∃ P, P = wD.heap.size := ⟨_, rfl⟩
      rw [← hP] at hlP ⊢
      generalize wD.alloc (.cells #[.int .u8 k, .int .u16 m8] 45) = wB at *
      have HLM := Lib.hid hlM
      have HLP := Lib.hid hlP
      clear hbB hP cA fk fk2 fm fm2 fw1 fw4 fw5 fw6 HLD HFD
      have cM := rowcell hlM
      clear hlM hlP
      obtain ⟨kk, hkk6⟩ : ∃ kk, kk = kd % 8 := ⟨_, rfl⟩
      have hkv : (kd : Int) % 8 = kk := by omega
      have hkk7 : kk < 8 := by omega
      have hk64 : k < 64 := by omega
      have hkr : k < rs.length := by rw [← HNN.out]; exact hkn
      have hi120 : i ≤ 120 := by omega
      have hl1 := HIV.out.l1
      have hl2 := HIV.out.l2
      have hl3 := HIV.out.l3
      clear hkk6
      go_upto_block 2 with fail
      go_cut [12, 13] from 44 to 181 (fun s12 s13 wx => ∃ (T : Nat → List TE) (last : Nat → Nat) (now slots : Nat) (L : List QL) (v : Value), s12 = .int .u64 now ∧ s13 = .int .i64 slots ∧ PW w4.heap.size w3 wx g gm gt gq gl n (some ⟨cg, 0, none⟩) (.slice (some ⟨gr, offr, none⟩) n capr) v T last now slots L ∧ IV (i + 1) n T L now slots)
      case first =>
        rcases (show kk = 0 ∨ kk = 1 ∨ kk = 2 ∨ kk = 3 ∨ kk = 4 ∨ kk = 5 ∨ 6 ≤ kk by omega) with h | h | h | h | h | h | h
        · have g0 : ((kk : Int) == 0) = true := by rw [beq_iff_eq]; omega
          have gn0 : (kk == 0) = true := by rw [beq_iff_eq]; omega
          clear h
          as_aux_lemma =>
            by_cases hfull : (T k).length < (rs[k]'hkr).pr
            · obtain ⟨q, q1, q2, q3, q4⟩ := free_asc (T k) 0 (HFB.out.tt.ok.asc k) (fun t ht => (HFB.out.tt.ok.num k t ht).1)
              have hlT := HIV.out.mt.cnt k
              have hcl := cntQ_le L k
              have hadd := taskAdd_ok HP.out HFB.out.bl HFB.out.tt (Nat.le_trans HFB.out.b0 HFB.out.b3) (Nat.le_trans HFB.out.b0 HFB.out.b4) HFB.out.b5 k q hkr (by rw [← HNN.out]; exact hn64) 0 hfull (by omega) (by omega) (by omega) (tF_no q3) (fun m h1 h2 => by
                obtain ⟨t, ht, e⟩ := q4 m (by omega) h2
                rw [← e, tF_at HFB.out.tt.ok ht]
                exact Option.some_ne_none _)
              have HADD := Lib.hid hadd
              have hrf := fun (w8 : World) (h8 : RQ w8 gq w4.heap.size (.slice (some ⟨gr, offr, none⟩) n capr) v L) (hb8 : Below w3.heap.size w3 w8) (h5 : w4.heap.size ≤ w8.heap.size) => refAdd_ok h8 (rs := rs) (by rw [← HNN.out]; exact HRV.out w8 hb8) h5 (by omega) k q hkr (by rw [← HNN.out]; exact hn64) (by rw [hlT]; exact hfull) (by omega) (by omega) (fun y hy hq => by
                obtain ⟨t, ht, e⟩ := HIV.out.mt.there hy
                rw [hq.1] at ht
                exact q3 t ht (by rw [← hq.2, ← e]; rfl)) (fun j h1 h2 => by
                obtain ⟨t, ht, e⟩ := q4 j (by omega) h2
                exact ⟨qE t, (HIV.out.mt.here ht).1, (HIV.out.mt.here ht).2, e⟩)
              have HRF := Lib.hid hrf
              have HM8 := Lib.hid (fun x => HIV.out.mt.add hkn q x (rs[k]'hkr).cl)
              clear hadd hrf q1 q2 q3 q4 hlT hcl
              go_wp2_with fail
              refine HADD.out.mono ?_
              rintro e w8 ⟨x, rfl, hx8, ht8, hd8⟩
              have HF8 := Lib.hid (HFB.out.tab (Chg.of_duo (S := tS g gm T) hd8 (.inl rfl) (.inr (.inl rfl))) ht8)
              clear ht8 hd8 cM
              go_wp2_with fail
              refine (HRF.out w8 HF8.out.rq HF8.out.bl HF8.out.b5).mono ?_
              rintro e w9 ⟨rfl, ⟨v9, hr9⟩, hc9⟩
              have HF9 := Lib.hid (HF8.out.ref hc9 hr9)
              clear hr9 hc9
              go_wp2_with fail
              go_meet
              exact ⟨_, _, _, _, _, _, rfl, rfl, HF9.out, ⟨HM8.out x, by rw [List.length_append, List.length_singleton]; omega, by omega, by omega⟩⟩
            · have hlT := HIV.out.mt.cnt k
              have HADD := Lib.hid (taskAdd_no HP.out HFB.out.bl HFB.out.tt k hkr (by rw [← HNN.out]; exact hn64) 0 (by omega))
              have HRF := Lib.hid (fun (w8 : World) (h8 : RQ w8 gq w4.heap.size (.slice (some ⟨gr, offr, none⟩) n capr) v L) (hb8 : Below w3.heap.size w3 w8) => refAdd_no h8 (rs := rs) (by rw [← HNN.out]; exact HRV.out w8 hb8) k hkr (by rw [← HNN.out]; exact hn64) (by rw [hlT]; omega))
              clear hlT
              go_wp2_with fail
              refine HADD.out.mono ?_
              rintro e w8 ⟨rfl, hb8⟩
              have HF8 := Lib.hid (HFB.out.keep hb8)
              clear hb8 cM
              go_wp2_with fail
              refine (HRF.out w8 HF8.out.rq HF8.out.bl).mono ?_
              rintro e w9 ⟨rfl, hb9⟩
              have HF9 := Lib.hid (HF8.out.keep hb9)
              clear hb9
              go_wp2_with fail
              go_meet
              exact ⟨_, _, _, _, _, _, rfl, rfl, HF9.out, ⟨HIV.out.mt, by omega, by omega, by omega⟩⟩
        · have g0 : ((kk : Int) == 0) = false := by rw [beq_eq_false_iff_ne]; omega
          have gn0 : (kk == 0) = false := by rw [beq_eq_false_iff_ne]; omega
          have g1 : ((kk : Int) == 1) = true := by rw [beq_iff_eq]; omega
          have gn1 : (kk == 1) = true := by rw [beq_iff_eq]; omega
          clear h
          as_aux_lemma =>
            by_cases hfull : (T k).length < (rs[k]'hkr).pr
            · obtain ⟨q, q1, q2, q3, q4⟩ := free_asc (T k) 0 (HFB.out.tt.ok.asc k) (fun t ht => (HFB.out.tt.ok.num k t ht).1)
              have hlT := HIV.out.mt.cnt k
              have hcl := cntQ_le L k
              have hadd := taskAdd_ok HP.out HFB.out.bl HFB.out.tt (Nat.le_trans HFB.out.b0 HFB.out.b3) (Nat.le_trans HFB.out.b0 HFB.out.b4) HFB.out.b5 k q hkr (by rw [← HNN.out]; exact hn64) 0 hfull (by omega) (by omega) (by omega) (tF_no q3) (fun m h1 h2 => by
                obtain ⟨t, ht, e⟩ := q4 m (by omega) h2
                rw [← e, tF_at HFB.out.tt.ok ht]
                exact Option.some_ne_none _)
              have HADD := Lib.hid hadd
              have hrf := fun (w8 : World) (h8 : RQ w8 gq w4.heap.size (.slice (some ⟨gr, offr, none⟩) n capr) v L) (hb8 : Below w3.heap.size w3 w8) (h5 : w4.heap.size ≤ w8.heap.size) => refAdd_ok h8 (rs := rs) (by rw [← HNN.out]; exact HRV.out w8 hb8) h5 (by omega) k q hkr (by rw [← HNN.out]; exact hn64) (by rw [hlT]; exact hfull) (by omega) (by omega) (fun y hy hq => by
                obtain ⟨t, ht, e⟩ := HIV.out.mt.there hy
                rw [hq.1] at ht
                exact q3 t ht (by rw [← hq.2, ← e]; rfl)) (fun j h1 h2 => by
                obtain ⟨t, ht, e⟩ := q4 j (by omega) h2
                exact ⟨qE t, (HIV.out.mt.here ht).1, (HIV.out.mt.here ht).2, e⟩)
              have HRF := Lib.hid hrf
              have HM8 := Lib.hid (fun x => HIV.out.mt.add hkn q x (rs[k]'hkr).cl)
              clear hadd hrf q1 q2 q3 q4 hlT hcl
              go_wp2_with fail
              refine HADD.out.mono ?_
              rintro e w8 ⟨x, rfl, hx8, ht8, hd8⟩
              have HF8 := Lib.hid (HFB.out.tab (Chg.of_duo (S := tS g gm T) hd8 (.inl rfl) (.inr (.inl rfl))) ht8)
              clear ht8 hd8 cM
              go_wp2_with fail
              refine (HRF.out w8 HF8.out.rq HF8.out.bl HF8.out.b5).mono ?_
              rintro e w9 ⟨rfl, ⟨v9, hr9⟩, hc9⟩
              have HF9 := Lib.hid (HF8.out.ref hc9 hr9)
              clear hr9 hc9
              go_wp2_with fail
              go_meet
              exact ⟨_, _, _, _, _, _, rfl, rfl, HF9.out, ⟨HM8.out x, by rw [List.length_append, List.length_singleton]; omega, by omega, by omega⟩⟩
            · have hlT := HIV.out.mt.cnt k
              have HADD := Lib.hid (taskAdd_no HP.out HFB.out.bl HFB.out.tt k hkr (by rw [← HNN.out]; exact hn64) 0 (by omega))
              have HRF := Lib.hid (fun (w8 : World) (h8 : RQ w8 gq w4.heap.size (.slice (some ⟨gr, offr, none⟩) n capr) v L) (hb8 : Below w3.heap.size w3 w8) => refAdd_no h8 (rs := rs) (by rw [← HNN.out]; exact HRV.out w8 hb8) k hkr (by rw [← HNN.out]; exact hn64) (by rw [hlT]; omega))
              clear hlT
              go_wp2_with fail
              refine HADD.out.mono ?_
              rintro e w8 ⟨rfl, hb8⟩
              have HF8 := Lib.hid (HFB.out.keep hb8)
              clear hb8 cM
              go_wp2_with fail
              refine (HRF.out w8 HF8.out.rq HF8.out.bl).mono ?_
              rintro e w9 ⟨rfl, hb9⟩
              have HF9 := Lib.hid (HF8.out.keep hb9)
              clear hb9
              go_wp2_with fail
              go_meet
              exact ⟨_, _, _, _, _, _, rfl, rfl, HF9.out, ⟨HIV.out.mt, by omega, by omega, by omega⟩⟩
        · have g0 : ((kk : Int) == 0) = false := by rw [beq_eq_false_iff_ne]; omega
          have gn0 : (kk == 0) = false := by rw [beq_eq_false_iff_ne]; omega
          have g1 : ((kk : Int) == 1) = false := by rw [beq_eq_false_iff_ne]; omega
          have gn1 : (kk == 1) = false := by rw [beq_eq_false_iff_ne]; omega
          have g2 : ((kk : Int) == 2) = true := by rw [beq_iff_eq]; omega
          have gn2 : (kk == 2) = true := by rw [beq_iff_eq]; omega
          clear h
          as_aux_lemma =>
            have cP := rowcell HLP.out
            have HEND := Lib.hid (endT HFB.out.tt HIV.out.mt hk64 (m := m8) (by omega))
            have HM8 := Lib.hid (HIV.out.mt.drop k m8)
            have HRF := Lib.hid (fun (w8 : World) (h8 : RQ w8 gq w4.heap.size (.slice (some ⟨gr, offr, none⟩) n capr) v L) => refEnd_in h8 (HIV.out.mt.uq HFB.out.tt.ok) k m8 (fun e q hq hqq => by
              have := HIV.out.mt.num HFB.out.tt.ok q hq
              have := hqq.2
              omega) HIV.out.mt.st)
            go_wp2_with fail
            refine HEND.out.mono ?_
            rintro e w8 ⟨rfl, ht8, hc8⟩
            have HF8 := Lib.hid (HFB.out.tab hc8 ht8)
            clear ht8 hc8 cM cP
            go_wp2_with fail
            refine (HRF.out w8 HF8.out.rq).mono ?_
            rintro e w9 ⟨rfl, ⟨v9, hr9⟩, hc9⟩
            have HF9 := Lib.hid (HF8.out.ref hc9 hr9)
            clear hr9 hc9
            go_wp2_with fail
            go_meet
            exact ⟨_, _, _, _, _, _, rfl, rfl, HF9.out, ⟨HM8.out, Nat.le_trans (List.length_filter_le _ _) (by omega), by omega, by omega⟩⟩
        · have g0 : ((kk : Int) == 0) = false := by rw [beq_eq_false_iff_ne]; omega
          have gn0 : (kk == 0) = false := by rw [beq_eq_false_iff_ne]; omega
          have g1 : ((kk : Int) == 1) = false := by rw [beq_eq_false_iff_ne]; omega
          have gn1 : (kk == 1) = false := by rw [beq_eq_false_iff_ne]; omega
          have g2 : ((kk : Int) == 2) = false := by rw [beq_eq_false_iff_ne]; omega
          have gn2 : (kk == 2) = false := by rw [beq_eq_false_iff_ne]; omega
          have g3 : ((kk : Int) == 3) = true := by rw [beq_iff_eq]; omega
          have gn3 : (kk == 3) = true := by rw [beq_iff_eq]; omega
          clear h
          as_aux_lemma =>
            have cP := rowcell HLP.out
            obtain ⟨x6, hx6⟩ : ∃ x, x = to_ % 6 := ⟨_, rfl⟩
            have hx65 : x6 < 6 := by omega
            have e1 : (to_ : Int) % 6 = x6 := by omega
            have e2 : (to_ : Int).tmod 6 = x6 := by rw [Int.tmod_eq_emod_of_nonneg (by omega)]; exact e1
            have e3 : IntKind.u32.wrap (x6 : Int) = x6 := by simp [IntKind.wrap, IntKind.bits, IntKind.signed]; omega
            have e4 : IntKind.u64.wrap (x6 : Int) = x6 := by simp [IntKind.wrap, IntKind.bits, IntKind.signed]; omega
            obtain ⟨u, hu⟩ : ∃ u, u = now + x6 := ⟨_, rfl⟩
            have e5 : IntKind.u64.wrap ((now : Int) + (x6 : Int)) = u := by simp [IntKind.wrap, IntKind.bits, IntKind.signed]; omega
            have hun := turnUntil_in HFB.out.tu x6 (by omega) (by omega)
            rw [Nat.min_eq_left (by omega), ← hu] at hun
            have HUN := Lib.hid hun
            have hsl := taskSleep_in HFB.out.tt k m8 hk64 (by omega) ⟨2, false, 0, 0, 0⟩ ⟨by decide, by decide, by decide, by decide⟩ u
            unfold rsA at hsl
            have HSL := Lib.hid hsl
            have HM8 := Lib.hid (HIV.out.mt.sleep HFB.out.tt.ok k m8 u)
            have HRF := Lib.hid (fun (w8 : World) (h8 : RQ w8 gq w4.heap.size (.slice (some ⟨gr, offr, none⟩) n capr) v L) => refSleep_in h8 (HIV.out.mt.uq HFB.out.tt.ok) k m8 u)
            clear hx6 hu hun hsl
            go_wp2_with fail
            refine HUN.out.mono ?_
            rintro e w8 ⟨rfl, rfl⟩
            go_wp2_with fail
            refine HSL.out.mono ?_
            rintro e w8 ⟨rfl, ht8, hc8⟩
            have HF8 := Lib.hid (HFB.out.tab hc8 ht8)
            clear ht8 hc8 cM cP
            go_wp2_with fail
            refine (HRF.out w8 HF8.out.rq).mono ?_
            rintro e w9 ⟨rfl, hr9, hc9⟩
            have HF9 := Lib.hid (HF8.out.ref hc9 hr9)
            clear hr9 hc9
            go_wp2_with fail
            go_meet
            exact ⟨_, _, _, _, _, _, rfl, rfl, HF9.out, ⟨HM8.out, by rw [List.length_map]; omega, by omega, by omega⟩⟩
        · have g0 : ((kk : Int) == 0) = false := by rw [beq_eq_false_iff_ne]; omega
          have gn0 : (kk == 0) = false := by rw [beq_eq_false_iff_ne]; omega
          have g1 : ((kk : Int) == 1) = false := by rw [beq_eq_false_iff_ne]; omega
          have gn1 : (kk == 1) = false := by rw [beq_eq_false_iff_ne]; omega
          have g2 : ((kk : Int) == 2) = false := by rw [beq_eq_false_iff_ne]; omega
          have gn2 : (kk == 2) = false := by rw [beq_eq_false_iff_ne]; omega
          have g3 : ((kk : Int) == 3) = false := by rw [beq_eq_false_iff_ne]; omega
          have gn3 : (kk == 3) = false := by rw [beq_eq_false_iff_ne]; omega
          have g4 : ((kk : Int) == 4) = true := by rw [beq_iff_eq]; omega
          have gn4 : (kk == 4) = true := by rw [beq_iff_eq]; omega
          clear h
          as_aux_lemma =>
            have e1 : IntKind.u64.wrap ((now : Int) + 1) = ((now + 1 : Nat) : Int) := by simp [IntKind.wrap, IntKind.bits, IntKind.signed]; omega
            have htk := turnTick_in HP.out HFB.out.bl HFB.out.tt HFB.out.tu HFB.out.b1 HFB.out.b0 HFB.out.b3 HFB.out.b4 HFB.out.b5 (by rw [← HNN.out]; exact hn64) (by omega)
            rw [← HNN.out] at htk
            have hct := HIV.out.mt.count (dueQ (now + 1)) (tickB (now + 1)) (fun t => rfl)
            obtain ⟨c, hc⟩ : ∃ c, c = cntT (tickB (now + 1)) T n := ⟨_, rfl⟩
            rw [← hc] at htk hct
            have HTK := Lib.hid htk
            have HM8 := Lib.hid (HIV.out.mt.tick HFB.out.tt.ok HIV.out.mt.far (now + 1))
            have HRF := Lib.hid (fun (w8 : World) (h8 : RQ w8 gq w4.heap.size (.slice (some ⟨gr, offr, none⟩) n capr) v L) => refTick_in h8 (now + 1))
            rw [hct] at HRF
            clear htk hct hc
            obtain ⟨now1, hnow1⟩ : ∃ x, x = now + 1 := ⟨_, rfl⟩
            rw [← hnow1] at HTK HM8 HRF e1
            have HNW := Lib.hid hnow1
            clear hnow1
            go_wp2_with fail
            refine HTK.out.mono ?_
            rintro e w8 ⟨rfl, ht8, hu8, hc8⟩
            have HF8 := Lib.hid (HFB.out.tick hc8 ht8 hu8)
            clear ht8 hu8 hc8 cM
            go_wp2_with fail
            refine (HRF.out w8 HF8.out.rq).mono ?_
            rintro e w9 ⟨rfl, hr9, hc9⟩
            have HF9 := Lib.hid (HF8.out.ref hc9 hr9)
            clear hr9 hc9
            go_wp2_with fail
            refine (turnNow_in HF9.out.tu).mono ?_
            rintro e w10 ⟨rfl, rfl⟩
            go_wp2_with fail
            go_meet
            exact ⟨_, _, now1, _, _, _, rfl, rfl, HF9.out, ⟨HM8.out, by rw [List.length_map]; omega, by have := HNW.out; omega, by omega⟩⟩
        · have g0 : ((kk : Int) == 0) = false := by rw [beq_eq_false_iff_ne]; omega
          have gn0 : (kk == 0) = false := by rw [beq_eq_false_iff_ne]; omega
          have g1 : ((kk : Int) == 1) = false := by rw [beq_eq_false_iff_ne]; omega
          have gn1 : (kk == 1) = false := by rw [beq_eq_false_iff_ne]; omega
          have g2 : ((kk : Int) == 2) = false := by rw [beq_eq_false_iff_ne]; omega
          have gn2 : (kk == 2) = false := by rw [beq_eq_false_iff_ne]; omega
          have g3 : ((kk : Int) == 3) = false := by rw [beq_eq_false_iff_ne]; omega
          have gn3 : (kk == 3) = false := by rw [beq_eq_false_iff_ne]; omega
          have g4 : ((kk : Int) == 4) = false := by rw [beq_eq_false_iff_ne]; omega
          have gn4 : (kk == 4) = false := by rw [beq_eq_false_iff_ne]; omega
          have g5 : ((kk : Int) == 5) = true := by rw [beq_iff_eq]; omega
          have gn5 : (kk == 5) = true := by rw [beq_iff_eq]; omega
          clear h
          as_aux_lemma =>
            obtain ⟨s8, hs8⟩ : ∃ x, x = slots % n := ⟨_, rfl⟩
            have e1 : (slots : Int) % (n : Int) = s8 := by rw [hs8]; omega
            have e2 : (slots : Int).tmod (n : Int) = s8 := by rw [Int.tmod_eq_emod_of_nonneg (by omega)]; exact e1
            have e3 : IntKind.i64.wrap ((slots : Int) + 1) = ((slots + 1 : Nat) : Int) := by simp [IntKind.wrap, IntKind.bits, IntKind.signed]; omega
            have HFD := Lib.hid (HFB.out.keep (drewb wB))
            have hsl := turnSlot_in HP.out HFD.out.bl (by rw [← HNN.out]; exact hr1) (by rw [← HNN.out]; exact hn64) HFD.out.tu (by omega)
            rw [← HNN.out, ← hs8] at hsl
            have HSL := Lib.hid hsl
            have fnn : ¬ n = 0 := by omega
            clear hs8 hsl
            go_upto_region 39 with fail
            refine wp_region_held (S := fun _ => True) (by kernel_rfl) ?_
            change wpAnyH _ _ _ _ _ _ _ _ (World.drew _)
            refine takeH 0 (.pointer (some ⟨gt, 0, none⟩)) (some 168) rfl rfl (by kernel_rfl) (by kernel_rfl) (by kernel_rfl) (fun _ _ _ h => h) (.inl ⟨by kernel_rfl, fun w _ => by go_simp⟩) trivial ?_
            refine takeH 2 (.int .i64 slots) (some 170) rfl rfl (by kernel_rfl) (by kernel_rfl) (by kernel_rfl) (fun _ _ _ h => h) (.inl ⟨by kernel_rfl, fun w _ => by go_simp⟩) trivial ?_
            refine takeH 3 (.slice (some ⟨gr, offr, none⟩) n capr) (some 171) rfl rfl (by kernel_rfl) (by kernel_rfl) (by kernel_rfl) (fun _ _ _ h => h) (.inl ⟨by kernel_rfl, fun w _ => by go_simp⟩) trivial ?_
            refine takeH 4 (.int .i64 n) (some 172) rfl rfl (by kernel_rfl) (by kernel_rfl) (by kernel_rfl) (fun _ _ _ h => h) (.inl ⟨by kernel_rfl, fun w _ => by go_simp⟩) trivial ?_
            go_simp
            refine takeH 5 (.int .i64 s8) (some 173) rfl rfl (by kernel_rfl) (by kernel_rfl) (by kernel_rfl) (fun _ _ _ h => h) (.inl ⟨by kernel_rfl, fun w _ => by go_simp⟩) trivial ?_
            go_simp
            refine callH 1 rfl (by kernel_rfl) (by kernel_rfl) (some 169) rfl 27 #[.pointer (some ⟨gt, 0, none⟩)] ?hrun (HSL.out.mono ?_)
            case hrun => go_simp
            rintro e w8 ⟨he, hu8, hc8⟩
            refine ⟨_, he, trivial, ?_⟩
            go_simp
            refine takeH 6 (.bool false) (some 174) rfl rfl (by kernel_rfl) (by kernel_rfl) (by kernel_rfl) (fun _ _ _ h => h) (.inl ⟨by kernel_rfl, fun w _ => by go_simp⟩) trivial ?_
            refine wpAnyH_done (by kernel_rfl) ?_ _
            go_simp
            have HF8 := Lib.hid (HFD.out.turn hc8 hu8 (fun _ _ => rfl))
            clear hu8 hc8 cM
            go_wp2_with fail
            go_meet
            exact ⟨_, _, _, slots + 1, _, _, rfl, rfl, HF8.out, ⟨HIV.out.mt, by omega, by omega, by omega⟩⟩
        · have g0 : ((kk : Int) == 0) = false := by rw [beq_eq_false_iff_ne]; omega
          have gn0 : (kk == 0) = false := by rw [beq_eq_false_iff_ne]; omega
          have g1 : ((kk : Int) == 1) = false := by rw [beq_eq_false_iff_ne]; omega
          have gn1 : (kk == 1) = false := by rw [beq_eq_false_iff_ne]; omega
          have g2 : ((kk : Int) == 2) = false := by rw [beq_eq_false_iff_ne]; omega
          have gn2 : (kk == 2) = false := by rw [beq_eq_false_iff_ne]; omega
          have g3 : ((kk : Int) == 3) = false := by rw [beq_eq_false_iff_ne]; omega
          have gn3 : (kk == 3) = false := by rw [beq_eq_false_iff_ne]; omega
          have g4 : ((kk : Int) == 4) = false := by rw [beq_eq_false_iff_ne]; omega
          have gn4 : (kk == 4) = false := by rw [beq_eq_false_iff_ne]; omega
          have g5 : ((kk : Int) == 5) = false := by rw [beq_eq_false_iff_ne]; omega
          have gn5 : (kk == 5) = false := by rw [beq_eq_false_iff_ne]; omega
          clear h
          as_aux_lemma =>
            obtain ⟨lk, hlk⟩ : ∃ x, x = last k := ⟨_, rfl⟩
            have HLK := Lib.hid hlk
            have HFD := Lib.hid (HFB.out.keep (drewb wB))
            have hS0 : (World.drew wB).cell? ⟨gl, k, none⟩ = some (.int .i64 lk) := by
              have := HFD.out.ln.cell (i := k) hkn
              rw [this, hlk]
              rfl
            have hpk := turnPick_in HFD.out.tt HFD.out.tu k hk64
            unfold PickP pickLast at hpk
            have hrf := fun (w8 : World) (h8 : RQ w8 gq w4.heap.size (.slice (some ⟨gr, offr, none⟩) n capr) v L) => refPick_in h8 (HIV.out.mt.num HFB.out.tt.ok) k lk
            have HRF := Lib.hid hrf
            have hpv := fun x y (hx : MinP (rdyQ k) L x) (hy : MinP (nxtQ k lk) L y) => (show pickV x y = _ from HIV.out.mt.pick HFB.out.tt.ok k lk hx hy)
            rw [← hlk] at hpk
            clear hrf hlk
            cases hp : pickL (T k) lk with
            | none =>
              rw [hp] at hpk
              rw [hp] at hpv
              have HPV := Lib.hid (show ∀ x y, MinP (rdyQ k) L x → MinP (nxtQ k lk) L y → pickV x y = 0 from hpv)
              have HPK := Lib.hid (show Calls Try.prog 28 #[.pointer (some ⟨gt, 0, none⟩), .pointer (some ⟨g, 0, none⟩), .int .i64 k] (World.drew wB) fun e w' => e = .returned (.pointer none) ∧ TT w4.heap.size w' g gm (some ⟨cg, 0, none⟩) T ∧ TU w' gt (some ⟨cg, 0, none⟩) last now slots ∧ Chg (fun k => k = gt) (World.drew wB) w' from hpk)
              clear hpk hpv hp
              go_upto_region 16 with fail
              refine wp_region_held (S := fun w' => w'.cell? ⟨gl, k, none⟩ = some (.int .i64 lk)) (by kernel_rfl) ?_
              change wpAnyH _ _ _ _ _ _ _ _ (World.drew _)
              refine takeH 0 (.pointer (some ⟨gt, 0, none⟩)) (some 68) rfl rfl (by kernel_rfl) (by kernel_rfl) (by kernel_rfl) (fun _ _ _ h => h) (.inl ⟨by kernel_rfl, fun w _ => by go_simp⟩) hS0 ?_
              refine takeH 1 (.pointer (some ⟨g, 0, none⟩)) (some 69) rfl rfl (by kernel_rfl) (by kernel_rfl) (by kernel_rfl) (fun _ _ _ h => h) (.inl ⟨by kernel_rfl, fun w _ => by go_simp⟩) hS0 ?_
              refine takeH 2 (.int .i64 k) (some 70) rfl rfl (by kernel_rfl) (by kernel_rfl) (by kernel_rfl) (fun _ _ _ h => h) (.inl ⟨by kernel_rfl, fun w _ => by go_simp⟩) hS0 ?_
              go_simp
              refine takeH 4 (.pointer (some ⟨gq, 0, none⟩)) (some 72) rfl rfl (by kernel_rfl) (by kernel_rfl) (by kernel_rfl) (fun _ _ _ h => h) (.inl ⟨by kernel_rfl, fun w _ => by go_simp⟩) hS0 ?_
              refine takeH 5 (.int .i64 k) (some 73) rfl rfl (by kernel_rfl) (by kernel_rfl) (by kernel_rfl) (fun _ _ _ h => h) (.inl ⟨by kernel_rfl, fun w _ => by go_simp⟩) hS0 ?_
              refine takeH 6 (.slice (some ⟨gl, 0, none⟩) n n) (some 74) rfl rfl (by kernel_rfl) (by kernel_rfl) (by kernel_rfl) (fun _ _ _ h => h) (.inl ⟨by kernel_rfl, fun w _ => by go_simp⟩) hS0 ?_
              refine takeH 7 (.int .i64 k) (some 75) rfl rfl (by kernel_rfl) (by kernel_rfl) (by kernel_rfl) (fun _ _ _ h => h) (.inl ⟨by kernel_rfl, fun w _ => by go_simp⟩) hS0 ?_
              go_simp
              refine takeH 8 (.pointer (some ⟨gl, k, none⟩)) (some 76) rfl rfl (by kernel_rfl) (by kernel_rfl) (by kernel_rfl) (fun _ _ _ h => h) (.inl ⟨by kernel_rfl, fun w _ => by go_simp⟩) hS0 ?_
              refine takeH 9 (.int .i64 lk) (some 77) rfl rfl (by kernel_rfl) (by kernel_rfl) (by kernel_rfl) (fun _ _ _ h => h) (.inl ⟨by kernel_rfl, fun w' hw => by have hc : w'.cell? ⟨gl, k, none⟩ = some (.int .i64 lk) := hw; go_simp⟩) hS0 ?_
              go_simp
              refine callH 3 rfl (by kernel_rfl) (by kernel_rfl) (some 71) rfl 28 #[.pointer (some ⟨gt, 0, none⟩), .pointer (some ⟨g, 0, none⟩), .int .i64 k] ?hrun (HPK.out.mono ?_)
              case hrun => go_simp
              rintro e w8 ⟨he, ht8, hu8, hc8⟩
              have HF8 := Lib.hid (HFD.out.turn hc8 hu8 (fun _ _ => rfl))
              have hS8 : w8.cell? ⟨gl, k, none⟩ = some (.int .i64 lk) := by
                have := HF8.out.ln.cell (i := k) hkn
                rw [this, HLK.out]
                rfl
              refine ⟨_, he, hS8, ?_⟩
              go_simp
              refine callH 10 rfl (by kernel_rfl) (by kernel_rfl) (some 78) rfl 29 #[.pointer (some ⟨gq, 0, none⟩), .int .i64 k, .int .i64 lk] ?hrun ((HRF.out w8 (HF8.out.rq)).mono ?_)
              case hrun => go_simp
              rintro e w9 ⟨⟨x, y, hx, hy, he⟩, hb9⟩
              have hz := HPV.out x y hx hy
              rw [hz] at he
              have HL9 := Lib.hid (HF8.out.ln.of_block (hb9.block gl HF8.out.ln.lt))
              have hS9 : w9.cell? ⟨gl, k, none⟩ = some (.int .i64 lk) := by
                have := HL9.out.cell (i := k) hkn
                rw [this, HLK.out]
                rfl
              refine ⟨_, he, hS9, ?_⟩
              go_simp
              refine takeH 11 (.pointer none) (some 20) rfl rfl (by kernel_rfl) (by kernel_rfl) (by kernel_rfl) (fun _ _ _ h => h) (.inl ⟨by kernel_rfl, fun w _ => by go_simp⟩) hS9 ?_
              refine takeH 12 (.int .i64 0) (some 21) rfl rfl (by kernel_rfl) (by kernel_rfl) (by kernel_rfl) (fun _ _ _ h => h) (.inl ⟨by kernel_rfl, fun w _ => by go_simp⟩) hS9 ?_
              refine wpAnyH_done (by kernel_rfl) ?_ _
              go_simp
              have HF9 := Lib.hid (HF8.out.keep hb9)
              clear hS0 hS8 hS9 hx hy hz hb9 ht8 hu8 hc8 cM he
              go_wp2_with fail
              go_meet
              exact ⟨_, _, _, _, _, _, rfl, rfl, HF9.out, ⟨HIV.out.mt, by omega, by omega, by omega⟩⟩
            | some p =>
              rw [hp] at hpk
              rw [hp] at hpv
              have hpm := pick_mem hp
              have hpn := HFB.out.tt.ok.num _ _ hpm.1
              have HMEM := Lib.hid hpm.1
              obtain ⟨pn, hpn0⟩ : ∃ x, x = p.pr.num := ⟨_, rfl⟩
              obtain ⟨pb, hpb0⟩ : ∃ x, x = p.blk := ⟨_, rfl⟩
              have HPV := Lib.hid (show ∀ x y, MinP (rdyQ k) L x → MinP (nxtQ k lk) L y → pickV x y = pn from by rw [hpn0]; exact hpv)
              have HPK := Lib.hid (show Calls Try.prog 28 #[.pointer (some ⟨gt, 0, none⟩), .pointer (some ⟨g, 0, none⟩), .int .i64 k] (World.drew wB) fun e w' => e = .returned (.pointer (some ⟨pb, 0, none⟩)) ∧ TT w4.heap.size w' g gm (some ⟨cg, 0, none⟩) T ∧ TU w' gt (some ⟨cg, 0, none⟩) (setN last k pn) now slots ∧ Chg (fun k => k = gt) (World.drew wB) w' from by rw [hpn0, hpb0]; exact hpk)
              rw [← hpn0] at hpn
              have HPN := Lib.hid hpn0
              have HPB := Lib.hid hpb0
              clear hpk hpv hp hpm hpn0 hpb0
              have e1 : IntKind.i64.wrap (pn : Int) = pn := by simp [IntKind.wrap, IntKind.bits, IntKind.signed]; omega
              have e2 : (0 : Int) < pn := by omega
              have e3 : 0 < pn := by omega
              go_upto_region 16 with fail
              refine wp_region_held (S := fun w' => w'.cell? ⟨gl, k, none⟩ = some (.int .i64 lk)) (by kernel_rfl) ?_
              change wpAnyH _ _ _ _ _ _ _ _ (World.drew _)
              refine takeH 0 (.pointer (some ⟨gt, 0, none⟩)) (some 68) rfl rfl (by kernel_rfl) (by kernel_rfl) (by kernel_rfl) (fun _ _ _ h => h) (.inl ⟨by kernel_rfl, fun w _ => by go_simp⟩) hS0 ?_
              refine takeH 1 (.pointer (some ⟨g, 0, none⟩)) (some 69) rfl rfl (by kernel_rfl) (by kernel_rfl) (by kernel_rfl) (fun _ _ _ h => h) (.inl ⟨by kernel_rfl, fun w _ => by go_simp⟩) hS0 ?_
              refine takeH 2 (.int .i64 k) (some 70) rfl rfl (by kernel_rfl) (by kernel_rfl) (by kernel_rfl) (fun _ _ _ h => h) (.inl ⟨by kernel_rfl, fun w _ => by go_simp⟩) hS0 ?_
              go_simp
              refine takeH 4 (.pointer (some ⟨gq, 0, none⟩)) (some 72) rfl rfl (by kernel_rfl) (by kernel_rfl) (by kernel_rfl) (fun _ _ _ h => h) (.inl ⟨by kernel_rfl, fun w _ => by go_simp⟩) hS0 ?_
              refine takeH 5 (.int .i64 k) (some 73) rfl rfl (by kernel_rfl) (by kernel_rfl) (by kernel_rfl) (fun _ _ _ h => h) (.inl ⟨by kernel_rfl, fun w _ => by go_simp⟩) hS0 ?_
              refine takeH 6 (.slice (some ⟨gl, 0, none⟩) n n) (some 74) rfl rfl (by kernel_rfl) (by kernel_rfl) (by kernel_rfl) (fun _ _ _ h => h) (.inl ⟨by kernel_rfl, fun w _ => by go_simp⟩) hS0 ?_
              refine takeH 7 (.int .i64 k) (some 75) rfl rfl (by kernel_rfl) (by kernel_rfl) (by kernel_rfl) (fun _ _ _ h => h) (.inl ⟨by kernel_rfl, fun w _ => by go_simp⟩) hS0 ?_
              go_simp
              refine takeH 8 (.pointer (some ⟨gl, k, none⟩)) (some 76) rfl rfl (by kernel_rfl) (by kernel_rfl) (by kernel_rfl) (fun _ _ _ h => h) (.inl ⟨by kernel_rfl, fun w _ => by go_simp⟩) hS0 ?_
              refine takeH 9 (.int .i64 lk) (some 77) rfl rfl (by kernel_rfl) (by kernel_rfl) (by kernel_rfl) (fun _ _ _ h => h) (.inl ⟨by kernel_rfl, fun w' hw => by have hc : w'.cell? ⟨gl, k, none⟩ = some (.int .i64 lk) := hw; go_simp⟩) hS0 ?_
              go_simp
              refine callH 3 rfl (by kernel_rfl) (by kernel_rfl) (some 71) rfl 28 #[.pointer (some ⟨gt, 0, none⟩), .pointer (some ⟨g, 0, none⟩), .int .i64 k] ?hrun (HPK.out.mono ?_)
              case hrun => go_simp
              rintro e w8 ⟨he, ht8, hu8, hc8⟩
              have HL8 := Lib.hid (HFD.out.ln.of_block (hc8.block gl HFD.out.ln.lt (fun e => HFD.out.lt e.symm)))
              have hS8 : w8.cell? ⟨gl, k, none⟩ = some (.int .i64 lk) := by
                have := HL8.out.cell (i := k) hkn
                rw [this, HLK.out]
                rfl
              refine ⟨_, he, hS8, ?_⟩
              go_simp
              refine callH 10 rfl (by kernel_rfl) (by kernel_rfl) (some 78) rfl 29 #[.pointer (some ⟨gq, 0, none⟩), .int .i64 k, .int .i64 lk] ?hrun ((HRF.out w8 (HFD.out.rq.chg hc8 (fun j hj e => HFD.out.qSt (e ▸ hj)))).mono ?_)
              case hrun => go_simp
              rintro e w9 ⟨⟨x, y, hx, hy, he⟩, hb9⟩
              have hz := HPV.out x y hx hy
              rw [hz] at he
              have HL9 := Lib.hid (HL8.out.of_block (hb9.block gl HL8.out.lt))
              have hS9 : w9.cell? ⟨gl, k, none⟩ = some (.int .i64 lk) := by
                have := HL9.out.cell (i := k) hkn
                rw [this, HLK.out]
                rfl
              refine ⟨_, he, hS9, ?_⟩
              go_simp
              refine takeH 11 (.pointer (some ⟨pb, 0, none⟩)) (some 20) rfl rfl (by kernel_rfl) (by kernel_rfl) (by kernel_rfl) (fun _ _ _ h => h) (.inl ⟨by kernel_rfl, fun w _ => by go_simp⟩) hS9 ?_
              refine takeH 12 (.int .i64 pn) (some 21) rfl rfl (by kernel_rfl) (by kernel_rfl) (by kernel_rfl) (fun _ _ _ h => h) (.inl ⟨by kernel_rfl, fun w _ => by go_simp⟩) hS9 ?_
              refine wpAnyH_done (by kernel_rfl) ?_ _
              go_simp
              have cL := hS9
              have hrow := ((ht8.keep hb9).pr _ _ HMEM.out)
              have e4 : w9.cell? ⟨pb, 1, none⟩ = some (.int .u16 pn) := by rw [HPN.out, HPB.out]; exact hrow.cell (i := 1) (by omega)
              have cf := HL9.out.frozen
              have HNT := Lib.hid (fun x (hx : x = w9.setCell ⟨gl, k, none⟩ (.int .i64 (pn : Nat))) => HFD.out.note hc8 hu8 hb9 hx)
              clear hS0 hS8 hS9 hx hy hz hb9 ht8 hu8 hc8 cM he hrow
              go_wp2_with fail
              go_meet
              exact ⟨_, _, _, _, _, _, rfl, rfl, HNT.out _ rfl, ⟨HIV.out.mt, by omega, by omega, by omega⟩⟩
      case rest =>
        obtain ⟨T2, last2, now2, slots2, L2, v2, rfl, rfl, hpw, hiv⟩ := hcut
        have HPW2 := Lib.hid hpw
        have HIV2 := Lib.hid hiv
        clear hpw hiv
        go_at_K
        go_step
        go_wp2_with fail
        refine (same_in HPW2.out.tt HPW2.out.rq HIV2.out.mt hn64).mono ?_
        rintro e w9 ⟨rfl, hb9⟩
        have HF9 := Lib.hid (HPW2.out.keep hb9)
        clear hb9
        go_wp2_with fail
        go_roundw
        case rel => exact ⟨i + 1, T2, last2, now2, slots2, L2, v2, by omega, by omega, by go_num, rfl, rfl, HF9.out, HIV2.out⟩
        case measure => simp [intOf]; omega
    · obtain rfl : i = na := by omega
      go_wp2_with fail
      go_ret
      exact ⟨rfl, HB3.out.trans (HFR.out.bl.mono HB3.out.size)⟩
end Go.Proofs.Ytpjfnmmgfmfcfaa
