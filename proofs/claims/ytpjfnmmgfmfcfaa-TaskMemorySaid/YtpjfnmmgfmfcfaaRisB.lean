/- Processes: TaskMemory. -/
import Derived.Test.YtpjfnmmgfmfcfaaRisA
import Derived.Test.YtpjfnmmgfmfcfaaTskW
import Derived.Test.YtpjfnmmgfmfcfaaSpcL
set_option linter.unusedVariables false
set_option linter.unusedSimpArgs false
namespace Go.Proofs.Ytpjfnmmgfmfcfaa
open Go.RowKit
open Go.Maps (Keyed)

def regF (r : Nat → Nat) (i : Nat) : Value := .int .u32 (r i)
/-- An argument that is sixteen registers. -/
theorem Arg.regs16 {W : World} {v : Value} (o : Arg Try.prog W 23 v) : ∃ r : Nat → Nat, (∀ i, r i ≤ 4294967295) ∧ v = .agg (rowArr 16 (regF r)) := by
  obtain ⟨cs, rfl, _, n, hn⟩ := Arg.array Try.underlying23 o
  obtain ⟨zs, h1, h2, h3⟩ := Okay.ints Try.underlying23 Try.underlying22 (by kernel_rfl) (by kernel_rfl) hn
  have hw : ∀ i, 0 ≤ zs.getD i 0 ∧ zs.getD i 0 ≤ 4294967295 := fun i => by
    rw [List.getD_eq_getElem?_getD]
    by_cases hi : i < zs.length
    · rw [List.getElem?_eq_getElem hi]
      exact wf_u32 (h3 _ (List.getElem_mem hi))
    · rw [List.getElem?_eq_none (by omega)]
      simp
  refine ⟨fun i => (zs.getD i 0).toNat, fun i => by have := hw i; show (zs.getD i 0).toNat ≤ 4294967295; omega, ?_⟩
  congr 1
  apply Array.ext'
  rw [h2]
  apply List.ext_getElem (by simp [h1, rowArr])
  intro i hi1 hi2
  have hw' := hw i
  have hi : i < zs.length := by simpa using hi1
  simp only [List.getElem_map, rowArr, List.getElem_range, regF]
  congr 1
  rw [List.getD_eq_getElem?_getD, List.getElem?_eq_getElem hi] at hw' ⊢
  simp only [Option.getD_some] at hw' ⊢
  omega
theorem eqRegs (r : Nat → Nat) (hr : ∀ i, r i ≤ 4294967295) (w : World) : (Op.equalIn 10000 23 (.agg (rowArr 16 (regF r))) (.agg (rowArr 16 (regF r)))).run Try.prog w = .ok true w := by
  have e : rowArr 16 (regF r) = (((List.range 16).map fun i => (r i : Int)).map (Value.int .u32)).toArray := by
    unfold rowArr
    rw [List.map_map]
    rfl
  have hw : ∀ z ∈ ((List.range 16).map fun i => (r i : Int)), (Lit.int .u32 z).wf = true := fun z hz => by
    obtain ⟨i, _, rfl⟩ := List.mem_map.mp hz
    exact u32_wf (by have := hr i; omega)
  rw [e, equal_ints (P := Try.prog) (w := w) Try.underlying23 (by kernel_rfl) (by kernel_rfl) (by kernel_rfl) (by simp) (by simp) hw hw]
  simp
theorem moreF_is : ∀ (m j : Nat), j < m → (moreF (fun _ => none) 0 0 m (0, 0 + j)).isSome = true
  | 0, j, h => by omega
  | m + 1, j, h => by
    show (putF (moreF (fun _ => none) 0 0 m) (0, 0 + m) (fun _ => 0) (0, 0 + j)).isSome = true
    unfold putF
    by_cases e : j = m
    · subst e; rw [if_pos rfl]; rfl
    · rw [if_neg (fun h2 => e (by injection h2 with _ h2; omega))]
      exact moreF_is m j (by omega)
theorem more_ok (q : Nat) (hq : q ≤ 32) : SpOk (moreF (fun _ => none) 0 0 q) (morePs 0 0 q) where
  p1 := fun p hp => by
    obtain ⟨j, hj, rfl⟩ := List.mem_map.mp hp
    rw [List.mem_range] at hj
    exact ⟨by show (0 : Nat) ≤ 255; omega, by show 0 + j ≤ 65535; omega⟩
  is := fun p hp => by
    obtain ⟨j, hj, rfl⟩ := List.mem_map.mp hp
    rw [List.mem_range] at hj
    exact moreF_is q j hj
  nd := by
    unfold morePs
    exact List.Pairwise.map _ (fun a b h e => h (by injection e with _ e; omega)) List.nodup_range
  len := by rw [morePs_len]; exact hq
theorem space_info : ∃ j, Try.prog.info? 113 = some j ∧ j.size ≠ 0 := by
  have : (Try.prog.info? 113).map (·.size) = some 3 := by kernel_rfl
  obtain ⟨j, h1, h2⟩ := Option.map_eq_some_iff.1 this
  exact ⟨j, h1, by omega⟩
theorem eqlSpace_same (b : Nat) (w : World) : (binOp .eql 41 (.pointer (some ⟨b, 0, none⟩)) (.pointer (some ⟨b, 0, none⟩))).run Try.prog w = .ok (.bool true) w := by
  obtain ⟨j, hj, _⟩ := space_info
  exact run_eql_ptr_same w _ Try.underlying41 hj
theorem eqSpace_same (b : Nat) (w : World) : (Op.equalIn 10000 41 (.pointer (some ⟨b, 0, none⟩)) (.pointer (some ⟨b, 0, none⟩))).run Try.prog w = .ok true w := by
  obtain ⟨j, hj, _⟩ := space_info
  have h : ∀ d : Nat, (Op.equalIn (d + 1) 41 (.pointer (some ⟨b, 0, none⟩)) (.pointer (some ⟨b, 0, none⟩))).run Try.prog w = .ok true w := fun d => by
    simp [Op.equalIn, run_underlying Try.underlying41, sizeOf, typeInfo, hj, run_sameAddr_same]
  exact h 9999
theorem eqPid (p q : Nat × Nat) (hp1 : p.1 ≤ 255) (hp2 : p.2 ≤ 65535) (hq1 : q.1 ≤ 255) (hq2 : q.2 ≤ 65535) (w : World) :
    (Op.equalIn 10000 45 (.agg #[.int .u8 p.1, .int .u16 p.2]) (.agg #[.int .u8 q.1, .int .u16 q.2])).run Try.prog w = .ok (decide (p = q)) w := by
  have z1 : Try.prog.cellsOf 45 = 2 := by kernel_rfl
  have z2 : Try.prog.cellsOf 5 = 1 := by kernel_rfl
  have z3 : Try.prog.cellsOf 40 = 1 := by kernel_rfl
  have key : ∀ p : Nat × Nat, p.1 ≤ 255 → p.2 ≤ 65535 → Try.prog.keyLits 2 45 [.int .u8 p.1, .int .u16 p.2] = some [.int .u8 p.1, .int .u16 p.2] := by
    intro p h1 h2
    have e8 : Try.prog.keyLits 1 5 [.int .u8 (p.1 : Int)] = some [.int .u8 p.1] := by simp [Program.keyLits, Try.underlying5, u8_wf (show 0 ≤ (p.1 : Int) ∧ (p.1 : Int) ≤ 255 by omega)]
    have e16 : Try.prog.keyLits 1 40 [.int .u16 (p.2 : Int)] = some [.int .u16 p.2] := by simp [Program.keyLits, Try.underlying40, u16_wf (show 0 ≤ (p.2 : Int) ∧ (p.2 : Int) ≤ 65535 by omega)]
    unfold Program.keyLits
    simp [Try.underlying45, z1, z2, z3, e8, e16]
  have formed : ∀ p : Nat × Nat, (Value.agg #[.int .u8 (p.1 : Int), .int .u16 (p.2 : Int)]).formed Try.prog 45 = true := fun p => by
    simp [Value.formed, Try.underlying45, z1]
  exact equal_key 2 (by omega) (by kernel_rfl) (formed p) (formed q) (key p hp1 hp2) (key q hq1 hq2) (by
    obtain ⟨a, b⟩ := p
    obtain ⟨c, d⟩ := q
    simp
    omega)
theorem eqPid11 (w : World) : (Op.equalIn 10000 45 (.agg #[.int .u8 1, .int .u16 1]) (.agg #[.int .u8 1, .int .u16 1])).run Try.prog w = .ok true w := by
  have h := eqPid (1, 1) (1, 1) (by omega) (by omega) (by omega) (by omega) w
  rwa [decide_eq_true rfl] at h
/-- The space and its pool, as they are. -/
structure SpF (w : World) (base gs g gm : Nat) (ad : Addr) (us : Nat → Nat) (F : Nat × Nat → Option (Nat → Nat)) (ps : List (Nat × Nat)) : Prop where
  sp : ∃ v, SpV w base gs g 0 ps v
  fp : FP w g gm (some ad) us F
theorem SpF.chg {w w' : World} {base gs g gm : Nat} {ad : Addr} {us : Nat → Nat} {F : Nat × Nat → Option (Nat → Nat)} {ps : List (Nat × Nat)} {S : Nat → Prop} (h : SpF w base gs g gm ad us F ps) (c : Chg S w w') (hg : ¬ S g) (hm : ¬ S gm) (hs : ∀ k, base ≤ k → ¬ S k) : SpF w' base gs g gm ad us F ps := by
  obtain ⟨v, hv⟩ := h.sp
  exact ⟨⟨v, hv.row.of_block (c.block _ hv.row.lt (hs _ hv.bs)), own_keep hv.ov (fun k hk => by
    obtain ⟨h1, cur, h2⟩ := own_blk hv.ov hk
    exact c.block k (rowlt h2) (hs k h1)), hv.bs⟩, h.fp.row.of_block (c.block g h.fp.row.lt hg), h.fp.mp.keepAt (c.block gm h.fp.mp.lt hm)⟩
/-- The process that the law makes. -/
def memP (cl : Nat) (tr : Bool) (gs : Nat) (v : Value) (r : Nat → Nat) (at_ : Nat) : PrL := { newP 0 1 0 cl with tr := tr, mem := some ⟨gs, 0, none⟩, cwd := v, rest := fun i => if i = 30 then .int .u32 at_ else if 14 ≤ i ∧ i < 30 then regF r (i - 14) else restZ i }
theorem memP_set (cl : Nat) (tr : Bool) (gs : Nat) (v : Value) (r : Nat → Nat) (at_ : Nat) (j : Nat) : prF (memP cl tr gs v r at_) j = if j = 56 then v else if j = 4 then .bool tr else if j = 30 then .int .u32 at_ else if 14 ≤ j ∧ j < 14 + 16 then regF r (j - 14) else if j = 31 then .pointer (some ⟨gs, 0, none⟩) else prF (newP 0 1 0 cl) j := by
  by_cases h56 : j = 56
  · subst h56; rfl
  by_cases h4 : j = 4
  · subst h4; rfl
  by_cases h30 : j = 30
  · subst h30; rfl
  by_cases h31 : j = 31
  · subst h31; rfl
  by_cases h14 : 14 ≤ j ∧ j < 30
  · have n0 : ¬ j = 0 := by omega
    have n1 : ¬ j = 1 := by omega
    have n2 : ¬ j = 2 := by omega
    have n3 : ¬ j = 3 := by omega
    have n5 : ¬ j = 5 := by omega
    have n6 : ¬ j = 6 := by omega
    have n7 : ¬ j = 7 := by omega
    have n8 : ¬ j = 8 := by omega
    have n9 : ¬ j = 9 := by omega
    have n10 : ¬ j = 10 := by omega
    have n11 : ¬ j = 11 := by omega
    have n12 : ¬ j = 12 := by omega
    have n13 : ¬ j = 13 := by omega
    simp only [prF, memP, h56, h4, h30, h31, n0, n1, n2, n3, n5, n6, n7, n8, n9, n10, n11, n12, n13, if_false, if_pos h14]
  · have h14' : ¬ (14 ≤ j ∧ j < 14 + 16) := h14
    rw [if_neg h56, if_neg h4, if_neg h30, if_neg h14', if_neg h31]
    simp only [prF, memP, newP, h56, h4, h30, h31, h14, if_false]

set_option maxRecDepth 200000 in
set_option maxHeartbeats 32000000 in
theorem taskMemory_walk (W : World) (v0 v1 v2 v3 v4 : Value) (o0 : Arg Try.prog W 5 v0) (o1 : Arg Try.prog W 5 v1) (o2 : Arg Try.prog W 23 v2) (o3 : Arg Try.prog W 22 v3) (o4 : Arg Try.prog W 4 v4) :
    Calls Try.prog 3 #[v0, v1, v2, v3, v4] W fun e w' => e = .returned (.bool true) ∧ Below W.heap.size W w' := by
  obtain ⟨x0, rfl, h1⟩ := Arg.int Try.underlying5 o0
  have b1 := wf_u8 h1
  obtain ⟨n, rfl⟩ : ∃ n : Nat, x0 = n := ⟨x0.toNat, by omega⟩
  obtain ⟨x1, rfl, h2⟩ := Arg.int Try.underlying5 o1
  have b2 := wf_u8 h2
  obtain ⟨m, rfl⟩ : ∃ n : Nat, x1 = n := ⟨x1.toNat, by omega⟩
  obtain ⟨r, hr, rfl⟩ := Arg.regs16 o2
  obtain ⟨x3, rfl, h3⟩ := Arg.int Try.underlying22 o3
  have b3 := wf_u32 h3
  obtain ⟨at_, rfl⟩ : ∃ n : Nat, x3 = n := ⟨x3.toNat, by omega⟩
  obtain ⟨rise, rfl⟩ := Arg.bool Try.underlying4 o4
  clear o0 o1 o2 o3 o4 h1 h2 h3
  have HEQ := Lib.hid (eqRegs r hr)
  obtain ⟨X, hX⟩ : ∃ X, X = rowArr 16 (regF r) := ⟨_, rfl⟩
  rw [← hX]
  have HX := Lib.hid hX
  have HXS := Lib.hid (show X.size = 16 by rw [hX]; exact rowArr_size _ _)
  clear hX hr
  obtain ⟨q, hq⟩ : ∃ q, q = n % 9 := ⟨_, rfl⟩
  have hq8 : q ≤ 8 := by omega
  have f1 : (n : Int) % 9 = q := by omega
  have f2 : (n : Int).tmod 9 = q := by rw [Int.tmod_eq_emod_of_nonneg (by omega)]; omega
  have f3 : IntKind.i64.wrap (q : Int) = q := by rw [IntKind.wrap_i64]; omega
  clear hq
  have hV := fun w => hvX_ok w 9 4 9 4 (by omega) (by omega) (by omega) (by omega)
  unfold hvX at hV
  have hb0 := bnew W (.cells X 23)
  have ha0 := heap_alloc_last W (.cells X 23)
  go_enter Try.func3, Try.ntmps3
  go_wp2_with fail
  obtain ⟨R, hR⟩ : ∃ R, R = W.heap.size := ⟨_, rfl⟩
  rw [← hR] at ha0 ⊢
  generalize W.alloc (.cells X 23) = w0 at *
  have HB0 := Lib.hid hb0
  have HA0 := Lib.hid ha0
  clear hb0 ha0 hR
  refine (taskAwake_in _).mono ?_; rintro e w1 ⟨rfl, hb1⟩
  have HB1 := Lib.hid (bnext HB0.out hb1)
  have HA1 := Lib.hid (bkeep hb1 HA0.out)
  clear hb1
  go_wp2_with fail
  refine (sizeConf_in _ _ (hvS 9 4 9 4) (hV _)).mono ?_; rintro e w3 ⟨hb3, cg, gT, gN, gL, v', m', u', rfl, hcf⟩
  have HP := Lib.hid (hcf.toP (sizeLe _) (sizeOk _))
  have HB3 := Lib.hid (bnext HB1.out hb3)
  have HA3 := Lib.hid (bkeep hb3 HA1.out)
  clear hcf hb3 hV
  go_wp2_with fail
  refine (pool_in _).mono ?_; rintro e w4 ⟨g, gm, ad, wc, rfl, hnp⟩
  have HNP := Lib.hid hnp
  have hb4 : Below w3.heap.size w3 w4 := hnp.b1.trans (hnp.b2.mono hnp.b1.size)
  have HB4 := Lib.hid (bnext HB3.out hb4)
  have HA4 := Lib.hid (bkeep hb4 HA3.out)
  have HP4 := Lib.hid (HP.out.keep hb4)
  clear hnp hb4
  go_wp2_with fail
  refine (taskNew_in _ _).mono ?_; rintro e w5 ⟨tg, tgm, rfl, htg, htgm, ht, hb5⟩
  have HT5 := Lib.hid ht
  have HB5 := Lib.hid (bnext HB4.out hb5)
  have HA5 := Lib.hid (bkeep hb5 HA4.out)
  have HFP5 := Lib.hid (HNP.out.fp.keep hb5)
  have HG := Lib.hid (And.intro htg htgm)
  have H45 := Lib.hid hb5
  clear hb5 ht htg htgm
  go_wp2_with fail
  refine (taskAdd_ok HP4.out H45.out HT5.out HG.out.1 HG.out.2 H45.out.size 0 1 (by rw [hvS_len]; omega) (sizeLe64 _) 0 (by rw [sizePr]; decide) (by simp) (by omega) (by omega) rfl (fun m h1 h2 => by omega)).mono ?_
  rintro e w6 ⟨x, rfl, hx, ht6, hd6⟩
  have hgl : g < w4.heap.size ∧ gm < w4.heap.size := ⟨HNP.out.fp.row.lt, HNP.out.fp.mp.lt⟩
  obtain ⟨cl, hcl⟩ : ∃ cl, cl = (sizeRegs (hvS 9 4 9 4))[0].cl := ⟨_, rfl⟩
  rw [← hcl] at ht6
  have HCL := Lib.hid (show cl = 1 by rw [hcl]; rfl)
  obtain ⟨T6, hT6⟩ : ∃ T6, T6 = setT (fun _ => []) 0 (insE [] ⟨x, newP 0 1 0 cl⟩) := ⟨_, rfl⟩
  have h60 : T6 0 = [⟨x, newP 0 1 0 cl⟩] := by rw [hT6, setT_same]; rfl
  have h61 : T6 1 = [] := by rw [hT6]; rfl
  have ht6' : TT w4.heap.size w6 tg tgm (some ⟨cg, 0, none⟩) T6 := by rw [hT6]; exact ht6
  have hfp6 : FP w6 g gm (some ad) (fun _ => 0) (fun _ => none) := by
    have h1 := HG.out.1
    have h2 := HG.out.2
    exact ⟨HFP5.out.row.of_block (hd6.block g HFP5.out.row.lt (by omega) (by omega)), HFP5.out.mp.keepAt (hd6.block gm HFP5.out.mp.lt (by omega) (by omega))⟩
  have HT6 := Lib.hid ht6'
  have H60 := Lib.hid h60
  have H61 := Lib.hid h61
  have HFP6 := Lib.hid hfp6
  have HGL := Lib.hid hgl
  have HRL := Lib.hid (show R < w4.heap.size from rowlt HA4.out)
  have H46 := Lib.hid (Duo.go H45.out hd6 HG.out.1 HG.out.2 H45.out.size)
  have HX6 := Lib.hid (Nat.le_trans H45.out.size hx)
  clear hd6 ht6 ht6' hT6 h60 h61 hfp6 hx hcl hgl
  go_wp2_with fail
  refine (spaceNew_up HNP.out.cp (HNP.out.b2.trans (H46.out.mono HNP.out.b2.size)) HFP6.out Cont.nil HNP.out.g0 HNP.out.g1 (lab := 0) (by rw [sizeRegs_length]; exact Nat.lt_of_lt_of_le (by omega) (Nat.le_add_left 2 _)) (sizeLe64 _) q (by omega) (by rw [bigS_fr0]; omega) (by rw [bigS_fr0]; omega)).mono ?_
  rintro e w7 ⟨gs, v, rfl, hgs, hfp7, hsp7, hc7⟩
  have hts : ∀ k, tS tg tgm T6 k → w4.heap.size ≤ k := fun k hk => by
    rcases hk with rfl | rfl | ⟨l, u, hu, rfl⟩
    · exact HG.out.1
    · exact HG.out.2
    · exact HT6.out.ok.base _ _ hu
  have HTS := Lib.hid hts
  have HT7 := Lib.hid (HT6.out.chg hc7 (fun k hk hk2 => by
    have h1 := HGL.out
    have h2 := hts k hk2
    rcases hk with rfl | rfl <;> omega))
  have HWC := Lib.hid (show wc.heap.size ≤ g ∧ wc.heap.size ≤ gm ∧ R < wc.heap.size from ⟨HNP.out.g0, HNP.out.g1, Nat.lt_of_lt_of_le (rowlt HA3.out) HNP.out.b1.size⟩)
  have HA7 := Lib.hid (hc7.blk (show w6.heap[R]? = some (.cells X 23 (0, 0)) by rw [H46.out.block R HRL.out]; exact HA4.out) (fun e => by have := HWC.out; rcases e with e | e <;> omega))
  have HFP7 := Lib.hid hfp7
  have HSP7 := Lib.hid hsp7
  have HGS := Lib.hid hgs
  have H47 := Lib.hid (show Below wc.heap.size wc w7 from (HNP.out.b2.trans (H46.out.mono HNP.out.b2.size)).trans (hc7.below (B := wc.heap.size) (fun k hk => by have := HWC.out; rcases hk with rfl | rfl <;> omega) (Nat.le_trans HNP.out.b2.size H46.out.size)))
  have r0 := HT7.out.pr 0 ⟨x, newP 0 1 0 cl⟩ (by rw [H60.out]; simp)
  have HR0 := Lib.hid r0
  clear hts hc7 hfp7 hsp7 hgs r0
  obtain ⟨m2, hm2⟩ : ∃ m2, m2 = m % 2 := ⟨_, rfl⟩
  have g1 : (m : Int) % 2 = m2 := by omega
  have g2 : (m : Int).tmod 2 = m2 := by rw [Int.tmod_eq_emod_of_nonneg (by omega)]; omega
  have g3 : m2 ≤ 1 := by omega
  obtain ⟨tr, htr⟩ : ∃ tr, tr = ((m2 : Int) == 1) := ⟨_, rfl⟩
  have g4 : ((m2 : Int) == 1) = tr := htr.symm
  have g5 : (m2 == 1) = tr := by rw [htr, Bool.eq_iff_iff, beq_iff_eq, beq_iff_eq]; omega
  clear hm2 htr
  go_upto_region 8 with fail
  have hqR : ∀ w', Duo w7.drew w' x x → ∀ j v, X.toList[j]? = some v → w'.cell? ⟨R, 0 + j, none⟩ = some v := fun w' hd j v hj => by
    have hne : R ≠ x := fun e => by
      have h1 := rowIs_arr HR0.out
      rw [← e, HA7.out] at h1
      injection h1 with h1
      injection h1 with _ h1 _
      exact absurd h1 (by decide)
    rw [Nat.zero_add, World.cell?_of_block (w := w7) (a := ⟨R, j, none⟩) (hd.block R (rowlt HA7.out) hne hne), rowcell HA7.out]
    simpa using hj
  have hS0 : Duo w7.drew w7.drew x x := Duo.refl _ _ _
  have r0 : w7.drew.rowIs x 63 57 (prF (newP 0 1 0 cl)) := HR0.out.of_block rfl
  refine wp_region_held (S := fun w' => Duo w7.drew w' x x) (by kernel_rfl) ?_
  change wpAnyH _ _ _ _ _ _ _ _ (World.drew _)
  refine takeH 0 (.pointer (some ⟨x, 0, none⟩)) (some 42) rfl rfl (by kernel_rfl) (by kernel_rfl) (by kernel_rfl) (fun _ _ _ h => h) (.inl ⟨by kernel_rfl, fun w hw => by go_simp⟩) hS0 ?_
  refine takeH 1 (.pointer (some ⟨x, 0, none⟩)) (some 43) rfl rfl (by kernel_rfl) (by kernel_rfl) (by kernel_rfl) (fun _ _ _ h => h) (.inl ⟨by kernel_rfl, fun w hw => by go_simp⟩) hS0 ?_
  refine takeH 2 (.pointer (some ⟨x, 0, none⟩)) (some 44) rfl rfl (by kernel_rfl) (by kernel_rfl) (by kernel_rfl) (fun _ _ _ h => h) (.inl ⟨by kernel_rfl, fun w hw => by go_simp⟩) hS0 ?_
  refine takeH 3 (.pointer (some ⟨x, 0, none⟩)) (some 45) rfl rfl (by kernel_rfl) (by kernel_rfl) (by kernel_rfl) (fun _ _ _ h => h) (.inl ⟨by kernel_rfl, fun w hw => by go_simp⟩) hS0 ?_
  go_simp
  refine takeH 4 (.pointer (some ⟨gs, 0, none⟩)) (some 46) rfl rfl (by kernel_rfl) (by kernel_rfl) (by kernel_rfl) (fun _ _ _ h => h) (.inl ⟨by kernel_rfl, fun w hw => by go_simp⟩) hS0 ?_
  refine takeH 5 (.agg X) (some 47) rfl rfl (by kernel_rfl) (by kernel_rfl) (by kernel_rfl) (fun _ _ _ h => h) (yi_piece (by rfl) 23 (.tmp 7) rfl R 0 (by go_simp) X _ (fun w hw => hqR w hw) Try.underlying23 rfl (by rw [HXS.out]; kernel_rfl)) hS0 ?_
  go_simp
  refine takeH 6 (.int .u32 at_) (some 48) rfl rfl (by kernel_rfl) (by kernel_rfl) (by kernel_rfl) (fun _ _ _ h => h) (.inl ⟨by kernel_rfl, fun w hw => by go_simp⟩) hS0 ?_
  refine takeH 7 (.int .u8 m) (some 49) rfl rfl (by kernel_rfl) (by kernel_rfl) (by kernel_rfl) (fun _ _ _ h => h) (.inl ⟨by kernel_rfl, fun w hw => by go_simp⟩) hS0 ?_
  refine takeH 8 (.int .u8 m2) (some 50) rfl rfl (by kernel_rfl) (by kernel_rfl) (by kernel_rfl) (fun _ _ _ h => h) (.inl ⟨by kernel_rfl, fun w hw => by go_simp⟩) hS0 ?_
  refine takeH 9 (.bool tr) (some 51) rfl rfl (by kernel_rfl) (by kernel_rfl) (by kernel_rfl) (fun _ _ _ h => h) (.inl ⟨by kernel_rfl, fun w hw => by go_simp⟩) hS0 ?_
  go_simp
  refine takeH 10 (.pointer (some ⟨x, 0, none⟩)) (some 52) rfl rfl (by kernel_rfl) (by kernel_rfl) (by kernel_rfl) (fun _ _ _ h => h) (.inl ⟨by kernel_rfl, fun w hw => by go_simp⟩) hS0 ?_
  refine takeH 11 (.pointer (some ⟨x, 31, none⟩)) (some 53) rfl rfl (by kernel_rfl) (by kernel_rfl) (by kernel_rfl) (fun _ _ _ h => h) (.inl ⟨by kernel_rfl, fun w hw => by go_simp⟩) hS0 ?_
  go_simp
  have o1 := one_setCell w7.drew x 31 (.pointer (some ⟨gs, 0, none⟩))
  have r1 := r0.set 31 (.pointer (some ⟨gs, 0, none⟩))
  have s1 : Duo w7.drew (w7.drew.setCell ⟨x, 31, none⟩ (.pointer (some ⟨gs, 0, none⟩))) x x := Duo.of_one o1
  refine runSkipH 12 (w' := w7.drew.setCell ⟨x, 31, none⟩ (.pointer (some ⟨gs, 0, none⟩))) rfl (by kernel_rfl) (by kernel_rfl) rfl (exec_store_cell 41 _ _ rfl x 31 (.pointer (some ⟨gs, 0, none⟩)) (by go_simp) (by go_simp) (by kernel_rfl) (by kernel_rfl) rfl (by rw [r0.cell (i := 31) (by omega)]; rfl) (r0.frozen 31)) s1 ?_
  obtain ⟨wS1, hwS1⟩ : ∃ w', w' = w7.drew.setCell ⟨x, 31, none⟩ (.pointer (some ⟨gs, 0, none⟩)) := ⟨_, rfl⟩
  rw [← hwS1] at r1 o1 s1 ⊢
  clear hwS1
  go_simp
  refine takeH 13 (.pointer (some ⟨x, 0, none⟩)) (some 54) rfl rfl (by kernel_rfl) (by kernel_rfl) (by kernel_rfl) (fun _ _ _ h => h) (.inl ⟨by kernel_rfl, fun w hw => by go_simp⟩) s1 ?_
  refine takeH 14 (.pointer (some ⟨x, 14, none⟩)) (some 55) rfl rfl (by kernel_rfl) (by kernel_rfl) (by kernel_rfl) (fun _ _ _ h => h) (.inl ⟨by kernel_rfl, fun w hw => by go_simp⟩) s1 ?_
  refine takeH 15 (.pointer (some ⟨x, 14, none⟩)) (some 56) rfl rfl (by kernel_rfl) (by kernel_rfl) (by kernel_rfl) (fun _ _ _ h => h) (.inl ⟨by kernel_rfl, fun w hw => by go_simp⟩) s1 ?_
  go_simp
  have o2 := One.setCells X.toList 14 (One.refl wS1 (some x))
  have r2 := rowIs_piece (m := 16) (off := 14) (h := regF r) r1
  rw [← HX.out] at r2
  have s2 : Duo w7.drew (wS1.setCells x 14 X.toList) x x := s1.trans (Duo.of_one o2)
  refine runSkipH 16 (w' := wS1.setCells x 14 X.toList) rfl (by kernel_rfl) (by kernel_rfl) rfl (exec_store_agg 23 _ _ rfl x 14 X (by go_simp) (by go_simp) (by rw [HXS.out]; kernel_rfl) (fun i hi => by rw [HXS.out] at hi; rw [r1.cell (i := 14 + i) (by omega)]; rfl) (fun i hi => r1.frozen _) (fun v hv => by
    rw [HX.out] at hv
    obtain ⟨j, hj⟩ := List.mem_iff_getElem?.1 hv
    obtain ⟨_, rfl⟩ := rowArr_get _ _ _ _ hj
    rfl)) s2 ?_
  obtain ⟨wS2, hwS2⟩ : ∃ w', w' = wS1.setCells x 14 X.toList := ⟨_, rfl⟩
  rw [← hwS2] at r2 o2 s2 ⊢
  clear hwS2
  go_simp
  refine takeH 17 (.pointer (some ⟨x, 0, none⟩)) (some 57) rfl rfl (by kernel_rfl) (by kernel_rfl) (by kernel_rfl) (fun _ _ _ h => h) (.inl ⟨by kernel_rfl, fun w hw => by go_simp⟩) s2 ?_
  refine takeH 18 (.pointer (some ⟨x, 14, none⟩)) (some 58) rfl rfl (by kernel_rfl) (by kernel_rfl) (by kernel_rfl) (fun _ _ _ h => h) (.inl ⟨by kernel_rfl, fun w hw => by go_simp⟩) s2 ?_
  refine takeH 19 (.pointer (some ⟨x, 30, none⟩)) (some 59) rfl rfl (by kernel_rfl) (by kernel_rfl) (by kernel_rfl) (fun _ _ _ h => h) (.inl ⟨by kernel_rfl, fun w hw => by go_simp⟩) s2 ?_
  go_simp
  have o3 := one_setCell wS2 x 30 (.int .u32 at_)
  have r3 := r2.set 30 (.int .u32 at_)
  have s3 : Duo w7.drew (wS2.setCell ⟨x, 30, none⟩ (.int .u32 at_)) x x := s2.trans (Duo.of_one o3)
  refine runSkipH 20 (w' := wS2.setCell ⟨x, 30, none⟩ (.int .u32 at_)) rfl (by kernel_rfl) (by kernel_rfl) rfl (exec_store_cell 22 _ _ rfl x 30 (.int .u32 at_) (by go_simp) (by go_simp) (by kernel_rfl) (by kernel_rfl) rfl (by rw [r2.cell (i := 30) (by omega)]; rfl) (r2.frozen 30)) s3 ?_
  obtain ⟨wS3, hwS3⟩ : ∃ w', w' = wS2.setCell ⟨x, 30, none⟩ (.int .u32 at_) := ⟨_, rfl⟩
  rw [← hwS3] at r3 o3 s3 ⊢
  clear hwS3
  go_simp
  refine takeH 21 (.pointer (some ⟨x, 0, none⟩)) (some 60) rfl rfl (by kernel_rfl) (by kernel_rfl) (by kernel_rfl) (fun _ _ _ h => h) (.inl ⟨by kernel_rfl, fun w hw => by go_simp⟩) s3 ?_
  refine takeH 22 (.pointer (some ⟨x, 4, none⟩)) (some 61) rfl rfl (by kernel_rfl) (by kernel_rfl) (by kernel_rfl) (fun _ _ _ h => h) (.inl ⟨by kernel_rfl, fun w hw => by go_simp⟩) s3 ?_
  go_simp
  have o4 := one_setCell wS3 x 4 (.bool tr)
  have r4 := r3.set 4 (.bool tr)
  have s4 : Duo w7.drew (wS3.setCell ⟨x, 4, none⟩ (.bool tr)) x x := s3.trans (Duo.of_one o4)
  refine runSkipH 23 (w' := wS3.setCell ⟨x, 4, none⟩ (.bool tr)) rfl (by kernel_rfl) (by kernel_rfl) rfl (exec_store_cell 4 _ _ rfl x 4 (.bool tr) (by go_simp) (by go_simp) (by kernel_rfl) (by kernel_rfl) rfl (by rw [r3.cell (i := 4) (by omega)]; rfl) (r3.frozen 4)) s4 ?_
  obtain ⟨wS4, hwS4⟩ : ∃ w', w' = wS3.setCell ⟨x, 4, none⟩ (.bool tr) := ⟨_, rfl⟩
  rw [← hwS4] at r4 o4 s4 ⊢
  clear hwS4
  refine wpAnyH_done (by kernel_rfl) ?_ _
  go_simp
  have HR4 := Lib.hid r4
  have HO4 := Lib.hid (show Duo w7 wS4 x x from (Duo.of_below (drewb w7)).trans s4)
  clear r0 r1 r2 r3 r4 o1 o2 o3 o4 s1 s2 s3 s4 hS0 hqR
  go_wp2_with (with_reducible refine wpList_stop none rfl ?_)
  refine Lib.hid ?_
  have hb9 := bnew wS4 (.cells #[.int .u8 0, .int .u16 0, .int .u16 0, .int .u8 0, .int .u16 7, .int .u16 0] 49)
  have r5 := HR4.out.of_block (hb9.block _ HR4.out.lt)
  have hd9 : Duo w7 (wS4.alloc (.cells #[.int .u8 0, .int .u16 0, .int .u16 0, .int .u8 0, .int .u16 7, .int .u16 0] 49)) x x := HO4.out.trans (Duo.of_below hb9)
  obtain ⟨cw, hcw⟩ : ∃ cw, cw = wS4.heap.size := ⟨_, rfl⟩
  rw [← hcw]
  obtain ⟨wS5, hwS5⟩ : ∃ w', w' = wS4.alloc (.cells #[.int .u8 0, .int .u16 0, .int .u16 0, .int .u8 0, .int .u16 7, .int .u16 0] 49) := ⟨_, rfl⟩
  rw [← hwS5] at r5 hd9 ⊢
  clear hwS5 hb9
  have o6 := one_setCell wS5 x 56 (.slice (some ⟨cw, 0, none⟩) 2 2)
  have r6 := r5.set 56 (.slice (some ⟨cw, 0, none⟩) 2 2)
  refine wpList_skip (by kernel_rfl) rfl (exec_store_cell 61 _ _ rfl x 56 (.slice (some ⟨cw, 0, none⟩) 2 2) (by go_simp) (by go_simp) (by kernel_rfl) (by kernel_rfl) rfl (by rw [r5.cell (i := 56) (by omega)]; rfl) (r5.frozen 56)) ?_
  obtain ⟨w8, hw8⟩ : ∃ w', w' = wS5.setCell ⟨x, 56, none⟩ (.slice (some ⟨cw, 0, none⟩) 2 2) := ⟨_, rfl⟩
  rw [← hw8] at o6 r6 ⊢
  clear hw8 hcw
  have r7 := r6.congr (g := prF (memP cl tr gs (.slice (some ⟨cw, 0, none⟩) 2 2) r at_)) (fun i hi => (memP_set cl tr gs (.slice (some ⟨cw, 0, none⟩) 2 2) r at_ i).symm)
  have hd8 : Duo w7 w8 x x := hd9.trans (Duo.of_one o6)
  obtain ⟨p, hp⟩ : ∃ p, p = memP cl tr gs (.slice (some ⟨cw, 0, none⟩) 2 2) r at_ := ⟨_, rfl⟩
  rw [← hp] at r7
  have HPP := Lib.hid hp
  have hxS : tS tg tgm T6 x := .inr (.inr ⟨0, ⟨x, newP 0 1 0 cl⟩, by rw [H60.out]; simp, rfl⟩)
  have ho8 : One w7 w8 (some x) := ⟨hd8.os, hd8.tape, hd8.output, hd8.size, fun k hk e => hd8.block k hk (fun e2 => e (by rw [e2])) (fun e2 => e (by rw [e2]))⟩
  obtain ⟨T8, ht8, h80, ho8', hs8⟩ := HT7.out.setOne H60.out p (by rw [hp]; rfl) (by rw [hp]; rfl) ho8 r7
  have HX7 := Lib.hid (show w4.heap.size ≤ x from HTS.out x hxS)
  have HT8 := Lib.hid ht8
  have H80 := Lib.hid h80
  have H81 := Lib.hid (show T8 1 = [] by rw [ho8' 1 (by omega)]; exact H61.out)
  have HTS8 := Lib.hid (fun k hk => HTS.out k (hs8 k hk))
  have HSS := Lib.hid hs8
  have HO8 := Lib.hid ho8
  have HR8 := Lib.hid r7
  clear r5 r6 r7 o6 hd9 hd8 ho8 ht8 h80 ho8' hs8 hxS hp
  have hx6 : x < w6.heap.size := (HT6.out.pr 0 ⟨x, newP 0 1 0 cl⟩ (by rw [H60.out]; simp)).lt
  have HLT := Lib.hid (show ∀ k, tS tg tgm T8 k → k < w6.heap.size from fun k hk => by
    rcases HSS.out k hk with rfl | rfl | ⟨l, u, hu, rfl⟩
    · exact HT6.out.tp.row.lt
    · exact HT6.out.tp.mp.lt
    · exact (HT6.out.pr l u hu).lt)
  have HSF := Lib.hid (SpF.chg (S := fun k => k = x) (⟨⟨v, HSP7.out⟩, HFP7.out⟩ : SpF w7 w6.heap.size gs g gm ad (setN (fun _ => 0) 0 (0 + q)) (moreF (fun _ => none) 0 0 q) (morePs 0 0 q)) (Chg.of_one HO8.out rfl) (fun e => by have := HGL.out; have := HX7.out; omega) (fun e => by have := HGL.out; have := HX7.out; omega) (fun k h e => by omega))
  have HBX := Lib.hid (show w6.heap.size ≤ gs from HGS.out)
  have HWB := Lib.hid (show Below wc.heap.size wc w8 from bone H47.out HO8.out (by have := HX7.out; have := HNP.out.b2.size; omega) H47.out.size)
  have HB8 := Lib.hid (show Below W.heap.size W w8 from HB3.out.trans ((HNP.out.b1.trans (HWB.out.mono HNP.out.b1.size)).mono HB3.out.size))
  have e0 := HR8.out.cell (i := 0) (by omega)
  have e1 := HR8.out.cell (i := 1) (by omega)
  have p0 : p.lab = 0 := by rw [HPP.out]; rfl
  have p1 : p.num = 1 := by rw [HPP.out]; rfl
  simp (decide := true) [prF, p0, p1] at e0 e1
  clear p0 p1 hx6
  cases rise with
  | false =>
    as_aux_lemma =>
      go_wp2_with fail
      have hm : p.mem = some ⟨gs, 0, none⟩ := by rw [HPP.out]; rfl
      refine (taskEnd_in HT8.out (l := 0) (by omega) (j := 0) (by rw [H80.out]; simp) (t := ⟨x, p⟩) (by simp [H80.out]) 1 (by rw [HPP.out]; rfl) 1 (by rw [HPP.out]; show (1 : Nat) ≠ 3; omega) (by rw [H80.out, HPP.out]; rfl) (by rw [HPP.out]; show 0 ≤ 65535; omega) (fun s hs e => by
        have e2 : s.pr.num = 0 := by rw [e, HPP.out]; rfl
        have := (HT8.out.ok.num 0 s hs).1
        omega) (spT g gm gs) (fun w => SpF w w6.heap.size gs g gm ad (setN (setN (fun _ => 0) 0 (0 + q)) 0 (setN (fun _ => 0) 0 (0 + q) 0 - (morePs 0 0 q).length)) (delPs (moreF (fun _ => none) 0 0 q) (morePs 0 0 q)) []) (fun k hk hk2 => by
        have h1 := HTS8.out k hk2
        have h2 := HLT.out k hk2
        have h3 := HGL.out
        have h4 := HBX.out
        rcases hk with rfl | rfl | rfl <;> omega) (fun k hk hk2 => by
        have h1 := HSF.out.fp.row.lt
        have h2 := HSF.out.fp.mp.lt
        obtain ⟨v, hv⟩ := HSF.out.sp
        have h3 := hv.row.lt
        rcases hk2 with rfl | rfl | rfl <;> omega) (fun w1 w2 h c => h.chg c (fun h => by have := HTS8.out _ h; have := HGL.out; omega) (fun h => by have := HTS8.out _ h; have := HGL.out; omega) (fun k h1 h2 => by have := HLT.out k h2; omega)) (fun w1 hb => by
        have hsf := HSF.out.chg (Chg.of_below (fun _ => False) hb) (fun h => h) (fun h => h) (fun _ _ h => h)
        obtain ⟨v, hv⟩ := hsf.sp
        show Calls Try.prog 39 #[.pointer p.mem] w1 _
        rw [hm]
        exact (spaceFree_in HNP.out.cp (HWB.out.trans (hb.mono HWB.out.size)) hsf.fp hv (more_ok q (by omega)) (fun u hu => by
          obtain ⟨j, _, rfl⟩ := List.mem_map.mp hu
          rfl) HNP.out.g0 HNP.out.g1 (Nat.le_trans HNP.out.b2.size H46.out.size) (by rw [bigS_len]; omega) (sizeLe64 _) (by rw [bigS_fr0]; omega) (by rw [morePs_len, setN_same]; omega) (by rw [setN_same, bigS_fr0]; omega)).mono fun e w2 h => ⟨h.1, h.2.2.2, ⟨h.2.1, h.2.2.1⟩⟩)).mono ?_
      rintro e w9 ⟨rfl, ht9, hc9, hsf9⟩
      obtain ⟨v9, hv9⟩ := hsf9.sp
      have CP := Lib.hid (show Calls Try.prog 12 #[.pointer (some ⟨gs, 0, none⟩)] w9 fun e w' => e = .returned (.int .i64 0) ∧ w9 = w' from (spacePages_in hv9).mono fun e w h => ⟨by rw [h.1]; rfl, h.2⟩)
      have CF := Lib.hid (show Calls Try.prog 13 #[.pointer (some ⟨g, 0, none⟩), .int .i64 0] w9 fun e w' => e = .returned (.int .i64 0) ∧ w9 = w' from (frameUsed_in hsf9.fp 0 (by omega)).mono fun e w h => ⟨by rw [h.1, setN_same, setN_same, morePs_len]; simp, h.2⟩)
      have CU := Lib.hid (show Calls Try.prog 14 #[.pointer (some ⟨tg, 0, none⟩), .int .i64 0] w9 fun e w' => e = .returned (.int .i64 0) ∧ w9 = w' from (taskUsed_tp ht9.tp 0 (by omega)).mono fun e w h => ⟨by
        rw [h.1]
        unfold usT
        rw [setT_same, H80.out]
        unfold endL
        rw [if_pos (show p.par = 0 by rw [HPP.out]; rfl)]
        simp [dropE, HPP.out, memP, newP], h.2⟩)
      have HC9 := Lib.hid hc9
      clear ht9 hc9 hsf9 hv9 e0 e1 hm
      go_wp2_with fail
      refine CP.out.mono ?_
      rintro e wz ⟨rfl, hwz⟩
      subst hwz
      go_wp2_with fail
      refine CF.out.mono ?_
      rintro e wz ⟨rfl, hwz⟩
      subst hwz
      go_wp2_with fail
      refine CU.out.mono ?_
      rintro e wz ⟨rfl, hwz⟩
      subst hwz
      go_wp2_with fail
      go_ret
      exact ⟨rfl, HB8.out.trans (HC9.out.below (B := W.heap.size) (fun k hk => by
        have h1 := HB4.out.size
        have h2 := HWC.out
        have h3 := HNP.out.b1.size
        have h4 := HB3.out.size
        have h5 := H46.out.size
        have h6 := HBX.out
        rcases hk with (rfl | rfl | rfl) | hk
        · omega
        · omega
        · omega
        · have := HTS8.out k hk; omega) HB8.out.size)⟩
  | true =>
    as_aux_lemma =>
      have hcl1 : cl = 1 := HCL.out
      go_wp2_with fail
      refine (taskRise_in HP.out (HNP.out.b1.trans (HWB.out.mono HNP.out.b1.size)) HT8.out (by have := HG.out.1; have := HNP.out.b1.size; have := HNP.out.b2.size; omega) (by have := HG.out.2; have := HNP.out.b1.size; have := HNP.out.b2.size; omega) (by have h := HO8.out.size; have := H46.out.size; have := HLT.out x (.inr (.inr ⟨0, ⟨x, p⟩, by rw [H80.out]; simp, rfl⟩)); have := HWB.out.size; have := HT8.out.tp.row.lt; have := HG.out.1; omega) (l := 0) (by omega) (t := ⟨x, p⟩) H80.out 1 (by rw [HPP.out]; rfl) (by rw [HPP.out]; rfl) (by rw [HPP.out]; rfl) (by rw [HPP.out]; rfl) (fun i hi => by
        rw [HPP.out]
        show Value.oneCell' (if i = 30 then _ else if 14 ≤ i ∧ i < 30 then _ else restZ i) = true
        refine ite_one rfl (ite_one rfl ?_)
        unfold restZ
        exact ite_one rfl (ite_one rfl (ite_one rfl rfl))) 1 (by rw [hvS_len]; omega) (sizeLe64 _) (by omega) H81.out (by rw [sizePr]; omega)).mono ?_
      rintro e w9 ⟨y, T9, rfl, hy, ht9, h91, h90, hc9⟩
      have HSF9 := Lib.hid (HSF.out.chg hc9 (fun h => by have := HTS8.out _ h; have := HGL.out; omega) (fun h => by have := HTS8.out _ h; have := HGL.out; omega) (fun k h1 h2 => by have := HLT.out k h2; omega))
      have HA9 := Lib.hid (hc9.blk (HO8.out.blk HA7.out (fun e => by have := HX7.out; have := HRL.out; injection e with e; omega)) (fun h => by have := HTS8.out _ h; have := HRL.out; omega))
      have hry := ht9.pr 1 ⟨y, riseP p 1 1⟩ (by rw [h91]; simp)
      have HRY := Lib.hid hry
      have HC9 := Lib.hid hc9
      have CP := Lib.hid (show ∀ w, Below w9.heap.size w9.drew w → Calls Try.prog 12 #[.pointer (some ⟨gs, 0, none⟩)] w fun e w' => e = .returned (.int .i64 q) ∧ w = w' from fun w hb => by
        obtain ⟨v, hv⟩ := (HSF9.out.chg (Chg.of_below (fun _ => False) ((drewb w9).trans hb)) (fun h => h) (fun h => h) (fun _ _ h => h)).sp
        exact (spacePages_in hv).mono fun e w h => ⟨by rw [h.1, morePs_len], h.2⟩)
      have CU0 := Lib.hid (show ∀ w, Below w9.heap.size w9.drew w → Calls Try.prog 14 #[.pointer (some ⟨tg, 0, none⟩), .int .i64 0] w fun e w' => e = .returned (.int .i64 0) ∧ w = w' from fun w hb => (taskUsed_tp (ht9.keep ((drewb w9).trans hb)).tp 0 (by omega)).mono fun e w h => ⟨by rw [h.1]; unfold usT; rw [h90]; rfl, h.2⟩)
      have CU1 := Lib.hid (show ∀ w, Below w9.heap.size w9.drew w → Calls Try.prog 14 #[.pointer (some ⟨tg, 0, none⟩), .int .i64 1] w fun e w' => e = .returned (.int .i64 1) ∧ w = w' from fun w hb => (taskUsed_tp (ht9.keep ((drewb w9).trans hb)).tp 1 (by omega)).mono fun e w h => ⟨by rw [h.1]; unfold usT; rw [h91]; rfl, h.2⟩)
      clear ht9 hc9 hry e0 e1 h91 h90 hy
      go_upto_region 14 with fail
      as_aux_lemma =>
        have hqy : ∀ w', Below w9.heap.size w9.drew w' → w'.rowIs y 63 57 (prF (riseP p 1 1)) := fun w' hb => HRY.out.of_block (((drewb w9).trans hb).block _ HRY.out.lt)
        have hq31 : ∀ w', Below w9.heap.size w9.drew w' → w'.cell? ⟨y, 31, none⟩ = some (.pointer (some ⟨gs, 0, none⟩)) := fun w' hb => by rw [(hqy w' hb).cell (i := 31) (by omega), HPP.out]; rfl
        have hq30 : ∀ w', Below w9.heap.size w9.drew w' → w'.cell? ⟨y, 30, none⟩ = some (.int .u32 at_) := fun w' hb => by rw [(hqy w' hb).cell (i := 30) (by omega), HPP.out]; rfl
        have hq4 : ∀ w', Below w9.heap.size w9.drew w' → w'.cell? ⟨y, 4, none⟩ = some (.bool tr) := fun w' hb => by rw [(hqy w' hb).cell (i := 4) (by omega), HPP.out]; rfl
        have hq56 : ∀ w', Below w9.heap.size w9.drew w' → w'.cell? ⟨y, 56, none⟩ = some (.slice (some ⟨cw, 0, none⟩) 2 2) := fun w' hb => by rw [(hqy w' hb).cell (i := 56) (by omega), HPP.out]; rfl
        have hq0 : ∀ w', Below w9.heap.size w9.drew w' → w'.cell? ⟨y, 0, none⟩ = some (.int .u8 1) := fun w' hb => by rw [(hqy w' hb).cell (i := 0) (by omega)]; rfl
        have hq1 : ∀ w', Below w9.heap.size w9.drew w' → w'.cell? ⟨y, 1, none⟩ = some (.int .u16 1) := fun w' hb => by rw [(hqy w' hb).cell (i := 1) (by omega)]; rfl
        have hq3 : ∀ w', Below w9.heap.size w9.drew w' → w'.cell? ⟨y, 3, none⟩ = some (.int .i64 1) := fun w' hb => by rw [(hqy w' hb).cell (i := 3) (by omega), HPP.out, hcl1]; rfl
        have hqX1 : ∀ w', Below w9.heap.size w9.drew w' → ∀ j v, X.toList[j]? = some v → w'.cell? ⟨y, 14 + j, none⟩ = some v := fun w' hb j v hj => by
          rw [HX.out] at hj
          obtain ⟨h1, rfl⟩ := rowArr_get _ _ _ _ hj
          rw [(hqy w' hb).cell (i := 14 + j) (by omega), rise_set, HPP.out]
          rw [if_neg (by omega), if_neg (by omega), if_neg (by omega), if_neg (by omega), if_neg (by omega), if_neg (by omega), if_neg (by omega), if_neg (by omega), if_neg (by omega), memP_set]
          rw [if_neg (by omega), if_neg (by omega), if_neg (by omega), if_pos (by omega), Nat.add_sub_cancel_left]
        have hqX2 : ∀ w', Below w9.heap.size w9.drew w' → ∀ j v, X.toList[j]? = some v → w'.cell? ⟨R, 0 + j, none⟩ = some v := fun w' hb j v hj => by
          rw [Nat.zero_add, World.cell?_of_block (w := w9) (a := ⟨R, j, none⟩) (((drewb w9).trans hb).block R (rowlt HA9.out)), rowcell HA9.out]
          simpa using hj
        have hS0 : Below w9.heap.size w9.drew w9.drew := Below.refl _ _
        as_aux_lemma =>
          refine wp_region_held (S := fun w' => Below w9.heap.size w9.drew w') (by kernel_rfl) ?_
          simp only [List.append]
          change wpAnyH _ _ _ _ _ _ _ _ (World.drew _)
          refine takeH 0 (.int .i64 0) (some 103) rfl rfl (by kernel_rfl) (by kernel_rfl) (by kernel_rfl) (fun _ _ _ h => h) (.inl ⟨by kernel_rfl, fun w hw => by go_simp⟩) hS0 ?_
          refine takeH 1 (.bool true) (some 104) rfl rfl (by kernel_rfl) (by kernel_rfl) (by kernel_rfl) (fun _ _ _ h => h) (.inl ⟨by kernel_rfl, fun w hw => by go_simp⟩) hS0 ?_
          refine takeH 2 (.bool true) (some 105) rfl rfl (by kernel_rfl) (by kernel_rfl) (by kernel_rfl) (fun _ _ _ h => h) (.inl ⟨by kernel_rfl, fun w hw => by go_simp⟩) hS0 ?_
          go_simp
          refine takeH 3 (.int .i64 0) (some 106) rfl rfl (by kernel_rfl) (by kernel_rfl) (by kernel_rfl) (fun _ _ _ h => h) (.inl ⟨by kernel_rfl, fun w hw => by go_simp⟩) hS0 ?_
          refine takeH 4 (.bool true) (some 107) rfl rfl (by kernel_rfl) (by kernel_rfl) (by kernel_rfl) (fun _ _ _ h => h) (.inl ⟨by kernel_rfl, fun w hw => by go_simp⟩) hS0 ?_
          refine takeH 5 (.bool true) (some 108) rfl rfl (by kernel_rfl) (by kernel_rfl) (by kernel_rfl) (fun _ _ _ h => h) (.inl ⟨by kernel_rfl, fun w hw => by go_simp⟩) hS0 ?_
          go_simp
          refine takeH 6 (.bool true) (some 109) rfl rfl (by kernel_rfl) (by kernel_rfl) (by kernel_rfl) (fun _ _ _ h => h) (.inl ⟨by kernel_rfl, fun w hw => by go_simp⟩) hS0 ?_
          refine takeH 7 (.pointer (some ⟨y, 0, none⟩)) (some 110) rfl rfl (by kernel_rfl) (by kernel_rfl) (by kernel_rfl) (fun _ _ _ h => h) (.inl ⟨by kernel_rfl, fun w hw => by go_simp⟩) hS0 ?_
          refine takeH 8 (.bool true) (some 111) rfl rfl (by kernel_rfl) (by kernel_rfl) (by kernel_rfl) (fun _ _ _ h => h) (.inl ⟨by kernel_rfl, fun w hw => by go_simp⟩) hS0 ?_
          go_simp
          refine takeH 9 (.bool true) (some 112) rfl rfl (by kernel_rfl) (by kernel_rfl) (by kernel_rfl) (fun _ _ _ h => h) (.inl ⟨by kernel_rfl, fun w hw => by go_simp⟩) hS0 ?_
          refine takeH 10 (.bool true) (some 113) rfl rfl (by kernel_rfl) (by kernel_rfl) (by kernel_rfl) (fun _ _ _ h => h) (.inl ⟨by kernel_rfl, fun w hw => by go_simp⟩) hS0 ?_
          refine takeH 11 (.pointer (some ⟨y, 0, none⟩)) (some 114) rfl rfl (by kernel_rfl) (by kernel_rfl) (by kernel_rfl) (fun _ _ _ h => h) (.inl ⟨by kernel_rfl, fun w hw => by go_simp⟩) hS0 ?_
          go_simp
          refine takeH 12 (.pointer (some ⟨y, 0, none⟩)) (some 115) rfl rfl (by kernel_rfl) (by kernel_rfl) (by kernel_rfl) (fun _ _ _ h => h) (.inl ⟨by kernel_rfl, fun w hw => by go_simp⟩) hS0 ?_
          refine takeH 13 (.pointer (some ⟨y, 31, none⟩)) (some 116) rfl rfl (by kernel_rfl) (by kernel_rfl) (by kernel_rfl) (fun _ _ _ h => h) (.inl ⟨by kernel_rfl, fun w hw => by go_simp⟩) hS0 ?_
          refine takeH 14 (.pointer (some ⟨gs, 0, none⟩)) (some 117) rfl rfl (by kernel_rfl) (by kernel_rfl) (by kernel_rfl) (fun _ _ _ h => h) (.inl ⟨by kernel_rfl, fun w hw => by have hc := hq31 w hw; go_simp⟩) hS0 ?_
          go_simp
          refine takeH 15 (.pointer (some ⟨gs, 0, none⟩)) (some 118) rfl rfl (by kernel_rfl) (by kernel_rfl) (by kernel_rfl) (fun _ _ _ h => h) (.inl ⟨by kernel_rfl, fun w hw => by go_simp⟩) hS0 ?_
          refine takeH 16 (.bool true) (some 119) rfl rfl (by kernel_rfl) (by kernel_rfl) (by kernel_rfl) (fun _ _ _ h => h) (.inl ⟨by kernel_rfl, fun w hw => by have hh := eqSpace_same gs w; have hh2 := eqlSpace_same gs w; go_simp⟩) hS0 ?_
          refine takeH 17 (.bool true) (some 120) rfl rfl (by kernel_rfl) (by kernel_rfl) (by kernel_rfl) (fun _ _ _ h => h) (.inl ⟨by kernel_rfl, fun w hw => by go_simp⟩) hS0 ?_
          go_simp
          refine takeH 18 (.bool true) (some 121) rfl rfl (by kernel_rfl) (by kernel_rfl) (by kernel_rfl) (fun _ _ _ h => h) (.inl ⟨by kernel_rfl, fun w hw => by go_simp⟩) hS0 ?_
          refine takeH 19 (.pointer (some ⟨gs, 0, none⟩)) (some 122) rfl rfl (by kernel_rfl) (by kernel_rfl) (by kernel_rfl) (fun _ _ _ h => h) (.inl ⟨by kernel_rfl, fun w hw => by go_simp⟩) hS0 ?_
          go_simp
          refine takeH 21 (.int .u8 n) (some 124) rfl rfl (by kernel_rfl) (by kernel_rfl) (by kernel_rfl) (fun _ _ _ h => h) (.inl ⟨by kernel_rfl, fun w hw => by go_simp⟩) hS0 ?_
          refine takeH 22 (.int .u8 q) (some 125) rfl rfl (by kernel_rfl) (by kernel_rfl) (by kernel_rfl) (fun _ _ _ h => h) (.inl ⟨by kernel_rfl, fun w hw => by go_simp⟩) hS0 ?_
          refine takeH 23 (.int .i64 q) (some 126) rfl rfl (by kernel_rfl) (by kernel_rfl) (by kernel_rfl) (fun _ _ _ h => h) (.inl ⟨by kernel_rfl, fun w hw => by go_simp⟩) hS0 ?_
          go_simp
          refine callH 20 rfl (by kernel_rfl) (by kernel_rfl) (some 123) rfl 12 #[.pointer (some ⟨gs, 0, none⟩)] ?hrun ((CP.out _ hS0).mono ?_)
          case hrun => go_simp
          rintro e wz1 ⟨he, hwz⟩
          have hSc1 : Below w9.heap.size w9.drew wz1 := by rw [← hwz]; exact hS0
          clear hwz
          refine ⟨_, he, hSc1, ?_⟩
          go_simp
          go_simp
          as_aux_lemma =>
            refine takeH 24 (.bool true) (some 127) rfl rfl (by kernel_rfl) (by kernel_rfl) (by kernel_rfl) (fun _ _ _ h => h) (.inl ⟨by kernel_rfl, fun w hw => by go_simp⟩) hSc1 ?_
            refine takeH 25 (.bool true) (some 128) rfl rfl (by kernel_rfl) (by kernel_rfl) (by kernel_rfl) (fun _ _ _ h => h) (.inl ⟨by kernel_rfl, fun w hw => by go_simp⟩) hSc1 ?_
            refine takeH 26 (.bool true) (some 129) rfl rfl (by kernel_rfl) (by kernel_rfl) (by kernel_rfl) (fun _ _ _ h => h) (.inl ⟨by kernel_rfl, fun w hw => by go_simp⟩) hSc1 ?_
            go_simp
            refine takeH 27 (.pointer (some ⟨y, 0, none⟩)) (some 130) rfl rfl (by kernel_rfl) (by kernel_rfl) (by kernel_rfl) (fun _ _ _ h => h) (.inl ⟨by kernel_rfl, fun w hw => by go_simp⟩) hSc1 ?_
            refine takeH 28 (.pointer (some ⟨y, 0, none⟩)) (some 131) rfl rfl (by kernel_rfl) (by kernel_rfl) (by kernel_rfl) (fun _ _ _ h => h) (.inl ⟨by kernel_rfl, fun w hw => by go_simp⟩) hSc1 ?_
            refine takeH 29 (.pointer (some ⟨y, 14, none⟩)) (some 132) rfl rfl (by kernel_rfl) (by kernel_rfl) (by kernel_rfl) (fun _ _ _ h => h) (.inl ⟨by kernel_rfl, fun w hw => by go_simp⟩) hSc1 ?_
            go_simp
            refine takeH 30 (.pointer (some ⟨y, 14, none⟩)) (some 133) rfl rfl (by kernel_rfl) (by kernel_rfl) (by kernel_rfl) (fun _ _ _ h => h) (.inl ⟨by kernel_rfl, fun w hw => by go_simp⟩) hSc1 ?_
            refine takeH 31 (.agg X) (some 134) rfl rfl (by kernel_rfl) (by kernel_rfl) (by kernel_rfl) (fun _ _ _ h => h) (yi_piece (by kernel_rfl) 23 (.tmp 133) rfl y 14 (by go_simp) X _ (fun w hw => hqX1 w hw) Try.underlying23 rfl (by rw [HXS.out]; kernel_rfl)) hSc1 ?_
            refine takeH 32 (.agg X) (some 135) rfl rfl (by kernel_rfl) (by kernel_rfl) (by kernel_rfl) (fun _ _ _ h => h) (yi_piece (by kernel_rfl) 23 (.tmp 7) rfl R 0 (by go_simp) X _ (fun w hw => hqX2 w hw) Try.underlying23 rfl (by rw [HXS.out]; kernel_rfl)) hSc1 ?_
            go_simp
            refine takeH 33 (.bool true) (some 136) rfl rfl (by kernel_rfl) (by kernel_rfl) (by kernel_rfl) (fun _ _ _ h => h) (.inl ⟨by kernel_rfl, fun w _ => exec_eql (xs := X) (ys := X) rfl (by go_simp) (by go_simp) (by kernel_rfl) (by rw [HX.out]; exact HEQ.out w)⟩) hSc1 ?_
            refine takeH 34 (.bool true) (some 137) rfl rfl (by kernel_rfl) (by kernel_rfl) (by kernel_rfl) (fun _ _ _ h => h) (.inl ⟨by kernel_rfl, fun w hw => by go_simp⟩) hSc1 ?_
            refine takeH 35 (.bool true) (some 138) rfl rfl (by kernel_rfl) (by kernel_rfl) (by kernel_rfl) (fun _ _ _ h => h) (.inl ⟨by kernel_rfl, fun w hw => by go_simp⟩) hSc1 ?_
            go_simp
            refine takeH 36 (.pointer (some ⟨y, 0, none⟩)) (some 139) rfl rfl (by kernel_rfl) (by kernel_rfl) (by kernel_rfl) (fun _ _ _ h => h) (.inl ⟨by kernel_rfl, fun w hw => by go_simp⟩) hSc1 ?_
            refine takeH 37 (.pointer (some ⟨y, 0, none⟩)) (some 140) rfl rfl (by kernel_rfl) (by kernel_rfl) (by kernel_rfl) (fun _ _ _ h => h) (.inl ⟨by kernel_rfl, fun w hw => by go_simp⟩) hSc1 ?_
            refine takeH 38 (.pointer (some ⟨y, 14, none⟩)) (some 141) rfl rfl (by kernel_rfl) (by kernel_rfl) (by kernel_rfl) (fun _ _ _ h => h) (.inl ⟨by kernel_rfl, fun w hw => by go_simp⟩) hSc1 ?_
            go_simp
            refine takeH 39 (.pointer (some ⟨y, 30, none⟩)) (some 142) rfl rfl (by kernel_rfl) (by kernel_rfl) (by kernel_rfl) (fun _ _ _ h => h) (.inl ⟨by kernel_rfl, fun w hw => by go_simp⟩) hSc1 ?_
            refine takeH 40 (.int .u32 at_) (some 143) rfl rfl (by kernel_rfl) (by kernel_rfl) (by kernel_rfl) (fun _ _ _ h => h) (.inl ⟨by kernel_rfl, fun w hw => by have hc := hq30 w hw; go_simp⟩) hSc1 ?_
            refine takeH 41 (.int .u32 at_) (some 144) rfl rfl (by kernel_rfl) (by kernel_rfl) (by kernel_rfl) (fun _ _ _ h => h) (.inl ⟨by kernel_rfl, fun w hw => by go_simp⟩) hSc1 ?_
            go_simp
            refine takeH 42 (.bool true) (some 145) rfl rfl (by kernel_rfl) (by kernel_rfl) (by kernel_rfl) (fun _ _ _ h => h) (.inl ⟨by kernel_rfl, fun w hw => by go_simp⟩) hSc1 ?_
            refine takeH 43 (.bool true) (some 146) rfl rfl (by kernel_rfl) (by kernel_rfl) (by kernel_rfl) (fun _ _ _ h => h) (.inl ⟨by kernel_rfl, fun w hw => by go_simp⟩) hSc1 ?_
            refine takeH 44 (.bool true) (some 147) rfl rfl (by kernel_rfl) (by kernel_rfl) (by kernel_rfl) (fun _ _ _ h => h) (.inl ⟨by kernel_rfl, fun w hw => by go_simp⟩) hSc1 ?_
            go_simp
            as_aux_lemma =>
              refine takeH 45 (.pointer (some ⟨y, 0, none⟩)) (some 148) rfl rfl (by kernel_rfl) (by kernel_rfl) (by kernel_rfl) (fun _ _ _ h => h) (.inl ⟨by kernel_rfl, fun w hw => by go_simp⟩) hSc1 ?_
              refine takeH 46 (.pointer (some ⟨y, 0, none⟩)) (some 149) rfl rfl (by kernel_rfl) (by kernel_rfl) (by kernel_rfl) (fun _ _ _ h => h) (.inl ⟨by kernel_rfl, fun w hw => by go_simp⟩) hSc1 ?_
              refine takeH 47 (.pointer (some ⟨y, 4, none⟩)) (some 150) rfl rfl (by kernel_rfl) (by kernel_rfl) (by kernel_rfl) (fun _ _ _ h => h) (.inl ⟨by kernel_rfl, fun w hw => by go_simp⟩) hSc1 ?_
              go_simp
              refine takeH 48 (.bool tr) (some 151) rfl rfl (by kernel_rfl) (by kernel_rfl) (by kernel_rfl) (fun _ _ _ h => h) (.inl ⟨by kernel_rfl, fun w hw => by have hc := hq4 w hw; go_simp⟩) hSc1 ?_
              refine takeH 49 (.int .u8 m) (some 152) rfl rfl (by kernel_rfl) (by kernel_rfl) (by kernel_rfl) (fun _ _ _ h => h) (.inl ⟨by kernel_rfl, fun w hw => by go_simp⟩) hSc1 ?_
              refine takeH 50 (.int .u8 m2) (some 153) rfl rfl (by kernel_rfl) (by kernel_rfl) (by kernel_rfl) (fun _ _ _ h => h) (.inl ⟨by kernel_rfl, fun w hw => by go_simp⟩) hSc1 ?_
              go_simp
              refine takeH 51 (.bool tr) (some 154) rfl rfl (by kernel_rfl) (by kernel_rfl) (by kernel_rfl) (fun _ _ _ h => h) (.inl ⟨by kernel_rfl, fun w hw => by go_simp⟩) hSc1 ?_
              refine takeH 52 (.bool true) (some 155) rfl rfl (by kernel_rfl) (by kernel_rfl) (by kernel_rfl) (fun _ _ _ h => h) (.inl ⟨by kernel_rfl, fun w hw => by go_simp⟩) hSc1 ?_
              refine takeH 53 (.bool true) (some 156) rfl rfl (by kernel_rfl) (by kernel_rfl) (by kernel_rfl) (fun _ _ _ h => h) (.inl ⟨by kernel_rfl, fun w hw => by go_simp⟩) hSc1 ?_
              go_simp
              refine takeH 54 (.bool true) (some 157) rfl rfl (by kernel_rfl) (by kernel_rfl) (by kernel_rfl) (fun _ _ _ h => h) (.inl ⟨by kernel_rfl, fun w hw => by go_simp⟩) hSc1 ?_
              refine takeH 55 (.pointer (some ⟨y, 0, none⟩)) (some 158) rfl rfl (by kernel_rfl) (by kernel_rfl) (by kernel_rfl) (fun _ _ _ h => h) (.inl ⟨by kernel_rfl, fun w hw => by go_simp⟩) hSc1 ?_
              refine takeH 56 (.pointer (some ⟨y, 0, none⟩)) (some 159) rfl rfl (by kernel_rfl) (by kernel_rfl) (by kernel_rfl) (fun _ _ _ h => h) (.inl ⟨by kernel_rfl, fun w hw => by go_simp⟩) hSc1 ?_
              go_simp
              refine takeH 57 (.pointer (some ⟨y, 56, none⟩)) (some 160) rfl rfl (by kernel_rfl) (by kernel_rfl) (by kernel_rfl) (fun _ _ _ h => h) (.inl ⟨by kernel_rfl, fun w hw => by go_simp⟩) hSc1 ?_
              refine takeH 58 (.slice (some ⟨cw, 0, none⟩) 2 2) (some 161) rfl rfl (by kernel_rfl) (by kernel_rfl) (by kernel_rfl) (fun _ _ _ h => h) (.inl ⟨by kernel_rfl, fun w hw => by have hc := hq56 w hw; go_simp⟩) hSc1 ?_
              refine takeH 59 (.int .i64 2) (some 162) rfl rfl (by kernel_rfl) (by kernel_rfl) (by kernel_rfl) (fun _ _ _ h => h) (.inl ⟨by kernel_rfl, fun w hw => by go_simp⟩) hSc1 ?_
              go_simp
              refine takeH 60 (.bool true) (some 163) rfl rfl (by kernel_rfl) (by kernel_rfl) (by kernel_rfl) (fun _ _ _ h => h) (.inl ⟨by kernel_rfl, fun w hw => by go_simp⟩) hSc1 ?_
              refine takeH 61 (.bool true) (some 164) rfl rfl (by kernel_rfl) (by kernel_rfl) (by kernel_rfl) (fun _ _ _ h => h) (.inl ⟨by kernel_rfl, fun w hw => by go_simp⟩) hSc1 ?_
              refine takeH 62 (.bool true) (some 165) rfl rfl (by kernel_rfl) (by kernel_rfl) (by kernel_rfl) (fun _ _ _ h => h) (.inl ⟨by kernel_rfl, fun w hw => by go_simp⟩) hSc1 ?_
              go_simp
              as_aux_lemma =>
                refine takeH 63 (.pointer (some ⟨y, 0, none⟩)) (some 166) rfl rfl (by kernel_rfl) (by kernel_rfl) (by kernel_rfl) (fun _ _ _ h => h) (.inl ⟨by kernel_rfl, fun w hw => by go_simp⟩) hSc1 ?_
                refine takeH 64 (.pointer (some ⟨y, 0, none⟩)) (some 167) rfl rfl (by kernel_rfl) (by kernel_rfl) (by kernel_rfl) (fun _ _ _ h => h) (.inl ⟨by kernel_rfl, fun w hw => by go_simp⟩) hSc1 ?_
                refine takeH 65 (.pointer (some ⟨y, 0, none⟩)) (some 168) rfl rfl (by kernel_rfl) (by kernel_rfl) (by kernel_rfl) (fun _ _ _ h => h) (.inl ⟨by kernel_rfl, fun w hw => by go_simp⟩) hSc1 ?_
                go_simp
                refine takeH 66 (.agg #[.int .u8 1, .int .u16 1]) (some 169) rfl rfl (by kernel_rfl) (by kernel_rfl) (by kernel_rfl) (fun _ _ _ h => h) (.inl ⟨by kernel_rfl, fun w hw => by have hc := hq0 w hw; have hc1 := hq1 w hw; go_simp⟩) hSc1 ?_
                refine takeH 67 (.agg #[.int .u8 1, .int .u16 1]) (some 170) rfl rfl (by kernel_rfl) (by kernel_rfl) (by kernel_rfl) (fun _ _ _ h => h) (.inl ⟨by kernel_rfl, fun w hw => by go_simp⟩) hSc1 ?_
                refine takeH 68 (.bool true) (some 171) rfl rfl (by kernel_rfl) (by kernel_rfl) (by kernel_rfl) (fun _ _ _ h => h) (.inl ⟨by kernel_rfl, fun w _ => exec_eql (xs := #[.int .u8 1, .int .u16 1]) (ys := #[.int .u8 1, .int .u16 1]) rfl (by go_simp) (by go_simp) (by kernel_rfl) (eqPid11 w)⟩) hSc1 ?_
                go_simp
                refine takeH 69 (.bool true) (some 172) rfl rfl (by kernel_rfl) (by kernel_rfl) (by kernel_rfl) (fun _ _ _ h => h) (.inl ⟨by kernel_rfl, fun w hw => by go_simp⟩) hSc1 ?_
                refine takeH 70 (.bool true) (some 173) rfl rfl (by kernel_rfl) (by kernel_rfl) (by kernel_rfl) (fun _ _ _ h => h) (.inl ⟨by kernel_rfl, fun w hw => by go_simp⟩) hSc1 ?_
                refine takeH 71 (.pointer (some ⟨y, 0, none⟩)) (some 174) rfl rfl (by kernel_rfl) (by kernel_rfl) (by kernel_rfl) (fun _ _ _ h => h) (.inl ⟨by kernel_rfl, fun w hw => by go_simp⟩) hSc1 ?_
                go_simp
                refine takeH 72 (.pointer (some ⟨y, 0, none⟩)) (some 175) rfl rfl (by kernel_rfl) (by kernel_rfl) (by kernel_rfl) (fun _ _ _ h => h) (.inl ⟨by kernel_rfl, fun w hw => by go_simp⟩) hSc1 ?_
                refine takeH 73 (.pointer (some ⟨y, 3, none⟩)) (some 176) rfl rfl (by kernel_rfl) (by kernel_rfl) (by kernel_rfl) (fun _ _ _ h => h) (.inl ⟨by kernel_rfl, fun w hw => by go_simp⟩) hSc1 ?_
                refine takeH 74 (.int .i64 1) (some 177) rfl rfl (by kernel_rfl) (by kernel_rfl) (by kernel_rfl) (fun _ _ _ h => h) (.inl ⟨by kernel_rfl, fun w hw => by have hc := hq3 w hw; go_simp⟩) hSc1 ?_
                go_simp
                refine takeH 75 (.bool true) (some 178) rfl rfl (by kernel_rfl) (by kernel_rfl) (by kernel_rfl) (fun _ _ _ h => h) (.inl ⟨by kernel_rfl, fun w hw => by go_simp⟩) hSc1 ?_
                refine takeH 76 (.bool true) (some 179) rfl rfl (by kernel_rfl) (by kernel_rfl) (by kernel_rfl) (fun _ _ _ h => h) (.inl ⟨by kernel_rfl, fun w hw => by go_simp⟩) hSc1 ?_
                refine takeH 77 (.bool true) (some 180) rfl rfl (by kernel_rfl) (by kernel_rfl) (by kernel_rfl) (fun _ _ _ h => h) (.inl ⟨by kernel_rfl, fun w hw => by go_simp⟩) hSc1 ?_
                go_simp
                as_aux_lemma =>
                  refine takeH 78 (.pointer (some ⟨tg, 0, none⟩)) (some 181) rfl rfl (by kernel_rfl) (by kernel_rfl) (by kernel_rfl) (fun _ _ _ h => h) (.inl ⟨by kernel_rfl, fun w hw => by go_simp⟩) hSc1 ?_
                  go_simp
                  refine callH 79 rfl (by kernel_rfl) (by kernel_rfl) (some 182) rfl 14 #[.pointer (some ⟨tg, 0, none⟩), .int .i64 0] ?hrun ((CU0.out _ hSc1).mono ?_)
                  case hrun => go_simp
                  rintro e wz2 ⟨he, hwz⟩
                  have hSc2 : Below w9.heap.size w9.drew wz2 := by rw [← hwz]; exact hSc1
                  clear hwz
                  refine ⟨_, he, hSc2, ?_⟩
                  refine takeH 80 (.bool true) (some 183) rfl rfl (by kernel_rfl) (by kernel_rfl) (by kernel_rfl) (fun _ _ _ h => h) (.inl ⟨by kernel_rfl, fun w hw => by go_simp⟩) hSc2 ?_
                  go_simp
                  refine takeH 81 (.bool true) (some 184) rfl rfl (by kernel_rfl) (by kernel_rfl) (by kernel_rfl) (fun _ _ _ h => h) (.inl ⟨by kernel_rfl, fun w hw => by go_simp⟩) hSc2 ?_
                  refine takeH 82 (.bool true) (some 185) rfl rfl (by kernel_rfl) (by kernel_rfl) (by kernel_rfl) (fun _ _ _ h => h) (.inl ⟨by kernel_rfl, fun w hw => by go_simp⟩) hSc2 ?_
                  refine takeH 83 (.pointer (some ⟨tg, 0, none⟩)) (some 186) rfl rfl (by kernel_rfl) (by kernel_rfl) (by kernel_rfl) (fun _ _ _ h => h) (.inl ⟨by kernel_rfl, fun w hw => by go_simp⟩) hSc2 ?_
                  go_simp
                  go_simp
                  refine callH 84 rfl (by kernel_rfl) (by kernel_rfl) (some 187) rfl 14 #[.pointer (some ⟨tg, 0, none⟩), .int .i64 1] ?hrun ((CU1.out _ hSc2).mono ?_)
                  case hrun => go_simp
                  rintro e wz3 ⟨he, hwz⟩
                  have hSc3 : Below w9.heap.size w9.drew wz3 := by rw [← hwz]; exact hSc2
                  clear hwz
                  refine ⟨_, he, hSc3, ?_⟩
                  refine takeH 85 (.bool true) (some 188) rfl rfl (by kernel_rfl) (by kernel_rfl) (by kernel_rfl) (fun _ _ _ h => h) (.inl ⟨by kernel_rfl, fun w hw => by go_simp⟩) hSc3 ?_
                  refine takeH 86 (.bool true) (some 189) rfl rfl (by kernel_rfl) (by kernel_rfl) (by kernel_rfl) (fun _ _ _ h => h) (.inl ⟨by kernel_rfl, fun w hw => by go_simp⟩) hSc3 ?_
                  go_simp
                  refine takeH 87 (.bool true) (some 10) rfl rfl (by kernel_rfl) (by kernel_rfl) (by kernel_rfl) (fun _ _ _ h => h) (.inl ⟨by kernel_rfl, fun w hw => by go_simp⟩) hSc3 ?_
                  refine wpAnyH_done (by kernel_rfl) ?_ _
                  go_simp
                  go_wp2_with fail
                  go_ret
                  exact ⟨rfl, HB8.out.trans ((HC9.out.below (B := W.heap.size) (fun k hk => by have := HTS8.out k hk; have := HB4.out.size; omega) HB8.out.size).trans (((drewb w9).trans hSc3).mono (by have := HB8.out.size; have := HC9.out.size; omega)))⟩
end Go.Proofs.Ytpjfnmmgfmfcfaa
