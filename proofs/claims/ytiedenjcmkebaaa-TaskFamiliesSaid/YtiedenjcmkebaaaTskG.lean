/- Whose turn it is: the chapter's example; TurnBounds. -/
import Derived.Test.YtiedenjcmkebaaaTskF
import Derived.Test.YtiedenjcmkebaaaSpcD
import Derived.LaidEqlPtr
set_option linter.unusedVariables false
set_option linter.unusedSimpArgs false
namespace Go.Proofs.Ytiedenjcmkebaaa
open Go.RowKit
open Go.Maps (Keyed)

/-- A size with so many pages and processes of the first two labels. -/
def hvX (a b c d : Nat) : Array Value := #[.int .u8 0, .int .u8 0, .int .u8 0, .int .u8 a, .int .u8 b, .int .u8 0, .int .u8 0, .int .u8 0, .int .u8 c, .int .u8 d, .int .u8 0, .int .u8 0, .int .u8 0, .int .u8 0, .int .u8 0, .int .u8 0, .int .u8 0, .int .u8 0, .int .u8 0, .int .u8 0, .int .u8 0, .int .u8 0, .int .u8 0, .int .u8 0, .int .u8 0, .int .u8 0, .slice none 0 0]
def hvS (a b c d : Nat) : SizeL := ⟨0, fun i => if i = 2 then a else if i = 3 then b else if i = 7 then c else if i = 8 then d else 0, []⟩
theorem hvX_ok (w : World) (a b c d : Nat) (ha : a ≤ 255) (hb : b ≤ 255) (hc : c ≤ 255) (hd : d ≤ 255) : SizeV w (.agg (hvX a b c d)) (hvS a b c d) := by
  refine ⟨hvX a b c d, .slice none 0 0, rfl, rfl, rfl, ?_, rfl, SI.nil w _, by simp [hvS], fun i => ?_⟩
  · intro i hi
    iterate 25 (rcases i with _ | i; · rfl)
    omega
  · simp only [hvS]
    split
    · exact ha
    · split
      · exact hb
      · split
        · exact hc
        · split
          · exact hd
          · omega
theorem hvS_len (a b c d : Nat) : (sizeRegs (hvS a b c d)).length = 2 := by rw [sizeRegs_length]; rfl
theorem sizePr (s : SizeL) (k : Nat) (h : k < (sizeRegs s).length) : (sizeRegs s)[k].pr = 1 + s.h (k * 5 + 3) % 6 := by rw [sizeRegs_get]; rfl
theorem sizePr_le (s : SizeL) : ∀ r ∈ sizeRegs s, r.pr ≤ 16 := fun r hr => by
  obtain ⟨k, hk, rfl⟩ := List.mem_iff_getElem.1 hr
  rw [sizePr]
  omega

/-- '==' on pointers to processes. -/
theorem proc_info : ∃ j, Try.prog.info? 85 = some j ∧ j.size ≠ 0 := by
  obtain ⟨j, hj⟩ := Option.isSome_iff_exists.1 (show (Try.prog.info? 85).isSome = true by kernel_rfl)
  refine ⟨j, hj, ?_⟩
  have : (Try.prog.info? 85).map (·.size) = some 57 := by kernel_rfl
  rw [hj] at this
  have h : j.size = 57 := Option.some.inj this
  rw [h]; decide
theorem eqlProc_same (b : Nat) (w : World) : (binOp .eql 63 (.pointer (some ⟨b, 0, none⟩)) (.pointer (some ⟨b, 0, none⟩))).run Try.prog w = .ok (.bool true) w := by
  obtain ⟨j, hj, _⟩ := proc_info
  exact run_eql_ptr_same w _ Try.underlying63 hj
theorem eqProc_same (b : Nat) (w : World) : (Op.equalIn 10000 63 (.pointer (some ⟨b, 0, none⟩)) (.pointer (some ⟨b, 0, none⟩))).run Try.prog w = .ok true w := by
  obtain ⟨j, hj, _⟩ := proc_info
  have h : ∀ d : Nat, (Op.equalIn (d + 1) 63 (.pointer (some ⟨b, 0, none⟩)) (.pointer (some ⟨b, 0, none⟩))).run Try.prog w = .ok true w := fun d => by
    simp [Op.equalIn, run_underlying Try.underlying63, sizeOf, typeInfo, hj, run_sameAddr_same]
  exact h 9999
theorem eqProc_other {b b' : Nat} {ca cb : Array Value} {ta tb : TypeId} (hne : b ≠ b') (w : World) (ha : w.heap[b]? = some (.cells ca ta (0, 0))) (hb : w.heap[b']? = some (.cells cb tb (0, 0))) :
    (Op.equalIn 10000 63 (.pointer (some ⟨b, 0, none⟩)) (.pointer (some ⟨b', 0, none⟩))).run Try.prog w = .ok false w := by
  obtain ⟨j, hj, hsz⟩ := proc_info
  have h1 := run_sameAddr_other (P := Try.prog) w (a := ⟨b, 0, none⟩) (b := ⟨b', 0, none⟩) (fun e => hne (by injection e)) ha hb
  have h : ∀ d : Nat, (Op.equalIn (d + 1) 63 (.pointer (some ⟨b, 0, none⟩)) (.pointer (some ⟨b', 0, none⟩))).run Try.prog w = .ok false w := fun d => by
    simp [Op.equalIn, run_underlying Try.underlying63, sizeOf, typeInfo, hj, hsz, h1]
  exact h 9999

set_option maxRecDepth 100000 in
set_option maxHeartbeats 8000000 in
theorem turnAwake_in (W : World) : Calls Try.prog 11 #[] W fun e w' => e = .returned (.bool true) ∧ Below W.heap.size W w' := by
  have hX := fun w => hvX_ok w 0 3 0 0 (by omega) (by omega) (by omega) (by omega)
  unfold hvX at hX
  go_enter Try.func11, Try.ntmps11
  go_wp2_with fail
  refine (sizeConf_in _ _ (hvS 0 3 0 0) (hX _)).mono ?_; rintro e w1 ⟨hb1, cg, gT, gN, gL, v', m', u', rfl, hcf⟩
  have HP := Lib.hid (hcf.toP (sizeLe _) (sizeOk _))
  have HB1 := Lib.hid hb1
  clear hcf hb1 hX
  go_wp2_with fail
  refine (turnNew_in _ _).mono ?_; rintro e w2 ⟨gt, rfl, hgt, hu, hb2⟩
  go_wp2_with fail
  refine (taskNew_in _ _).mono ?_; rintro e w3 ⟨g, gm, rfl, hg, hgm, ht, hb3⟩
  have HU3 := Lib.hid (show TU w3 gt (some ⟨cg, 0, none⟩) (fun _ => 0) 0 0 from hu.of_block (hb3.block gt hu.lt))
  have HT3 := Lib.hid ht
  have HB3 := Lib.hid (bnext hb2 hb3)
  have HG := Lib.hid (show w1.heap.size ≤ gt ∧ w1.heap.size ≤ g ∧ w1.heap.size ≤ gm ∧ w1.heap.size ≤ w2.heap.size by have := hb2.size; omega)
  have HGG := Lib.hid (And.intro hg hgm)
  clear hu hb2 hb3 ht hgt hg hgm
  go_wp2_with fail
  have hadd := taskAdd_ok HP.out HB3.out HT3.out HG.out.2.1 HG.out.2.2.1 (by have := HGG.out.1; have := HT3.out.tp.row.lt; omega) 0 1 (by rw [hvS_len]; omega) (sizeLe64 _) 0 (by rw [sizePr]; decide) (by simp) (by omega) (by omega) rfl (fun m h1 h2 => by omega)
  refine hadd.mono ?_
  rintro e w4 ⟨x1, rfl, hx1, ht4, hd4⟩
  have HT4 := Lib.hid ht4
  have HB4 := Lib.hid (Duo.go HB3.out hd4 HG.out.2.1 HG.out.2.2.1 HB3.out.size)
  have HU4 := Lib.hid (show TU w4 gt (some ⟨cg, 0, none⟩) (fun _ => 0) 0 0 from HU3.out.of_block (hd4.block gt HU3.out.lt (fun e => HU3.out.notS HT3.out (.inl e)) (fun e => HU3.out.notS HT3.out (.inr (.inl e)))))
  clear hadd ht4 hd4
  go_wp2_with fail
  have hadd := taskAdd_ok HP.out HB4.out HT4.out HG.out.2.1 HG.out.2.2.1 (by have := HGG.out.1; have := HT4.out.tp.row.lt; omega) 0 2 (by rw [hvS_len]; omega) (sizeLe64 _) 0 (by rw [sizePr]; exact (by decide : 1 < 1 + 3 % 6)) (by rw [setT_same]; simp [insE]) (by omega) (by omega) rfl (fun m h1 h2 => by
    obtain rfl : m = 1 := by omega
    simp [tF, setT, insE, newP])
  refine hadd.mono ?_
  rintro e w5 ⟨x2, rfl, hx2, ht5, hd5⟩
  have HU5 := Lib.hid (show TU w5 gt (some ⟨cg, 0, none⟩) (fun _ => 0) 0 0 from HU4.out.of_block (hd5.block gt HU4.out.lt (fun e => HU4.out.notS HT4.out (.inl e)) (fun e => HU4.out.notS HT4.out (.inr (.inl e)))))
  have HB5 := Lib.hid (Duo.go HB4.out hd5 HG.out.2.1 HG.out.2.2.1 HB4.out.size)
  obtain ⟨T, hT⟩ : ∃ T, T = (setT (setT (fun x => []) 0 (insE ((fun x => []) 0) { blk := x1, pr := newP 0 1 0 (sizeRegs (hvS 0 3 0 0))[0].cl })) 0 (insE (setT (fun x => []) 0 (insE ((fun x => []) 0) { blk := x1, pr := newP 0 1 0 (sizeRegs (hvS 0 3 0 0))[0].cl }) 0) { blk := x2, pr := newP 0 2 0 (sizeRegs (hvS 0 3 0 0))[0].cl })) := ⟨_, rfl⟩
  rw [← hT] at ht5
  have hT0 : T 0 = [⟨x1, newP 0 1 0 (sizeRegs (hvS 0 3 0 0))[0].cl⟩, ⟨x2, newP 0 2 0 (sizeRegs (hvS 0 3 0 0))[0].cl⟩] := by rw [hT]; rfl
  obtain ⟨c1, hc1⟩ : ∃ c, c = (sizeRegs (hvS 0 3 0 0))[0].cl := ⟨_, rfl⟩
  rw [← hc1] at hT0
  have HT5 := Lib.hid ht5
  have HT0 := Lib.hid hT0
  clear hadd ht5 hd5 hT hc1 hT0
  go_wp2_with fail
  refine (turnPick_in HT5.out HU5.out 0 (by omega)).mono ?_
  rintro e w6 ⟨rfl, ht6, hu6, hc6⟩
  have hp6 : pickL (T 0) ((fun _ => 0) 0) = some ⟨x1, newP 0 1 0 c1⟩ := by rw [HT0.out]; rfl
  have hl6 : pickLast (T 0) (fun _ => 0) 0 = setN (fun _ => 0) 0 1 := by unfold pickLast; rw [hp6]; rfl
  rw [hp6]
  rw [hl6] at hu6
  simp only [ptrO, Option.map_some]
  have HT6 := Lib.hid ht6
  have HU6 := Lib.hid hu6
  have HB6 := Lib.hid (Chg.go HB5.out hc6 (fun k hk => by rw [hk]; exact HG.out.1) HB5.out.size)
  clear ht6 hu6 hc6 hp6 hl6
  go_wp2_with fail
  refine (turnPick_in HT6.out HU6.out 0 (by omega)).mono ?_
  rintro e w7 ⟨rfl, ht7, hu7, hc7⟩
  have hp7 : pickL (T 0) (setN (fun _ => 0) 0 1 0) = some ⟨x2, newP 0 2 0 c1⟩ := by rw [HT0.out]; rfl
  have hl7 : pickLast (T 0) (setN (fun _ => 0) 0 1) 0 = setN (setN (fun _ => 0) 0 1) 0 2 := by unfold pickLast; rw [hp7]; rfl
  rw [hp7]
  rw [hl7] at hu7
  simp only [ptrO, Option.map_some]
  have HT7 := Lib.hid ht7
  have HU7 := Lib.hid hu7
  have HB7 := Lib.hid (Chg.go HB6.out hc7 (fun k hk => by rw [hk]; exact HG.out.1) HB6.out.size)
  clear ht7 hu7 hc7 hp7 hl7
  go_wp2_with fail
  refine (turnPick_in HT7.out HU7.out 0 (by omega)).mono ?_
  rintro e w8 ⟨rfl, ht8, hu8, hc8⟩
  have hp8 : pickL (T 0) (setN (setN (fun _ => 0) 0 1) 0 2 0) = some ⟨x1, newP 0 1 0 c1⟩ := by rw [HT0.out]; rfl
  rw [hp8]
  simp only [ptrO, Option.map_some]
  have HB8 := Lib.hid (Chg.go HB7.out hc8 (fun k hk => by rw [hk]; exact HG.out.1) HB7.out.size)
  have r1 := ht8.pr 0 ⟨x1, newP 0 1 0 c1⟩ (by rw [HT0.out]; simp)
  have r2 := ht8.pr 0 ⟨x2, newP 0 2 0 c1⟩ (by rw [HT0.out]; simp)
  have e1 : w8.cell? ⟨x1, 1, none⟩ = some (.int .u16 1) := r1.cell (i := 1) (by omega)
  have e2 : w8.cell? ⟨x2, 1, none⟩ = some (.int .u16 2) := r2.cell (i := 1) (by omega)
  clear ht8 hu8 hc8 hp8 r1 r2
  have heq := eqProc_same x1
  have heq2 := eqlProc_same x1
  go_wp2_with fail
  go_ret
  exact ⟨rfl, HB1.out.trans (HB8.out.mono HB1.out.size)⟩

set_option maxRecDepth 100000 in
set_option maxHeartbeats 16000000 in
theorem turnBounds_walk (W : World) (v0 v1 v2 : Value) (o0 : Arg Try.prog W 26 v0) (o1 : Arg Try.prog W 27 v1) (o2 : Arg Try.prog W 5 v2) :
    Calls Try.prog 3 #[v0, v1, v2] W fun e w' => e = .returned (.bool true) ∧ Below W.heap.size W w' := by
  obtain ⟨s, S0⟩ := SizeV.of_arg o0
  have HSV := Lib.hid S0
  obtain ⟨X, tv, rfl, hX, hrest⟩ := S0
  obtain ⟨x1, rfl, h1⟩ := Arg.int Try.underlying27 o1
  obtain ⟨x2, rfl, h2⟩ := Arg.int Try.underlying5 o2
  have b1 := wf_u32 h1
  have b2 := wf_u8 h2
  obtain ⟨n, rfl⟩ : ∃ n : Nat, x1 = n := ⟨x1.toNat, by omega⟩
  obtain ⟨tk, rfl⟩ : ∃ n : Nat, x2 = n := ⟨x2.toNat, by omega⟩
  obtain ⟨rs, hrs⟩ : ∃ rs, rs = sizeRegs s := ⟨_, rfl⟩
  have hn64 : rs.length ≤ 64 := by rw [hrs]; exact sizeLe64 s
  have hn1 : 0 < rs.length := by rw [hrs, sizeRegs_length]; have := manyOf_le s; omega
  have HPR := Lib.hid (show ∀ r ∈ rs, r.pr ≤ 16 by rw [hrs]; exact sizePr_le s)
  have HRS := Lib.hid hrs
  have HX := Lib.hid (show (Try.prog.info? 26).map (·.size) = some X.size by rw [hX]; kernel_rfl)
  clear hrest hrs hX o0 o1 o2 h1 h2
  have hb0 := bnew W (.cells X 26)
  have ha0 := heap_alloc_last W (.cells X 26)
  have HSX := Lib.hid (SizeV.keep HSV.out hb0)
  clear HSV
  go_enter Try.func3, Try.ntmps3
  go_wp2_with fail
  obtain ⟨G, hG⟩ : ∃ G, G = W.heap.size := ⟨_, rfl⟩
  rw [← hG] at ha0 ⊢
  generalize W.alloc (.cells X 26) = w0 at *
  have HG := Lib.hid hG
  have HB0 := Lib.hid hb0
  have HA0 := Lib.hid ha0
  clear hG hb0 ha0
  refine (turnAwake_in _).mono ?_; rintro e w1 ⟨rfl, hb1⟩
  have HB1 := Lib.hid (bnext HB0.out hb1)
  have HA1 := Lib.hid (bkeep hb1 HA0.out)
  have HS1 := Lib.hid (SizeV.keep HSX.out hb1)
  clear hb1
  go_wp2_with (refine wpList_load_pieceTo rfl 26 (.tmp 3) rfl (some 19) rfl G 0 rfl X _ (fun j v hj => by rw [Nat.zero_add, rowcell HA1.out]; simpa using hj) Try.underlying26 rfl HX.out ?_)
  refine (sizeRegs_in _ _ s HS1.out).mono ?_; rintro e w2 ⟨hb2, rv, mv, rfl, hr, hm⟩
  rw [← HRS.out] at hr
  obtain ⟨A2, c2, hmv, _, _⟩ := (SR.of_own hm).form
  obtain ⟨gr, offr, capr, hrv, _, _, hgr, hcr⟩ := RS_cases (SR.of_own hr) hn1
  subst hrv
  subst hmv
  have HCR := Lib.hid hcr
  have HA2 := Lib.hid (bkeep hb2 HA1.out)
  have HS2 := Lib.hid (SizeV.keep HS1.out hb2)
  have HB2 := Lib.hid (bnext HB1.out hb2)
  clear hr hm hcr hb2
  go_wp2_with (refine wpList_load_pieceTo rfl 26 (.tmp 3) rfl (some 23) rfl G 0 rfl X _ (fun j v hj => by rw [Nat.zero_add, rowcell HA2.out]; simpa using hj) Try.underlying26 rfl HX.out ?_)
  refine (sizeConf_in _ _ s HS2.out).mono ?_; rintro e w3 ⟨hb3, cg, gT, gN, gL, v', m', u', rfl, hcf⟩
  have hcp := hcf.toP (sizeLe _) (sizeOk _)
  rw [← HRS.out] at hcp
  have HP := Lib.hid hcp
  have HB3 := Lib.hid (bnext HB2.out hb3)
  have HB23 := Lib.hid hb3
  clear hcf hb3 hcp
  go_wp2_with fail
  refine (turnNew_in _ _).mono ?_; rintro e w4 ⟨gt, rfl, hgt, hu, hb4⟩
  go_wp2_with fail
  refine (taskNew_in _ _).mono ?_; rintro e w5 ⟨g, gm, rfl, hg, hgm, ht, hb5⟩
  have HU5 := Lib.hid (show TU w5 gt (some ⟨cg, 0, none⟩) (fun _ => 0) 0 0 from hu.of_block (hb5.block gt hu.lt))
  have HT5 := Lib.hid ht
  have HB5 := Lib.hid (bnext hb4 hb5)
  have HGG := Lib.hid (show w3.heap.size ≤ gt ∧ w4.heap.size ≤ g ∧ w4.heap.size ≤ gm ∧ w3.heap.size ≤ w4.heap.size ∧ w4.heap.size ≤ w5.heap.size by have := hb4.size; have := hb5.size; omega)
  have HCR5 := Lib.hid (show ∀ w', Below w3.heap.size w3 w' → ∀ i (hi : i < rs.length), _ from fun w' hb i hi => by
    have e := fun o => World.cell?_of_block (w := w2) (a := ⟨gr, o, none⟩) ((hb.block gr (Nat.lt_of_lt_of_le hgr HB23.out.size)).trans (HB23.out.block gr hgr))
    have := HCR.out i hi
    simp only [← e] at this
    exact this)
  clear hu hb4 hb5 ht hgt hg hgm
  go_wp2_with fail
  go_loopw [12, 31] (fun r3 r wx => ∃ m mx : Nat, m ≤ rs.length ∧ r = .int .i64 m ∧ r3 = .int .i64 mx ∧ mx = maxTo rs m ∧ Below w5.heap.size w5 wx) (fun _ r _ => rs.length - (intOf r).toNat)
  case atStart => exact ⟨0, 0, Nat.zero_le _, rfl, rfl, rfl, Below.refl _ _⟩
  case round =>
    obtain ⟨m, mx, hm, rfl, rfl, hmx, hbr⟩ := hrel
    have HMX := Lib.hid hmx
    have HBR := Lib.hid hbr
    have hmx16 : mx ≤ 16 := by rw [hmx]; exact maxTo_le rs 16 HPR.out m hm
    clear hmx hbr
    by_cases hmr : m < rs.length
    · have f1 : (m : Int) < rs.length := by omega
      obtain ⟨d0, d1, d2, d3, d4, d5, d6, d7, d8⟩ := HCR5.out wr (bnext HB5.out HBR.out) m hmr
      have hnx := maxTo_next rs hmr
      rw [← HMX.out] at hnx
      obtain ⟨r, hr⟩ : ∃ r, r = rs[m] := ⟨_, rfl⟩
      rw [← hr] at hnx d0 d1 d2 d3 d4 d5 d6 d7 d8
      have HNX := Lib.hid hnx
      have hr16 : r.pr ≤ 16 := by rw [hr]; exact HPR.out _ (List.getElem_mem hmr)
      have hb4 := bnew wr (.cells #[.string r.name, .int .u8 r.lab.1, .int .u16 r.lab.2, .int .i64 r.bl, .int .i64 r.no, .int .i64 r.fr, .int .i64 r.pr, .int .i64 r.op, .int .i64 r.cl] 43)
      have hreg := rowcell (heap_alloc_last wr (.cells #[.string r.name, .int .u8 r.lab.1, .int .u16 r.lab.2, .int .i64 r.bl, .int .i64 r.no, .int .i64 r.fr, .int .i64 r.pr, .int .i64 r.op, .int .i64 r.cl] 43))
      have HB4 := Lib.hid (bnext HBR.out hb4)
      clear hr hnx hb4
      rcases (show r.pr ≤ mx ∨ mx < r.pr by omega) with h | h
      · have g1 : (r.pr : Int) ≤ mx := by omega
        have g2 : max (mx : Int) r.pr = mx := by omega
        clear h
        go_wp2_with fail
        go_roundw
        case rel => exact ⟨m + 1, mx, by omega, by go_num, by first | rfl | go_num, by rw [HNX.out]; omega, HB4.out⟩
        case measure => simp [intOf]; omega
      · have g1 : ¬ ((r.pr : Int) ≤ mx) := by omega
        have g2 : max (mx : Int) r.pr = r.pr := by omega
        have g3 : (mx : Int) < r.pr := by omega
        have g4 : (mx : Int) ≤ r.pr := by omega
        go_wp2_with fail
        go_roundw
        case rel => exact ⟨m + 1, r.pr, by omega, by go_num, by first | rfl | go_num, by rw [HNX.out]; omega, HB4.out⟩
        case measure => simp [intOf]; omega
    · obtain rfl : m = rs.length := by omega
      have f1 : ¬ ((rs.length : Int) < rs.length) := by omega
      have HT6 := Lib.hid (HT5.out.keep HBR.out)
      have HU6 := Lib.hid (show TU wr gt (some ⟨cg, 0, none⟩) (fun _ => 0) 0 0 from HU5.out.of_block (HBR.out.block gt HU5.out.lt))
      have HB6 := Lib.hid (bnext HB5.out HBR.out)
      go_wp2_with fail
      obtain ⟨wo, hwo⟩ : ∃ wo, wo = wr := ⟨_, rfl⟩
      subst hwo
      go_loopw [41] (fun r wx => ∃ k : Nat, k ≤ tk ∧ r = .int .u8 k ∧ TT w4.heap.size wx g gm (some ⟨cg, 0, none⟩) (fun _ => []) ∧ TU wx gt (some ⟨cg, 0, none⟩) (fun _ => 0) k 0 ∧ Below w3.heap.size w3 wx) (fun r _ => tk - (intOf r).toNat)
      case atStart => exact ⟨0, Nat.zero_le _, rfl, HT6.out, HU6.out, HB6.out⟩
      case round =>
        obtain ⟨k, hk, rfl, htk, huk, hbk⟩ := hrel
        have HTK := Lib.hid htk
        have HUK := Lib.hid huk
        have HBK := Lib.hid hbk
        clear htk huk hbk
        have hge := HGG.out
        have hgr := HTK.out.tp.row.lt
        by_cases hkt : k < tk
        · have f2 : (k : Int) < tk := by omega
          have f3 : IntKind.u8.wrap ((k : Int) + 1) = (k : Int) + 1 := by simp [IntKind.wrap, IntKind.bits, IntKind.signed]; omega
          have HTI := Lib.hid (turnTick_in HP.out HBK.out HTK.out HUK.out hge.1 hge.2.2.2.1 hge.2.1 hge.2.2.1 (by omega) hn64 (by omega))
          clear hge hgr
          go_wp2_with fail
          refine HTI.out.mono ?_
          rintro e w7 ⟨rfl, ht7, hu7, hc7⟩
          have he : wakeT (tickB (k + 1)) (fun _ => []) rs.length = fun _ => [] := by funext l; unfold wakeT; split <;> rfl
          rw [he] at ht7
          have HT7 := Lib.hid ht7
          have HU7 := Lib.hid hu7
          have HB7 := Lib.hid (Chg.go HBK.out hc7 (fun j hj => by
            have hge := HGG.out
            rcases hj with h | h | h | ⟨l, t, ht, h⟩
            · omega
            · omega
            · omega
            · exact absurd ht List.not_mem_nil) HBK.out.size)
          clear ht7 hu7 hc7 he HTI
          go_wp2_with fail
          go_roundw
          case rel => exact ⟨k + 1, by omega, by go_num, HT7.out, HU7.out, HB7.out⟩
          case measure => simp [intOf]; omega
        · obtain rfl : k = tk := by omega
          have f2 : ¬ ((k : Int) < k) := by omega
          have hmul : mx * rs.length ≤ 16 * 64 := Nat.mul_le_mul hmx16 hn64
          have f4 : IntKind.i64.wrap ((mx : Int) * rs.length) = (mx : Int) * rs.length := by
            rw [IntKind.wrap_i64]
            rw [show (mx : Int) * rs.length = ((mx * rs.length : Nat) : Int) by simp]
            omega
          have f5 : IntKind.u64.wrap (k : Int) = k := by simp [IntKind.wrap, IntKind.bits, IntKind.signed]; omega
          have f6 : IntKind.u64.wrap (n : Int) = n := by simp [IntKind.wrap, IntKind.bits, IntKind.signed]; omega
          have f7 : IntKind.u64.wrap ((k : Int) + n) = (k : Int) + n := by simp [IntKind.wrap, IntKind.bits, IntKind.signed]; omega
          have f8 : IntKind.u64.wrap ((k : Int) + 1048576) = (k : Int) + 1048576 := by simp [IntKind.wrap, IntKind.bits, IntKind.signed]; omega
          have hbd := turnBound_in HP.out HBK.out HUK.out hn64 HPR.out
          rw [← HMX.out] at hbd
          have HBD := Lib.hid hbd
          have HNU := Lib.hid (show k ≤ 1000000 by omega)
          clear hmul hbd hge hgr
          rcases (show n ≤ 1048576 ∨ 1048576 < n by omega) with hn | hn
          · have g1 : ¬ ((1048576 : Int) < n) := by omega
            go_wp2_with fail
            refine HBD.out.mono ?_
            rintro e w8 ⟨rfl, hb8⟩
            have HU8 := Lib.hid (show TU w8 gt (some ⟨cg, 0, none⟩) (fun _ => 0) k 0 from HUK.out.of_block (hb8.block gt HUK.out.lt))
            have HB8 := Lib.hid (bnext HBK.out hb8)
            clear hb8
            go_wp2_with fail
            refine (turnUntil_in HU8.out n (by omega) HNU.out).mono ?_
            rintro e w9 ⟨rfl, rfl⟩
            rw [Nat.min_eq_left hn]
            go_wp2_with fail
            refine (turnNow_in HU8.out).mono ?_
            rintro e w10 ⟨rfl, rfl⟩
            go_wp2_with fail
            go_ret
            exact ⟨rfl, HB3.out.trans (HB8.out.mono HB3.out.size)⟩
          · have g1 : (1048576 : Int) < n := by omega
            go_wp2_with fail
            refine HBD.out.mono ?_
            rintro e w8 ⟨rfl, hb8⟩
            have HU8 := Lib.hid (show TU w8 gt (some ⟨cg, 0, none⟩) (fun _ => 0) k 0 from HUK.out.of_block (hb8.block gt HUK.out.lt))
            have HB8 := Lib.hid (bnext HBK.out hb8)
            clear hb8
            go_wp2_with fail
            refine (turnUntil_in HU8.out n (by omega) HNU.out).mono ?_
            rintro e w9 ⟨rfl, rfl⟩
            rw [Nat.min_eq_right (Nat.le_of_lt hn)]
            go_wp2_with fail
            refine (turnNow_in HU8.out).mono ?_
            rintro e w10 ⟨rfl, rfl⟩
            go_wp2_with fail
            go_ret
            exact ⟨rfl, HB3.out.trans (HB8.out.mono HB3.out.size)⟩
end Go.Proofs.Ytiedenjcmkebaaa
