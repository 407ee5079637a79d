/- Labels as texts: the program's Parse. -/
import Derived.Test.YtmieioaklgdbdaaDoorLabX
set_option linter.unusedVariables false
set_option linter.unusedSimpArgs false
namespace Go.Proofs.YtmieioaklgdbdaaDoor
open Go.RowKit

def lastI (cs : List Nat) : Int := match cs.getLast? with | none => -1 | some c => c
theorem lastI_snoc (cs : List Nat) (c : Nat) : lastI (cs ++ [c]) = c := by simp [lastI]
theorem last_cases (cs : List Nat) : cs = [] ∨ ∃ p x, cs = p ++ [x] := by
  rcases List.eq_nil_or_concat cs with h | ⟨p, x, h⟩
  · exact .inl h
  · exact .inr ⟨p, x, by simpa using h⟩
def strLen : Value → Nat
  | .string s => s.size
  | _ => 0
theorem strLen_of (l : List UInt8) : strLen (strV l) = l.length := str_size l
def CatI (cs : List Nat) (a : Int) : Prop := a = lastI cs ∧ ∀ c ∈ cs, c ≤ 99
theorem CatI.next {cs : List Nat} {a : Int} (h : CatI cs a) {c : Nat} (hc : c ≤ 99) : CatI (cs ++ [c]) c :=
  ⟨(lastI_snoc cs c).symm, fun d hd => by
    rcases List.mem_append.mp hd with h' | h'
    · exact h.2 d h'
    · simp only [List.mem_singleton] at h'; omega⟩

set_option maxHeartbeats 4000000 in
theorem labParse_any (l : List UInt8) (hl : l.length ≤ 1000) (w : World) : Calls Tryd.prog 5 #[strV l] w fun e w' => e = .returned (retR (parseR l)) ∧ Below w.heap.size w w' := by
  have HNUM := Lib.hid (number_any l (by omega))
  obtain ⟨V, hV⟩ : ∃ V, V = strV l := ⟨_, rfl⟩
  rw [← hV] at HNUM ⊢
  clear hV
  go_enter Tryd.func5, Tryd.ntmps5
  go_upto_region 1 with fail
  obtain ⟨w0, hw0⟩ : ∃ w0, w0 = w.alloc (.cells #[.int .u8 0, .int .u16 0] 24) := ⟨_, rfl⟩
  have g0 : w0.rowIs w.heap.size 24 2 (labRow (0, 0)) := by rw [hw0]; exact labRow_new w 24 (0, 0)
  have hb0 : Below w.heap.size w w0 := by rw [hw0]; exact bnew _ _
  rw [← hw0]
  clear hw0
  obtain ⟨gr, hgr⟩ : ∃ gr, gr = w.heap.size := ⟨_, rfl⟩
  rw [← hgr] at g0 ⊢
  have HB0 := Lib.hid hb0
  have HG0 := Lib.hid g0
  have HSZ := Lib.hid hgr
  clear hb0 g0 hgr
  go_wp2_with fail
  refine (HNUM.out _).mono ?_
  rintro e w1 ⟨he, hb1⟩; subst he
  have HB1 := Lib.hid (bnext HB0.out hb1)
  have HR1 := Lib.hid (HG0.out.of_block (hb1.block _ HG0.out.lt))
  clear hb1
  cases hnum : numL l with
  | none =>
    have HA := Lib.hid (show parseR l = ((0, 0), 28) from parse_none hnum)
    have hnR : numR l = .tuple #[.int .i64 0, strV l, .bool false] := by rw [numR, hnum]
    rw [hnR]
    obtain ⟨V2, hV2⟩ : ∃ V2, V2 = strV l := ⟨_, rfl⟩
    rw [← hV2]
    clear hnum hnR hV2
    have f0 := HR1.out.frozen
    have e00 := labRow0 HR1.out
    have e01 := labRow1 HR1.out
    have hrun : (loadVar 24 ⟨gr, 0, none⟩).run Tryd.prog ((w1.setCell ⟨gr, 0, none⟩ (.int .u8 0)).setCell ⟨gr, 1, none⟩ (.int .u16 0)) = .ok (labV (0, 0)) ((w1.setCell ⟨gr, 0, none⟩ (.int .u8 0)).setCell ⟨gr, 1, none⟩ (.int .u16 0)) := lab_load (labRow_set HR1.out 0 0)
    have hBE := Lib.hid (((HB1.out).setCell (p := ⟨gr, 0, none⟩) (Nat.le_of_eq HSZ.out.symm) (.int .u8 0)).setCell (p := ⟨gr, 1, none⟩) (Nat.le_of_eq HSZ.out.symm) (.int .u16 0))
    go_wp2_with fail
    exact bodyPost_ret (v := retR ((0, 0), 28)) (by simp [results, Tryd.results5, Act.put, asAddr, hrun, retR]) rfl ⟨by rw [HA.out], hBE.out⟩
  | some q =>
    obtain ⟨lv, r⟩ := q
    have HA := Lib.hid (show parseR l = restR lv [] (-1) 58 r from by rw [parseR, hnum])
    obtain ⟨-, hlv, hrl⟩ := numL_back hnum
    have hnR : numR l = .tuple #[.int .i64 lv, strV r, .bool true] := by rw [numR, hnum]
    rw [hnR]
    obtain ⟨V2, hV2⟩ : ∃ V2, V2 = strV r := ⟨_, rfl⟩
    rw [← hV2]
    have HV2 := Lib.hid hV2
    clear hnum hnR hV2
    go_wp2_with fail
    go_loopw [3, 5, 7, 8] (fun r3 r5 r7 r8 wx => r3 = .int .i64 0 ∧ ∃ (rest : List UInt8) (cs : List Nat) (a : Int) (sg : UInt8), r5 = strV rest ∧ r8 = .int .u8 sg.toNat ∧ wx.ownsRow (gr + 1) 3 1 r7 cs.length (ints cs) ∧ parseR l = restR lv cs a sg rest ∧ CatI cs a ∧ cs.length + rest.length ≤ l.length ∧ wx.rowIs gr 24 2 (labRow (0, 0)) ∧ Below w.heap.size w wx) (fun _ r5 _ _ _ => strLen r5)
    case atStart => exact ⟨rfl, r, [], -1, 58, HV2.out, rfl, World.ownsRow_nil _ _ _ _, HA.out, ⟨rfl, by simp⟩, by simp; omega, HR1.out, HB1.out⟩
    case round =>
      clear HA HV2
      obtain ⟨rfl, rest, cs, a, sg, rfl, rfl, hown, hpar, hci, hlen, hrow, hb⟩ := hrel
      have HO := Lib.hid hown
      have HP := Lib.hid hpar
      have HCI := Lib.hid hci
      have HB := Lib.hid hb
      have HR := Lib.hid hrow
      have hgw : gr < wr.heap.size := hrow.lt
      obtain ⟨A, cap, rfl⟩ := own_form hown
      clear hown hpar hci hb hrow
      cases rest with
      | nil =>
        have HA := Lib.hid (show parseR l = mkR lv cs from HP.out)
        have hcl1000 : cs.length ≤ 1000 := by simp at hlen; omega
        have HMK := Lib.hid (labMake_any lv (.slice A cs.length cap) (intsI cs) wr (SI.ofRow (SR.of_own HO.out) (fun c hc => by have := HCI.out.2 c hc; omega)) (by rw [intsI_len]; exact hcl1000))
        unfold strV
        go_wp2_with fail
        refine HMK.out.mono ?_
        rintro e w2 ⟨hor, hb2⟩
        have HB2 := Lib.hid (bnext HB.out hb2)
        have HR2 := Lib.hid (HR.out.of_block (hb2.block _ HR.out.lt))
        clear hb2
        rcases hor with ⟨hmk, he⟩ | ⟨hmk, he⟩
        · subst he
          have HA2 := Lib.hid (HA.out.trans (mkR_yes hmk))
          obtain ⟨o, ho⟩ : ∃ o, o = orAll (intsI cs) := ⟨_, rfl⟩
          rw [← ho] at HA2 ⊢
          clear hmk ho
          rw [Int.toNat_natCast]
          unfold labV
          have f0 := HR2.out.frozen
          have e00 := labRow0 HR2.out
          have e01 := labRow1 HR2.out
          have hrun : (loadVar 24 ⟨gr, 0, none⟩).run Tryd.prog ((w2.setCell ⟨gr, 0, none⟩ (.int .u8 lv)).setCell ⟨gr, 1, none⟩ (.int .u16 o)) = .ok (labV (lv, o)) ((w2.setCell ⟨gr, 0, none⟩ (.int .u8 lv)).setCell ⟨gr, 1, none⟩ (.int .u16 o)) := lab_load (labRow_set HR2.out lv o)
          have hBE := Lib.hid (((HB2.out).setCell (p := ⟨gr, 0, none⟩) (Nat.le_of_eq HSZ.out.symm) (.int .u8 lv)).setCell (p := ⟨gr, 1, none⟩) (Nat.le_of_eq HSZ.out.symm) (.int .u16 o))
          go_wp2_with fail
          exact bodyPost_ret (v := retR ((lv, o), 0)) (by simp [results, Tryd.results5, Act.put, asAddr, hrun, retR]) rfl ⟨by rw [HA2.out], hBE.out⟩
        · subst he
          have HA2 := Lib.hid (HA.out.trans (mkR_no hmk))
          clear hmk
          unfold labV
          have f0 := HR2.out.frozen
          have e00 := labRow0 HR2.out
          have e01 := labRow1 HR2.out
          have hrun : (loadVar 24 ⟨gr, 0, none⟩).run Tryd.prog ((w2.setCell ⟨gr, 0, none⟩ (.int .u8 0)).setCell ⟨gr, 1, none⟩ (.int .u16 0)) = .ok (labV (0, 0)) ((w2.setCell ⟨gr, 0, none⟩ (.int .u8 0)).setCell ⟨gr, 1, none⟩ (.int .u16 0)) := lab_load (labRow_set HR2.out 0 0)
          have hBE := Lib.hid (((HB2.out).setCell (p := ⟨gr, 0, none⟩) (Nat.le_of_eq HSZ.out.symm) (.int .u8 0)).setCell (p := ⟨gr, 1, none⟩) (Nat.le_of_eq HSZ.out.symm) (.int .u16 0))
          go_wp2_with fail
          exact bodyPost_ret (v := retR ((0, 0), 27)) (by simp [results, Tryd.results5, Act.put, asAddr, hrun, retR]) rfl ⟨by rw [HA2.out], hBE.out⟩
      | cons b u =>
        have HNU := Lib.hid (number_any u (by simp at hlen; omega))
        obtain ⟨s, hs, hsz, hx0, hfr, hne⟩ : ∃ s : ByteArray, s = ⟨(b :: u).toArray⟩ ∧ s.size = u.length + 1 ∧ (∀ h, s[0]'h = b) ∧ s.extract 1 (u.length + 1) = ⟨u.toArray⟩ ∧ (s.toList == []) = false :=
          ⟨_, rfl, str_size _, fun h => rfl, by have := str_from (b :: u) 1; rwa [str_size] at this, by rw [str_list]; rfl⟩
        unfold strV
        rw [← hs]
        clear hs
        by_cases hbs : b = sg
        · subst hbs
          go_wp2_with fail
          refine (HNU.out _).mono ?_
          rintro e w2 ⟨he, hb2⟩; subst he
          have HB2 := Lib.hid (bnext HB.out hb2)
          have HR2 := Lib.hid (HR.out.of_block (hb2.block _ HR.out.lt))
          have HO2 := Lib.hid (own_below HO.out hb2)
          have hgw2 : gr < w2.heap.size := HR2.out.lt
          clear hb2
          cases hnu : numL u with
          | none =>
            have hnR : numR u = .tuple #[.int .i64 0, strV u, .bool false] := by rw [numR, hnu]
            have HA := Lib.hid (show parseR l = ((0, 0), 28) from by rw [HP.out, restR_none hnu]; rfl)
            rw [hnR]
            obtain ⟨V3, hV3⟩ : ∃ V3, V3 = strV u := ⟨_, rfl⟩
            rw [← hV3]
            clear hnR hV3 hnu
            have f0 := HR2.out.frozen
            have e00 := labRow0 HR2.out
            have e01 := labRow1 HR2.out
            have hrun : (loadVar 24 ⟨gr, 0, none⟩).run Tryd.prog ((w2.setCell ⟨gr, 0, none⟩ (.int .u8 0)).setCell ⟨gr, 1, none⟩ (.int .u16 0)) = .ok (labV (0, 0)) ((w2.setCell ⟨gr, 0, none⟩ (.int .u8 0)).setCell ⟨gr, 1, none⟩ (.int .u16 0)) := lab_load (labRow_set HR2.out 0 0)
            have hBE := Lib.hid (((HB2.out).setCell (p := ⟨gr, 0, none⟩) (Nat.le_of_eq HSZ.out.symm) (.int .u8 0)).setCell (p := ⟨gr, 1, none⟩) (Nat.le_of_eq HSZ.out.symm) (.int .u16 0))
            go_wp2_with fail
            exact bodyPost_ret (v := retR ((0, 0), 28)) (by simp [results, Tryd.results5, Act.put, asAddr, hrun, retR]) rfl ⟨by rw [HA.out], hBE.out⟩
          | some q =>
            obtain ⟨c, more⟩ := q
            obtain ⟨-, hc99, hml⟩ := numL_back hnu
            have hnR : numR u = .tuple #[.int .i64 c, strV more, .bool true] := by rw [numR, hnu]
            have HNUM2 := Lib.hid hnu
            rw [hnR]
            obtain ⟨V3, hV3⟩ : ∃ V3, V3 = strV more := ⟨_, rfl⟩
            rw [← hV3]
            have HV3 := Lib.hid hV3
            clear hnR hV3 hnu
            rcases last_cases cs with hcs | ⟨pre, x, hcs⟩
            · have HN := Lib.hid (show parseR l = restR lv (cs ++ [c]) c 44 more from by rw [HP.out]; exact restR_next HNUM2.out (by rw [HCI.out.1, hcs]; show (-1 : Int) < c; omega))
              have hC0 : cs.length = 0 := by rw [hcs]; rfl
              obtain ⟨C, hC⟩ : ∃ C, C = cs.length := ⟨_, rfl⟩
              rw [← hC] at hC0 HO2 ⊢
              have HC := Lib.hid hC
              clear hC hcs
              subst hC0
              go_wp2_with (with_reducible refine wpList_stop (some 56) rfl ?_)
              refine Lib.hid ?_
              refine wpList_append_sr rfl (.tmp 53) (.tmp 55) 37 rfl (some 56) rfl (gr + 1) 3 (.int .i64 0) 1 8 Tryd.underlying37 int_row rfl (by omega) (.slice A 0 cap) (.slice (some ⟨w2.heap.size, 0, none⟩) 1 1) 0 1
                (ints cs) [.int .i64 c] rfl (own_below HO2.out (bnew _ _)) rfl (SR.of_own (World.ownsRow_lit w2 #[.int .i64 c] 1 (Nat.le_refl _) (by simp [maxLen]) rfl)) (fun u hu => by simp only [List.mem_singleton] at hu; subst hu; rfl) (by simp [maxLen]; try omega) (by omega) (by simp; omega) ?_
              intro v' w5 hown5 hg5 hat5
              have hr5 := HR2.out.of_block (w' := w5) (by rw [hg5.block _ (by simp; omega) (fun h => by have := (HO2.out.lt _ h.symm).1; omega), Below.heap_alloc _ _ _ HR2.out.lt])
              have hb5 := ((bnext HB2.out (bnew _ _)).grown hg5 (by have := HB2.out.size; simp; omega) (fun j hj => by have := (HO2.out.lt _ hj).1; have := HSZ.out; omega))
              have HO5 := Lib.hid hown5
              have HR5 := Lib.hid hr5
              have HB5 := Lib.hid hb5
              clear hown5 hg5 hat5 hr5 hb5
              go_wp2_with fail
              go_roundw
              case rel =>
                refine ⟨rfl, more, cs ++ [c], c, 44, HV3.out, rfl, ?_, HN.out, HCI.out.next hc99, ?_, HR5.out, HB5.out⟩
                · rw [List.length_append, ← HC.out, ints_app]; exact HO5.out
                · simp at hlen ⊢; omega
              case measure => rw [HV3.out]; show strLen (strV more) < s.size; rw [strLen_of]; omega
            · have hlast : (cs.length : Int) - 1 = (pre.length : Int) := by rw [hcs]; simp
              have hlast2 : cs.length - 1 = pre.length := by rw [hcs]; simp
              have hC1 : (0 : Int) < cs.length := by rw [hcs]; simp
              have hC2 : 0 < cs.length := by rw [hcs]; simp
              have hC3 : pre.length < cs.length := by rw [hcs]; simp
              have hC4 : (pre.length : Int) < cs.length := by omega
              obtain ⟨g, off, hA, hcell⟩ : ∃ g off, A = some ⟨g, off, none⟩ ∧ w2.cell? ⟨g, off + pre.length, none⟩ = some (.int .i64 x) := by
                rcases (SR.of_own HO2.out).cases with ⟨h, _⟩ | ⟨_, g, off, c1, hs, _, _, hg, hcc⟩
                · omega
                injection hs with e1 _ _
                refine ⟨g, off, e1, ?_⟩
                rw [hcc pre.length (by omega)]
                unfold ints
                rw [List.getElem?_map, hcs]
                simp
              subst hA
              have hcl1000 : cs.length ≤ 1000 := by omega
              have hx99 : x ≤ 99 := HCI.out.2 x (by rw [hcs]; simp)
              have hlastx : lastI cs = (x : Int) := by rw [hcs]; exact lastI_snoc _ _
              by_cases hcx : c ≤ x
              · have HA := Lib.hid (show parseR l = ((0, 0), 28) from by rw [HP.out, restR_low HNUM2.out (by rw [HCI.out.1, hlastx]; omega)]; rfl)
                have hcx' : (c : Int) ≤ x := by omega
                obtain ⟨C, hC⟩ : ∃ C, C = cs.length := ⟨_, rfl⟩
                obtain ⟨P, hP⟩ : ∃ P, P = pre.length := ⟨_, rfl⟩
                rw [← hC] at hlast hC1 hC2 hC3 hC4 hlast2 hcl1000 ⊢
                rw [← hP] at hlast hcell hC3 hC4 hlast2
                clear hC hP hcs
                have f0 := HR2.out.frozen
                have e00 := labRow0 HR2.out
                have e01 := labRow1 HR2.out
                have hrun : (loadVar 24 ⟨gr, 0, none⟩).run Tryd.prog ((w2.setCell ⟨gr, 0, none⟩ (.int .u8 0)).setCell ⟨gr, 1, none⟩ (.int .u16 0)) = .ok (labV (0, 0)) ((w2.setCell ⟨gr, 0, none⟩ (.int .u8 0)).setCell ⟨gr, 1, none⟩ (.int .u16 0)) := lab_load (labRow_set HR2.out 0 0)
                have hBE := Lib.hid (((HB2.out).setCell (p := ⟨gr, 0, none⟩) (Nat.le_of_eq HSZ.out.symm) (.int .u8 0)).setCell (p := ⟨gr, 1, none⟩) (Nat.le_of_eq HSZ.out.symm) (.int .u16 0))
                go_wp2_with fail
                exact bodyPost_ret (v := retR ((0, 0), 28)) (by simp [results, Tryd.results5, Act.put, asAddr, hrun, retR]) rfl ⟨by rw [HA.out], hBE.out⟩
              · have HN := Lib.hid (show parseR l = restR lv (cs ++ [c]) c 44 more from by rw [HP.out]; exact restR_next HNUM2.out (by rw [HCI.out.1, hlastx]; omega))
                have hcx' : decide ((c : Int) ≤ x) = false := by rw [decide_eq_false_iff_not]; omega
                have hcx'n : decide (c ≤ x) = false := by rw [decide_eq_false_iff_not]; omega
                obtain ⟨C, hC⟩ : ∃ C, C = cs.length := ⟨_, rfl⟩
                obtain ⟨P, hP⟩ : ∃ P, P = pre.length := ⟨_, rfl⟩
                rw [← hC] at hlast hC1 hC2 hC3 hC4 hlast2 hcl1000 HO2 ⊢
                rw [← hP] at hlast hcell hC3 hC4 hlast2
                have HC := Lib.hid hC
                clear hC hP hcs
                go_wp2_with (with_reducible refine wpList_stop (some 56) rfl ?_)
                refine Lib.hid ?_
                refine wpList_append_sr rfl (.tmp 53) (.tmp 55) 37 rfl (some 56) rfl (gr + 1) 3 (.int .i64 0) 1 8 Tryd.underlying37 int_row rfl (by omega) (.slice (some ⟨g, off, none⟩) C cap) (.slice (some ⟨w2.heap.size, 0, none⟩) 1 1) C 1
                  (ints cs) [.int .i64 c] rfl (own_below HO2.out (bnew _ _)) rfl (SR.of_own (World.ownsRow_lit w2 #[.int .i64 c] 1 (Nat.le_refl _) (by simp [maxLen]) rfl)) (fun u hu => by simp only [List.mem_singleton] at hu; subst hu; rfl) (by simp [maxLen]; try omega) (by omega) (by simp; omega) ?_
                intro v' w5 hown5 hg5 hat5
                have hr5 := HR2.out.of_block (w' := w5) (by rw [hg5.block _ (by simp; omega) (fun h => by have := (HO2.out.lt _ h.symm).1; omega), Below.heap_alloc _ _ _ HR2.out.lt])
                have hb5 := ((bnext HB2.out (bnew _ _)).grown hg5 (by have := HB2.out.size; simp; omega) (fun j hj => by have := (HO2.out.lt _ hj).1; have := HSZ.out; omega))
                have HO5 := Lib.hid hown5
                have HR5 := Lib.hid hr5
                have HB5 := Lib.hid hb5
                clear hown5 hg5 hat5 hr5 hb5
                go_wp2_with fail
                go_roundw
                case rel =>
                  refine ⟨rfl, more, cs ++ [c], c, 44, HV3.out, rfl, ?_, HN.out, HCI.out.next hc99, ?_, HR5.out, HB5.out⟩
                  · rw [List.length_append, ← HC.out, ints_app]; exact HO5.out
                  · simp at hlen ⊢; omega
                case measure => rw [HV3.out]; show strLen (strV more) < s.size; rw [strLen_of]; omega
        · have HA := Lib.hid (show parseR l = ((0, 0), 28) from by rw [HP.out, restR_bad hbs]; rfl)
          have g44 : ((b.toNat : Int) == (sg.toNat : Int)) = false := by
            rw [beq_eq_false_iff_ne]
            intro e
            exact hbs (UInt8.toNat_inj.mp (by omega))
          have g44n : (b.toNat == sg.toNat) = false := by
            rw [beq_eq_false_iff_ne]
            intro e
            exact hbs (UInt8.toNat_inj.mp (by omega))
          clear hbs
          have f0 := HR.out.frozen
          have e00 := labRow0 HR.out
          have e01 := labRow1 HR.out
          have hrun : (loadVar 24 ⟨gr, 0, none⟩).run Tryd.prog ((wr.setCell ⟨gr, 0, none⟩ (.int .u8 0)).setCell ⟨gr, 1, none⟩ (.int .u16 0)) = .ok (labV (0, 0)) ((wr.setCell ⟨gr, 0, none⟩ (.int .u8 0)).setCell ⟨gr, 1, none⟩ (.int .u16 0)) := lab_load (labRow_set HR.out 0 0)
          have hBE := Lib.hid (((HB.out).setCell (p := ⟨gr, 0, none⟩) (Nat.le_of_eq HSZ.out.symm) (.int .u8 0)).setCell (p := ⟨gr, 1, none⟩) (Nat.le_of_eq HSZ.out.symm) (.int .u16 0))
          go_wp2_with fail
          exact bodyPost_ret (v := retR ((0, 0), 28)) (by simp [results, Tryd.results5, Act.put, asAddr, hrun, retR]) rfl ⟨by rw [HA.out], hBE.out⟩
end Go.Proofs.YtmieioaklgdbdaaDoor
