/- Nodes: Write. -/
import Derived.Test.YtonfnlohbgbffaaNodR
set_option linter.unusedVariables false
set_option linter.unusedSimpArgs false
namespace Go.Proofs.Ytonfnlohbgbffaa
open Go.RowKit
open Go.Maps (Keyed)

/-- 32 bytes laid into a block. -/
def pageW (f : Nat → Nat) (q : Nat) (x : Nat → Nat) (i : Nat) : Nat := if q ≤ i ∧ i < q + 32 then x (i - q) else f i
theorem pageW_u8 {f x : Nat → Nat} (hf : ∀ i, f i ≤ 255) (hx : ∀ i, x i ≤ 255) (q i : Nat) : pageW f q x i ≤ 255 := by
  unfold pageW; split
  · exact hx _
  · exact hf _
def putNode (F : Int → Option (Nat → Nat)) (D : Nat → Nat → Nat) (g : GeoL) (num : Nat) (m : NodL) : Int → Option (Nat → Nat) :=
  putF F ((atB g num : Nat) : Int) (pageW (viewB F D (atB g num)) (atO num) (encN m))
theorem viewB_putF (F : Int → Option (Nat → Nat)) (D : Nat → Nat → Nat) (p : Nat) (f : Nat → Nat) (k : Nat) : viewB (putF F (p : Int) f) D k = if k = p then f else viewB F D k := by
  unfold viewB putF
  by_cases h : k = p
  · subst h; rw [if_pos rfl, if_pos rfl]; rfl
  · rw [if_neg (by omega), if_neg h]
def setNod (N : Nat → NodL) (num : Nat) (m : NodL) (k : Nat) : NodL := if k = num then m else N k
theorem TabN.put {F : Int → Option (Nat → Nat)} {D : Nat → Nat → Nat} {g : GeoL} {N : Nat → NodL} (h : TabN F D g N) (num : Nat) (h1 : 1 ≤ num) (m : NodL) : TabN (putNode F D g num m) D g (setNod N num m) := by
  intro k hk1 hk2 j hj
  unfold putNode setNod
  rw [viewB_putF]
  by_cases hb : atB g k = atB g num
  · rw [if_pos hb]
    unfold pageW
    by_cases hk : k = num
    · subst hk
      rw [if_pos (by omega), if_pos rfl]
      congr 1; omega
    · have ho : atO k ≠ atO num := by unfold atB at hb; unfold atO; omega
      have e : (atO k = 0 ∨ atO k = 32) ∧ (atO num = 0 ∨ atO num = 32) := by unfold atO; omega
      rw [if_neg (by omega), if_neg hk, ← hb]
      exact h k hk1 hk2 j hj
  · rw [if_neg hb]
    have hk : k ≠ num := fun e => hb (by rw [e])
    rw [if_neg hk]
    exact h k hk1 hk2 j hj

/-- copy of a row of bytes into the midst of a row. -/
theorem run_copy_into {P : Program} (w : World) (dT sT ty elem : TypeId) (G off m cap : Nat) (u : Value) (n : Nat) (xs : List Value) (t : TypeId) (N : Nat) (f : Nat → Value)
    (hu : P.underlying dT = some (.slice elem)) (hs : (P.info? elem).map (·.size) = some 1) (hrow : w.rowIs G t N f) (hr : SR w u n 1 xs) (h1 : ∀ v ∈ xs, v.oneCell' = true) (hn : 0 < n) (hnm : n ≤ m) (ho : off + n ≤ N) :
    (Builtin.copy_ #[dT, sT] ty #[.slice (some ⟨G, off, none⟩) m cap, u]).run P w = .ok (goInt n) (w.setCells G off xs) := by
  cases hq : P.info? elem with
  | none => simp [hq] at hs
  | some i =>
    have hi : i.size = 1 := by simpa [hq] using hs
    rcases hr.cases with ⟨h0, _⟩ | ⟨_, b, o2, c, rfl, _, _, hb, hc⟩
    · omega
    · have hl : xs.length = n := by have := hr.1; omega
      have hld : (loadCells ⟨b, o2, none⟩ xs.length).run P w = .ok xs.toArray w := run_loadCells_list (P := P) w ⟨b, o2, none⟩ xs (fun j v hv => by
        rw [addr_add _ rfl]
        show w.cell? ⟨b, o2 + j, none⟩ = _
        have hj : j < xs.length := by
          rcases Nat.lt_or_ge j xs.length with h | h
          · exact h
          · rw [List.getElem?_eq_none h] at hv; cases hv
        rw [hc j (by omega), hv])
      have hst := run_storeCells_cells (P := P) G off xs 0 w (fun j hj => by rw [hrow.cell (by omega)]; rfl) (fun j hj => hrow.frozen _) h1
      rw [hl] at hld
      have hmin : n.min m = n := Nat.min_eq_left hnm
      simp [Builtin.copy_, run_underlying hu, Builtin.lenOf, Builtin.firstCells, sizeOf, typeInfo, hq, hi, hmin, hld, hst]
section
variable {w w' : World} {gd gb gl gt gm n lf : Nat} {F : Int → Option (Nat → Nat)} {bad : Int} {D : Nat → Nat → Nat} {left : Int} {dead : Bool} {g : GeoL} {N : Nat → NodL}
theorem viewB_le (h : TX w gd gb gl gt gm n lf F bad D left dead) (k i : Nat) : viewB F D k i ≤ 255 := by
  unfold viewB
  cases hf : F (k : Int) with
  | none => exact h.lx.dx.u8 k i
  | some f => exact (h.ok _ _ hf).1 i
set_option maxRecDepth 100000 in
set_option maxHeartbeats 4000000 in
theorem nodeWrite_range (hT : TX w gd gb gl gt gm n lf F bad D left dead) (num : Int) (h : num < 1 ∨ (g.nodes : Int) < num) (m : NodL) :
    Calls Try.prog 39 #[.pointer (some ⟨gt, 0, none⟩), .agg (rowArr 6 (geoF g)), .int .i64 num, .agg (rowArr 12 (nodF m))] w fun e w' => e = .returned (.int .i64 27) ∧ Below w.heap.size w w' := by
  have HPL := Lib.hid (nodePlace_no num h)
  clear h hT
  go_enter Try.func39, Try.ntmps39
  go_wp2_with (first
    | (refine wpList_box_row rfl 84 (.tmp 1) rfl (some 5) rfl 6 (geoF g) (by go_simp) ?_; intro w1 R5 hg1 hr1 hb1; have HB1 := Lib.hid hb1; have HR5 := Lib.hid hr1; clear hr1 hb1 hg1)
    | (refine wpList_box_row rfl 27 (.tmp 3) rfl (some 7) rfl 12 (nodF m) (by go_simp) ?_; intro w2 R7 hg2 hr2 hb2; have HB2 := Lib.hid (bnext HB1.out hb2); have HR52 := Lib.hid (rowIs_below HR5.out hb2); clear hr2 hb2 hg2)
    | (refine wpList_row_load (by kernel_rfl) 84 (.tmp 5) rfl (some 17) rfl R5 6 (geoF g) (by go_simp) HR52.out _ Try.underlying84 rfl geo_size ?_)
    | (go_at_call 40; refine (HPL.out _).mono ?_; rintro e w3 ⟨rfl, hb3⟩; have HB3 := Lib.hid (bnext HB2.out hb3); clear hb3))
  go_ret
  exact ⟨rfl, HB3.out⟩
set_option maxRecDepth 100000 in
set_option maxHeartbeats 4000000 in
theorem nodeWrite_no (hg : GeoOk g n) (num : Nat) (h1 : 1 ≤ num) (h2 : num ≤ g.nodes) (m : NodL) (hok : m.ok) (hr : m.right = false) (p : Value) (w : World) :
    Calls Try.prog 39 #[p, .agg (rowArr 6 (geoF g)), .int .i64 num, .agg (rowArr 12 (nodF m))] w fun e w' => e = .returned (.int .i64 28) ∧ Below w.heap.size w w' := by
  have HPL := Lib.hid (fun w => nodePlace_yes (w := w) hg num h1 h2)
  have HOK := Lib.hid hok
  have HR := Lib.hid (show (if m.right = true then (0 : Int) else 28) = 28 by rw [hr]; rfl)
  obtain ⟨pp, hp⟩ : ∃ p, p = atB g num := ⟨_, rfl⟩
  obtain ⟨q, hqq⟩ : ∃ q, q = atO num := ⟨_, rfl⟩
  rw [← hp, ← hqq] at HPL
  clear hg h1 h2 hok hr hp hqq
  go_enter Try.func39, Try.ntmps39
  go_wp2_with (first
    | (refine wpList_box_row rfl 84 (.tmp 1) rfl (some 5) rfl 6 (geoF g) (by go_simp) ?_; intro w1 R5 hg1 hr1 hb1; have HB1 := Lib.hid hb1; have HR5 := Lib.hid hr1; clear hr1 hb1 hg1)
    | (refine wpList_box_row rfl 27 (.tmp 3) rfl (some 7) rfl 12 (nodF m) (by go_simp) ?_; intro w2 R7 hg2 hr2 hb2; have HB2 := Lib.hid (bnext HB1.out hb2); have HR52 := Lib.hid (rowIs_below HR5.out hb2); have HR7 := Lib.hid hr2; clear hr2 hb2 hg2)
    | (refine wpList_row_load (by kernel_rfl) 84 (.tmp 5) rfl (some 17) rfl R5 6 (geoF g) (by go_simp) HR52.out _ Try.underlying84 rfl geo_size ?_)
    | (go_at_call 40; refine (HPL.out _).mono ?_; rintro e w3 ⟨rfl, hb3⟩; have HB3 := Lib.hid (bnext HB2.out hb3); have HR73 := Lib.hid (rowIs_below HR7.out hb3); clear hb3)
    | (refine wpList_row_load (by kernel_rfl) 27 (.tmp 7) rfl (some 25) rfl R7 12 (nodF m) (by go_simp) HR73.out _ Try.underlying27 rfl node_size ?_)
    | (go_at_call 20; refine (nodeCheck_in m HOK.out _).mono ?_; rintro e w4 ⟨rfl, hb4⟩; rw [HR.out]; have HB4 := Lib.hid (bnext HB3.out hb4); clear hb4))
  go_ret
  exact ⟨rfl, HB4.out⟩
set_option maxRecDepth 100000 in
set_option maxHeartbeats 8000000 in
theorem nodeWrite_ok (h : TX w gd gb gl gt gm n lf F bad D left dead) (hlf : lf = 1) (hg : GeoOk g n) (num : Nat) (h1 : 1 ≤ num) (h2 : num ≤ g.nodes) (m : NodL) (hok : m.ok) (hr : m.right = true) (hN : mapN w gm ≠ 30) :
    Calls Try.prog 39 #[.pointer (some ⟨gt, 0, none⟩), .agg (rowArr 6 (geoF g)), .int .i64 num, .agg (rowArr 12 (nodF m))] w fun e w' => e = .returned (.int .i64 0) ∧ TX w' gd gb gl gt gm n lf (putNode F D g num m) bad D left dead ∧ Chg (fun k => dset gd gb k ∨ k = gm) w w' := by
  have HTV := Lib.hid h.tv
  have HPL := Lib.hid (fun w => nodePlace_yes (w := w) hg num h1 h2)
  have hbn := hg.atB h1 h2
  have HVU := Lib.hid (viewB_le h (atB g num))
  unfold putNode
  have hq : atO num + 32 ≤ 64 := by unfold atO; omega
  obtain ⟨p, hp⟩ : ∃ p, p = atB g num := ⟨_, rfl⟩
  obtain ⟨q, hqq⟩ : ∃ q, q = atO num := ⟨_, rfl⟩
  rw [← hp] at hbn HPL HVU
  rw [← hqq] at hq HPL
  rw [← hp, ← hqq]
  have hn := hbn.2
  have HLR := Lib.hid (show p < lf ∨ lf + 30 < p by omega)
  have HOK := Lib.hid hok
  have HR := Lib.hid (show (if m.right = true then (0 : Int) else 28) = 0 by rw [hr]; rfl)
  have HNN := Lib.hid hN
  obtain ⟨V, hV⟩ : ∃ V, V = viewB F D p := ⟨_, rfl⟩
  rw [← hV] at HVU ⊢
  have HV := Lib.hid hV
  have hq64 : q < 64 := by omega
  clear h hlf hg hbn hp hqq hok hr h1 h2 hN hV
  go_enter Try.func39, Try.ntmps39
  go_wp2_with (first
    | (refine wpList_box_row rfl 84 (.tmp 1) rfl (some 5) rfl 6 (geoF g) (by go_simp) ?_; intro w1 R5 hg1 hr1 hb1; have H1 := Lib.hid (HTV.out.keep hb1); have HR5 := Lib.hid hr1; clear hr1 hb1 hg1)
    | (refine wpList_box_row rfl 27 (.tmp 3) rfl (some 7) rfl 12 (nodF m) (by go_simp) ?_; intro w2 R7 hg2 hr2 hb2; have H2 := Lib.hid (H1.out.keep hb2); have HR52 := Lib.hid (rowIs_below HR5.out hb2); have HR7 := Lib.hid hr2; have HG7 := Lib.hid (Nat.le_trans H1.out.bl.size hg2); clear hr2 hb2 hg2)
    | (refine wpList_row_load (by kernel_rfl) 84 (.tmp 5) rfl (some 17) rfl R5 6 (geoF g) (by go_simp) HR52.out _ Try.underlying84 rfl geo_size ?_)
    | (go_at_call 40; refine (HPL.out _).mono ?_; rintro e w3 ⟨rfl, hb3⟩; have H3 := Lib.hid (H2.out.keep hb3); have HR73 := Lib.hid (rowIs_below HR7.out hb3); clear hb3)
    | (refine wpList_row_load (by kernel_rfl) 27 (.tmp 7) rfl (some 25) rfl R7 12 (nodF m) (by go_simp) HR73.out _ Try.underlying27 rfl node_size ?_)
    | (go_at_call 20; refine (nodeCheck_in m HOK.out _).mono ?_; rintro e w4 ⟨rfl, hb4⟩; rw [HR.out]; have H4 := Lib.hid (H3.out.keep hb4); have HR74 := Lib.hid (rowIs_below HR73.out hb4); clear hb4))
  refine (txnGet_ok H4.out.tx p hn).mono ?_
  rintro e w5 ⟨rfl, ht5, hc5⟩
  rw [← HV.out]
  have HT5 := Lib.hid ht5
  have HC5 := Lib.hid ((Chg.of_below (dset gd gb) H4.out.bl).trans hc5 (fun _ _ h => h))
  have HLT := Lib.hid HTV.out.lt
  have HR75 := Lib.hid (hc5.row HR74.out (fun e => by have h1 := HTV.out.lt; have h2 := HG7.out; rcases e with e | e <;> omega))
  have HM5 := Lib.hid (show mapN w5 gm = mapN w gm from (mapN_keep (hc5.block gm H4.out.tx.mp.mp.lt (fun e => by have := HTV.out.tx.ne; rcases e with e | e; exact this.2.1 e; exact this.2.2.1 e))).trans (mapN_keep (H4.out.bl.block gm HTV.out.lt.2.2.2.2)))
  clear ht5 hc5
  go_wp2_with (with_reducible refine wpList_stop (some 13) rfl ?_)
  refine Lib.hid ?_
  refine wpList_new_row rfl 52 rfl (some 13) rfl 64 _ page_zero ?_
  intro w6 R13 hg6 hr6 hb6
  have HT6 := Lib.hid (HT5.out.keep hb6)
  have HC6 := Lib.hid (HC5.out.next hb6)
  have HR76 := Lib.hid (rowIs_below HR75.out hb6)
  have HR13 := Lib.hid hr6
  have HG13 := Lib.hid (Nat.le_trans HC5.out.size hg6)
  have HNE := Lib.hid (show R7 ≠ R13 from Nat.ne_of_lt (Nat.lt_of_lt_of_le HR75.out.lt hg6))
  have HM6 := Lib.hid ((mapN_keep (hb6.block gm HT5.out.mp.mp.lt)).trans HM5.out)
  clear hr6 hb6 hg6
  refine wpList_row_store rfl 52 (.tmp 13) (.tmp 34) rfl rfl R13 64 _ (pgC V) (by go_simp) (by go_simp; rfl) HR13.out (fun _ _ => rfl) block_size ?_
  intro w7 hr7 o7
  have HT7 := Lib.hid (HT6.out.newOne o7 HG13.out HLT.out)
  have HC7 := Lib.hid (HC6.out.one o7 (.inr HG13.out))
  have HR77 := Lib.hid (rowIs_one HR76.out o7 HNE.out)
  have HP7 := Lib.hid hr7
  have HM7 := Lib.hid ((mapN_keep (o7.block gm HT6.out.mp.mp.lt (fun e => by have h1 := HLT.out; have h2 := HG13.out; cases e; omega))).trans HM6.out)
  clear hr7 o7
  go_wp2_with (first
    | (refine wpList_row_load (by kernel_rfl) 27 (.tmp 7) rfl (some 39) rfl R7 12 (nodF m) (by go_simp) HR77.out _ Try.underlying27 rfl node_size ?_))
  refine (nodeEncode_in m HOK.out _).mono ?_
  rintro e w8 ⟨rfl, hb8⟩
  have HT8 := Lib.hid (HT7.out.keep hb8)
  have HC8 := Lib.hid (HC7.out.next hb8)
  have HP8 := Lib.hid (rowIs_below HP7.out hb8)
  have HM8 := Lib.hid ((mapN_keep (hb8.block gm HT7.out.mp.mp.lt)).trans HM7.out)
  clear hb8
  go_wp2_with (with_reducible refine wpList_stop (some 15) rfl ?_)
  refine Lib.hid ?_
  refine wpList_new_row rfl 28 rfl (some 15) rfl 32 (byteF fun _ => 0) (by kernel_rfl) ?_
  intro w9 R15 hg9 hr9 hb9
  have HT9 := Lib.hid (HT8.out.keep hb9)
  have HC9 := Lib.hid (HC8.out.next hb9)
  have HP9 := Lib.hid (rowIs_below HP8.out hb9)
  have HR15 := Lib.hid hr9
  have HG15 := Lib.hid (Nat.le_trans HC8.out.size hg9)
  have HNE2 := Lib.hid (show R13 ≠ R15 from Nat.ne_of_lt (Nat.lt_of_lt_of_le HP8.out.lt hg9))
  have HM9 := Lib.hid ((mapN_keep (hb9.block gm HT8.out.mp.mp.lt)).trans HM8.out)
  clear hr9 hb9 hg9
  refine wpList_row_store rfl 28 (.tmp 15) (.tmp 40) rfl rfl R15 32 _ (byteF (encN m)) (by go_simp) (by go_simp) HR15.out (fun _ _ => rfl) n32_size ?_
  intro wa hra oa
  have HTa := Lib.hid (HT9.out.newOne oa HG15.out HLT.out)
  have HCa := Lib.hid (HC9.out.one oa (.inr HG15.out))
  have HPa := Lib.hid (rowIs_one HP9.out oa HNE2.out)
  have HXa := Lib.hid hra
  have HMa := Lib.hid ((mapN_keep (oa.block gm HT9.out.mp.mp.lt (fun e => by have h1 := HLT.out; have h2 := HG15.out; cases e; omega))).trans HM9.out)
  clear hra oa
  have hsl := fun w => run_sliceAt_from w R13 q hq64
  go_wp2_with fail
  refine wp_region_held (S := fun _ => True) (by kernel_rfl) ?_
  change wpAnyH _ _ _ _ _ _ _ _ (World.drew _)
  refine takeH 0 (.int .i64 q) (some 41) rfl rfl (by kernel_rfl) (by kernel_rfl) (by kernel_rfl) (fun _ _ _ h => h) (.inl ⟨by kernel_rfl, fun w _ => by go_simp⟩) trivial ?_
  refine takeH 1 (.slice (some ⟨R13, q, none⟩) (64 - q) (64 - q)) (some 42) rfl rfl (by kernel_rfl) (by kernel_rfl) (by kernel_rfl) (fun _ _ _ h => h) (.inl ⟨by kernel_rfl, fun w _ => by go_simp⟩) trivial ?_
  refine takeH 2 (.slice (some ⟨R15, 0, none⟩) 32 32) (some 43) rfl rfl (by kernel_rfl) (by kernel_rfl) (by kernel_rfl) (fun _ _ _ h => h) (.inl ⟨by kernel_rfl, fun w _ => by go_simp⟩) trivial ?_
  have hxs : SR (World.drew wa) (.slice (some ⟨R15, 0, none⟩) 32 32) 32 1 (rowArr 32 (byteF (encN m))).toList := SR.of_row (m := 32) (w := World.drew wa) HXa.out (by omega) (by simp [maxLen])
  have hcp := run_copy_into (P := Try.prog) (World.drew wa) 34 34 3 5 R13 q (64 - q) (64 - q) (.slice (some ⟨R15, 0, none⟩) 32 32) 32 (rowArr 32 (byteF (encN m))).toList 52 64 (pgC V) Try.underlying34 u8_cells HPa.out hxs (fun v hv => by
    obtain ⟨i, hi⟩ := List.mem_iff_getElem?.1 hv
    obtain ⟨h2, rfl⟩ := rowArr_get _ _ _ _ hi
    rfl) (by omega) (by omega) (by omega)
  have HCP := Lib.hid hcp
  clear hxs hcp hsl
  go_simp
  refine runH (w' := (World.drew wa).setCells R13 q (rowArr 32 (byteF (encN m))).toList) 3 (goInt 32) (some 44) rfl (by kernel_rfl) (by kernel_rfl) rfl ?hrun trivial ?_
  case hrun =>
    unfold execOp
    simp only [resolve, invoke, builtin, Sem.run_bind, Sem.run_pure, List.map_toArray, List.map_cons, List.map_nil]
    go_simp
    rw [HCP.out]
    rfl
  refine wpAnyH_done (by kernel_rfl) ?_ _
  have hPb := (rowIs_piece (m := 32) (off := q) (h := byteF (encN m)) (w := World.drew wa) HPa.out).congr (g := pgC (pageW V q (encN m))) (fun i hi => by
    unfold pgC pageW byteF
    by_cases e : q ≤ i ∧ i < q + 32
    · rw [if_pos e, if_pos e]
    · rw [if_neg e, if_neg e])
  have ob := one_setCells (World.drew wa) R13 (rowArr 32 (byteF (encN m))).toList q
  have HPb := Lib.hid hPb
  have HTb := Lib.hid ((HTa.out.keep (drewb wa)).newOne ob HG13.out HLT.out)
  have HCb := Lib.hid ((HCa.out.drewN 1).one ob (.inr HG13.out))
  have HMb := Lib.hid ((mapN_keep (ob.block gm HTa.out.mp.mp.lt (fun e => by have h1 := HLT.out; have h2 := HG13.out; cases e; omega))).trans (show mapN (World.drew wa) gm = mapN w gm from HMa.out))
  clear hPb ob
  generalize (World.drew wa).setCells R13 q (rowArr 32 (byteF (encN m))).toList = wb at *
  go_simp
  go_wp2_with (first
    | (refine wpList_row_load (by kernel_rfl) 52 (.tmp 13) rfl (some 47) rfl R13 64 (pgC (pageW V q (encN m))) (by go_simp) HPb.out _ block_under rfl block_size ?_))
  refine (txnPut_ok HTb.out p hn HLR.out (.inr (by rw [HMb.out]; exact HNN.out)) (f := pageW V q (encN m)) (pageW_u8 HVU.out (encN_le m) q)).mono ?_
  rintro e wc ⟨rfl, htc, hcc⟩
  have hC : Chg (fun k => dset gd gb k ∨ k = gm) w wc := (HCb.out.mono (T := fun k => dset gd gb k ∨ k = gm) (fun _ _ h => .inl h)).trans hcc (fun _ _ h => .inr h)
  have HC := Lib.hid hC
  have HT := Lib.hid htc
  clear htc hcc hC
  go_wp2_with fail
  go_ret
  exact ⟨rfl, HT.out, HC.out⟩
end
end Go.Proofs.Ytonfnlohbgbffaa
