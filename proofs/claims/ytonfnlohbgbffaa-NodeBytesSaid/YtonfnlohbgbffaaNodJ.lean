/- Nodes: the document's Encode. -/
import Derived.Test.YtonfnlohbgbffaaNodI
set_option linter.unusedVariables false
set_option linter.unusedSimpArgs false
namespace Go.Proofs.Ytonfnlohbgbffaa
open Go.RowKit

def dirL (n : NodL) : Nat → List Nat
  | 0 => []
  | j + 1 => dirL n j ++ twoL (n.d j)
theorem dirL_len (n : NodL) : ∀ j, (dirL n j).length = 2 * j
  | 0 => rfl
  | j + 1 => by show (dirL n j ++ twoL (n.d j)).length = _; rw [List.length_append, dirL_len n j]; show 2 * j + 2 = _; omega
def headL (n : NodL) : List Nat := (([n.kd, n.lk] ++ twoL n.gn) ++ twoL (n.sz % 65536)) ++ twoL (n.sz / 65536)
/-- A node's bytes, as the document lists them, but for the noughts behind. -/
def encL (n : NodL) : List Nat := ((headL n ++ dirL n 6) ++ twoL n.sg) ++ twoL n.db
theorem encL_len (n : NodL) : (encL n).length = 24 := by
  unfold encL headL
  simp [dirL_len, twoL]
theorem nod_cells {w : World} {G : Nat} {n : NodL} (h : w.heap[G]? = some (.cells (nodA n) 27 (0, 0))) : ∀ i, w.cell? ⟨G, i, none⟩ = (#[.int .u8 n.kd, .int .u8 n.lk, .int .u16 n.gn, .int .u32 n.sz, .int .u16 n.d0, .int .u16 n.d1, .int .u16 n.d2, .int .u16 n.d3, .int .u16 n.d4, .int .u16 n.d5, .int .u16 n.sg, .int .u16 n.db] : Array Value)[i]? := rowcell h
theorem u8_row : (Try.prog.info? 5).map (fun i => (i.zero, i.size, i.bytes)) = some (some (.int .u8 0), 1, 1) := by kernel_rfl
theorem nod_dir {w : World} {G : Nat} {n : NodL} (h : w.heap[G]? = some (.cells (nodA n) 27 (0, 0))) {j : Nat} (hj : j < 6) : w.cell? ⟨G, 4 + j, none⟩ = some (.int .u16 (n.d j)) := by
  rw [nod_cells h]
  rcases j with _ | _ | _ | _ | _ | _ | j <;> first | rfl | omega
theorem NodL.ok.dir {n : NodL} (h : n.ok) (j : Nat) : n.d j ≤ 65535 := by
  unfold NodL.d
  have h0 := h.d0
  have h1 := h.d1
  have h2 := h.d2
  have h3 := h.d3
  have h4 := h.d4
  have h5 := h.d5
  repeat' split
  all_goals assumption
/-- While the document writes a node. -/
structure EncR (w0 w : World) (G : Nat) (n : NodL) (v : Value) (L : List Nat) : Prop where
  g : w.heap[G]? = some (.cells (nodA n) 27 (0, 0))
  o : BS w (G + 1) v L
  b : Below w0.heap.size w0 w
  hG : w0.heap.size ≤ G
  gw : G + 1 ≤ w.heap.size
section
variable {w0 w w' : World} {G : Nat} {n : NodL} {v v' : Value} {L M : List Nat}
theorem EncR.keep (h : EncR w0 w G n v L) (hb : Below w.heap.size w w') : EncR w0 w' G n v L :=
  ⟨bkeep hb h.g, own_below h.o hb, h.b.trans (hb.mono h.b.size), h.hG, Nat.le_trans h.gw hb.size⟩
theorem EncR.neG (h : EncR w0 w G n v L) : v.ownBlock ≠ some G := fun e => by
  rcases h.o.2 with ⟨rfl, _⟩ | ⟨g0, c0, cur, rfl, hb0, _⟩
  · cases e
  · simp only [Value.ownBlock, Option.some.injEq] at e
    omega
theorem EncR.next (h : EncR w0 w G n v L) (own : w'.ownsRow (G + 1) 5 1 v' (L.length + M.length) (u8s L ++ u8s M)) (gr : w.grownBy w' v.ownBlock) : EncR w0 w' G n v' (L ++ M) := by
  have o := one_of_grown gr
  refine ⟨o.blk h.g h.neG, ?_, h.b.trans (o.toBelow (fun k e => ?_) h.b.size), h.hG, Nat.le_trans h.gw o.size⟩
  · unfold BS
    rw [List.length_append, u8s_append]
    exact own
  · rcases h.o.2 with ⟨rfl, _⟩ | ⟨g0, c0, cur, rfl, hb0, _⟩
    · cases e
    · simp only [Value.ownBlock, Option.some.injEq] at e
      have := h.hG
      omega
end

theorem one_of_own {w0 w : World} {G : Nat} {v : Value} {L : List Nat} (h : BS w (G + 1) v L) (hG : w0.heap.size ≤ G) : ∀ k, v.ownBlock = some k → w0.heap.size ≤ k := fun k e => by
  rcases h.2 with ⟨rfl, _⟩ | ⟨g0, c0, cur, rfl, hb0, _⟩
  · cases e
  · simp only [Value.ownBlock, Option.some.injEq] at e
    omega
set_option maxRecDepth 20000 in
set_option maxHeartbeats 8000000 in
theorem refEncode_in (n : NodL) (ho : n.ok) (w : World) : Calls Try.prog 19 #[.agg (nodA n)] w fun e w' => ∃ v, e = .returned v ∧ BS w' w.heap.size v (encL n ++ List.replicate 8 0) ∧ Below w.heap.size w w' := by
  have h1 := ho.gn
  have h2 := ho.sg
  have h3 := ho.db
  have hsz := ho.sz
  have HO := Lib.hid ho
  obtain ⟨slo, hslo⟩ : ∃ s, s = n.sz % 65536 := ⟨_, rfl⟩
  obtain ⟨shi, hshi⟩ : ∃ s, s = n.sz / 65536 := ⟨_, rfl⟩
  have s1 : (n.sz : Int) % 65536 = slo := by omega
  have s2 : (n.sz : Int).tmod 65536 = slo := by rw [Int.tmod_eq_emod_of_nonneg (by omega)]; omega
  have s3 : (n.sz : Int) / 65536 = shi := by omega
  have s4 : (n.sz : Int).tdiv 65536 = shi := by rw [Int.tdiv_eq_ediv_of_nonneg (by omega)]; omega
  have s5 : IntKind.u16.wrap (slo : Int) = slo := u16_wrap_id _ (by omega) (by omega)
  have s6 : IntKind.u16.wrap (shi : Int) = shi := u16_wrap_id _ (by omega) (by omega)
  have s7 : IntKind.u32.wrap (shi : Int) = shi := u32_wrap_id _ (by omega) (by omega)
  have hs1 : slo ≤ 65535 := by omega
  have hs2 : shi ≤ 65535 := by omega
  have HSL := Lib.hid hslo
  have HSH := Lib.hid hshi
  obtain ⟨G, hG⟩ : ∃ G, G = w.heap.size := ⟨_, rfl⟩
  have hb0 := bnew w (.cells (nodA n) 27)
  have hl0 := heap_alloc_last w (.cells (nodA n) 27)
  have hw0 : EncR w (((w.alloc (.cells (nodA n) 27))).alloc (.cells #[.int .u8 n.kd, .int .u8 n.lk] 5)) G n (.slice (some ⟨G + 1, 0, none⟩) 2 2) [n.kd, n.lk] := by
    have e1 : (w.alloc (.cells (nodA n) 27)).heap.size = G + 1 := by rw [hG]; simp
    have hlit := World.ownsRow_lit (w.alloc (.cells (nodA n) 27)) #[.int .u8 (n.kd : Int), .int .u8 (n.lk : Int)] 2 (size := 1) (e := 5) (Nat.le_refl _) (by simp [maxLen]) rfl
    rw [e1] at hlit
    have b2 := bnew (w.alloc (.cells (nodA n) 27)) (.cells #[.int .u8 (n.kd : Int), .int .u8 (n.lk : Int)] 5)
    refine ⟨?_, hlit, bnewAfter hb0 _, by omega, by rw [World.size_alloc, e1]; omega⟩
    rw [hG]; exact bkeep b2 hl0
  have HW := Lib.hid hw0
  have cc := nod_cells hl0
  clear ho hb0 hl0 hw0 hslo hshi
  go_enter Try.func19, Try.ntmps19
  go_upto_region 2 with fail
  rw [← hG]
  have HG := Lib.hid hG
  generalize (w.alloc (.cells (nodA n) 27)).alloc (.cells #[.int .u8 n.kd, .int .u8 n.lk] 5) = wA at *
  clear hG cc
  obtain ⟨v1, hv1⟩ : ∃ v, v = Value.slice (some ⟨G + 1, 0, none⟩) 2 2 := ⟨_, rfl⟩
  rw [← hv1] at HW
  rw [← hv1]
  clear hv1
  have cc := nod_cells HW.out.g
  go_wp2_with fail
  refine (refTwo_in n.gn (h1) _).mono ?_
  rintro e wB1 ⟨u1, rfl, hu1, hb1⟩
  have HV := Lib.hid (HW.out.keep hb1)
  have HU := Lib.hid hu1
  clear HW hu1 hb1 cc
  go_wp2_with (with_reducible refine wpList_stop (some 14) rfl ?_)
  refine Lib.hid ?_
  refine wpList_append_sr rfl (.tmp 10) (.tmp 13) 34 rfl (some 14) rfl (G + 1) 5 (.int .u8 0) 1 1 Try.underlying34 u8_row rfl (by omega) v1 u1 2 2 _ (u8s (twoL n.gn)) rfl HV.out.o rfl (SR.of_own HU.out) (u8s_one _) (by simp [maxLen]) (by omega) HV.out.gw ?_
  intro v2 wC1 own1 gr1 at1
  have HW := Lib.hid (HV.out.next (M := twoL n.gn) own1 gr1)
  clear HV HU own1 gr1 at1
  have cc := nod_cells HW.out.g
  go_wp2_with fail
  refine (refTwo_in slo (hs1) _).mono ?_
  rintro e wB2 ⟨u2, rfl, hu2, hb2⟩
  have HV := Lib.hid (HW.out.keep hb2)
  have HU := Lib.hid hu2
  clear HW hu2 hb2 cc
  go_wp2_with (with_reducible refine wpList_stop (some 21) rfl ?_)
  refine Lib.hid ?_
  refine wpList_append_sr rfl (.tmp 15) (.tmp 20) 34 rfl (some 21) rfl (G + 1) 5 (.int .u8 0) 1 1 Try.underlying34 u8_row rfl (by omega) v2 u2 4 2 _ (u8s (twoL slo)) rfl HV.out.o rfl (SR.of_own HU.out) (u8s_one _) (by simp [maxLen]) (by omega) HV.out.gw ?_
  intro v3 wC2 own2 gr2 at2
  have HW := Lib.hid (HV.out.next (M := twoL slo) own2 gr2)
  clear HV HU own2 gr2 at2
  have cc := nod_cells HW.out.g
  go_wp2_with fail
  refine (refTwo_in shi (hs2) _).mono ?_
  rintro e wB3 ⟨u3, rfl, hu3, hb3⟩
  have HV := Lib.hid (HW.out.keep hb3)
  have HU := Lib.hid hu3
  clear HW hu3 hb3 cc
  go_wp2_with (with_reducible refine wpList_stop (some 28) rfl ?_)
  refine Lib.hid ?_
  refine wpList_append_sr rfl (.tmp 22) (.tmp 27) 34 rfl (some 28) rfl (G + 1) 5 (.int .u8 0) 1 1 Try.underlying34 u8_row rfl (by omega) v3 u3 6 2 _ (u8s (twoL shi)) rfl HV.out.o rfl (SR.of_own HU.out) (u8s_one _) (by simp [maxLen]) (by omega) HV.out.gw ?_
  intro v4 wC3 own3 gr3 at3
  have HW := Lib.hid (HV.out.next (M := twoL shi) own3 gr3)
  clear HV HU own3 gr3 at3
  have HW2 := Lib.hid (show EncR w wC3 G n v4 (headL n ++ dirL n 0) by
    have := HW.out
    rw [HSL.out, HSH.out] at this
    show EncR w wC3 G n v4 (headL n ++ [])
    rw [List.append_nil]
    exact this)
  clear HW s1 s2 s3 s4 s5 s6 s7 hs1 hs2 HSL HSH
  go_simp
  go_wp2_with fail
  go_loopw [3, 4] (fun r3 r wx => ∃ j : Nat, j ≤ 6 ∧ r = .int .i64 j ∧ EncR w wx G n r3 (headL n ++ dirL n j)) (fun _ r _ => 6 - (intOf r).toNat)
  case atStart => exact ⟨0, by omega, rfl, HW2.out⟩
  case round =>
    obtain ⟨j, hj, rfl, he⟩ := hrel
    have HE := Lib.hid he
    clear he
    have hlen : (headL n ++ dirL n j).length = 8 + 2 * j := by
      rw [List.length_append, dirL_len]; simp [headL, twoL]
    by_cases hj6 : j < 6
    · have f1 : (j : Int) < 6 := by omega
      have c4 := nod_dir HE.out.g hj6
      have hd := HO.out.dir j
      obtain ⟨y, hy⟩ : ∃ y, y = n.d j := ⟨_, rfl⟩
      rw [← hy] at c4 hd
      have HY := Lib.hid hy
      have HLEN := Lib.hid hlen
      clear hy hlen
      go_wp2_with fail
      refine (refTwo_in y hd _).mono ?_
      rintro e wB ⟨u5, rfl, hu5, hb5⟩
      have HV := Lib.hid (HE.out.keep hb5)
      have HU := Lib.hid hu5
      clear hu5 hb5 c4
      go_wp2_with (with_reducible refine wpList_stop (some 39) rfl ?_)
      refine Lib.hid ?_
      refine wpList_append_sr rfl (.tmp 33) (.tmp 38) 34 rfl (some 39) rfl (G + 1) 5 (.int .u8 0) 1 1 Try.underlying34 u8_row rfl (by omega) _ u5 (headL n ++ dirL n j).length 2 _ (u8s (twoL y)) rfl HV.out.o rfl (SR.of_own HU.out) (u8s_one _) (by rw [HLEN.out]; unfold maxLen; omega) (by rw [HLEN.out]; omega) HV.out.gw ?_
      intro v6 wC own6 gr6 at6
      have HW6 := Lib.hid (show EncR w wC G n v6 (headL n ++ dirL n (j + 1)) by
        have := HV.out.next (M := twoL y) own6 gr6
        rw [HY.out, List.append_assoc] at this
        exact this)
      clear own6 gr6 at6
      go_simp
      go_wp2_with fail
      go_roundw
      case rel => exact ⟨j + 1, by omega, by go_num, HW6.out⟩
      case measure => simp [intOf]; omega
    · obtain rfl : j = 6 := by omega
      go_upto_region 9 with fail

      obtain ⟨v5, hv5⟩ : ∃ v, v = u3 := ⟨_, rfl⟩
      subst hv5
      have HD := Lib.hid (HE.out.keep (drewb wr))
      refine wp_region_held (S := fun w' => w'.heap[G]? = some (.cells (nodA n) 27 (0, 0))) (by kernel_rfl) ?_
      change wpAnyH _ _ _ _ _ _ _ _ (World.drew _)
      refine takeH 0 (v5) (some 40) rfl rfl (by kernel_rfl) (by kernel_rfl) (by kernel_rfl) (fun _ _ _ h => h) (.inl ⟨(by kernel_rfl), fun w _ => by go_simp⟩) HD.out.g ?_
      refine takeH 1 (.pointer (some ⟨G, 10, none⟩)) (some 41) rfl rfl (by kernel_rfl) (by kernel_rfl) (by kernel_rfl) (fun _ _ _ h => h) (.inl ⟨(by kernel_rfl), fun w _ => by go_simp⟩) HD.out.g ?_
      refine takeH 2 (.int .u16 n.sg) (some 42) rfl rfl (by kernel_rfl) (by kernel_rfl) (by kernel_rfl) (fun _ _ _ h => h) (.inl ⟨(by kernel_rfl), fun w hw => by have hc := nod_cells hw; go_simp⟩) HD.out.g ?_
      refine takeH 5 (.pointer (some ⟨G, 11, none⟩)) (some 45) rfl rfl (by kernel_rfl) (by kernel_rfl) (by kernel_rfl) (fun _ _ _ h => h) (.inl ⟨(by kernel_rfl), fun w _ => by go_simp⟩) HD.out.g ?_
      refine takeH 6 (.int .u16 n.db) (some 46) rfl rfl (by kernel_rfl) (by kernel_rfl) (by kernel_rfl) (fun _ _ _ h => h) (.inl ⟨(by kernel_rfl), fun w hw => by have hc := nod_cells hw; go_simp⟩) HD.out.g ?_
      refine callH 3 rfl (by kernel_rfl) (by kernel_rfl) (some 43) rfl 67 #[.int .u16 n.sg] ?hrun ((refTwo_in n.sg h2 _).mono ?_)
      case hrun => go_simp
      rintro e wB ⟨u5, rfl, hu5, hb5⟩
      have HV := Lib.hid (HD.out.keep hb5)
      have HU := Lib.hid hu5
      clear hu5 hb5
      refine ⟨_, rfl, HV.out.g, ?_⟩
      refine appendH1 4 rfl (by kernel_rfl) (by kernel_rfl) (some 44) rfl (.tmp 40) (.tmp 43) 34 rfl (G + 1) 5 (.int .u8 0) 1 1 Try.underlying34 u8_row rfl (by omega) v5 u5 (headL n ++ dirL n 6).length 2 _ (u8s (twoL n.sg)) (by go_simp) HV.out.o (by go_simp) (SR.of_own HU.out) (u8s_one _) (by rw [hlen]; unfold maxLen; omega) (by rw [hlen]; omega) HV.out.gw (fun v6 wC own6 gr6 at6 => ?_)
      have HW6 := Lib.hid (HV.out.next (M := twoL n.sg) own6 gr6)
      clear own6 gr6 at6
      refine ⟨HW6.out.g, ?_⟩
      refine callH 7 rfl (by kernel_rfl) (by kernel_rfl) (some 47) rfl 67 #[.int .u16 n.db] ?hrun2 ((refTwo_in n.db h3 _).mono ?_)
      case hrun2 => go_simp
      rintro e wD ⟨u6, rfl, hu6, hb6⟩
      have HV6 := Lib.hid (HW6.out.keep hb6)
      have HU6 := Lib.hid hu6
      clear hu6 hb6
      refine ⟨_, rfl, HV6.out.g, ?_⟩
      have hlen2 : ((headL n ++ dirL n 6) ++ twoL n.sg).length = 22 := by rw [List.length_append, hlen]; rfl
      refine appendH1 8 rfl (by kernel_rfl) (by kernel_rfl) (some 48) rfl (.tmp 44) (.tmp 47) 34 rfl (G + 1) 5 (.int .u8 0) 1 1 Try.underlying34 u8_row rfl (by omega) v6 u6 ((headL n ++ dirL n 6) ++ twoL n.sg).length 2 _ (u8s (twoL n.db)) (by go_simp) HV6.out.o (by go_simp) (SR.of_own HU6.out) (u8s_one _) (by rw [hlen2]; unfold maxLen; omega) (by rw [hlen2]; omega) HV6.out.gw (fun v7 wE own7 gr7 at7 => ?_)
      have HW7 := Lib.hid (show EncR w wE G n v7 (encL n) from HV6.out.next (M := twoL n.db) own7 gr7)
      clear own7 gr7 at7
      refine ⟨HW7.out.g, ?_⟩
      refine takeH 9 (v7) (some 3) rfl rfl (by kernel_rfl) (by kernel_rfl) (by kernel_rfl) (fun _ _ _ h => h) (.inl ⟨by kernel_rfl, fun w _ => by go_simp⟩) HW7.out.g ?_
      refine wpAnyH_done (by kernel_rfl) ?_ _
      obtain ⟨ad, c, hv7⟩ := own_form HW7.out.o
      rw [encL_len] at hv7
      have HW8 := Lib.hid HW7.out.o
      unfold BS at HW8
      rw [encL_len] at HW8
      have HW9 := Lib.hid (And.intro HW7.out.b HW7.out.gw)
      have HWO := Lib.hid (one_of_own HW7.out.o HW7.out.hG)
      clear HW7
      subst hv7
      go_simp
      go_wp2_with (with_reducible refine wpList_stop (some 53) rfl ?_)
      refine Lib.hid ?_
      refine wpList_append_make rfl (.tmp 49) (.tmp 52) 34 3 rfl (some 53) rfl (G + 1) 5 Try.underlying34 Try.underlying3 u8_row _ 24 8 _ rfl HW8.out rfl (by omega) (by unfold maxLen; omega) (by omega) HW9.out.2 ?_
      intro v8 wF own8 gr8 at8
      have HF := Lib.hid own8
      have HBF := Lib.hid (HW9.out.1.trans ((one_of_grown gr8).toBelow HWO.out HW9.out.1.size))
      clear own8 gr8 at8
      go_simp
      go_wp2_with fail
      go_ret
      refine ⟨_, rfl, ?_, HBF.out⟩
      unfold BS
      rw [List.length_append, encL_len, u8s_append]
      exact own_lower HF.out (by rw [HG.out]; omega)
end Go.Proofs.Ytonfnlohbgbffaa
