/- SpaceCopies: its walk. -/
import Derived.Test.YtiedenjcmkebaaaSpcO
import Derived.Test.YtiedenjcmkebaaaSpcJ
set_option linter.unusedVariables false
set_option linter.unusedSimpArgs false
namespace Go.Proofs.Ytiedenjcmkebaaa
open Go.RowKit

section
variable {w w' w0 : World} {base gs g gm lab : Nat} {ps : List (Nat × Nat)} {v : Value} {a : Option Addr} {us : Nat → Nat} {F F' : Nat × Nat → Option (Nat → Nat)} {rs : List RegL}
set_option maxHeartbeats 4000000 in
theorem spaceWrite_any (ht : FP w g gm a us F) (hs : SpV w base gs g lab ps v) (ok : SpOk F ps) (A : Option Addr) (cap : Nat) (zs : List Int) (hz : ∀ w', Chg (fun k => k = g ∨ k = gm) w w' → SI w' .u8 (.slice A zs.length cap) zs) (at_ : Nat) (ha : at_ ≤ 4294967295) (hi : at_ + zs.length ≤ 64 * ps.length) :
    Calls Try.prog 27 #[.pointer (some ⟨gs, 0, none⟩), .int .u32 at_, .slice A zs.length cap] w fun e w' => e = .returned (.int .i64 0) ∧ ∃ F', FP w' g gm a us F' ∧ SpUpd F F' ps (fun i => if at_ ≤ i ∧ i < at_ + zs.length then (zs.getD (i - at_) 0).toNat else spMem F ps i) ∧ Chg (fun k => k = g ∨ k = gm) w w' := by
  have h := spaceInside_in hs ok.len at_ ha zs.length (by have := ok.len; omega) (by omega)
  rw [insideB_nat, decide_eq_true hi] at h
  have H := Lib.hid h
  obtain ⟨n, hn⟩ : ∃ n, n = zs.length := ⟨_, rfl⟩
  rw [← hn] at H hi
  rw [← hn]
  have HN := Lib.hid hn
  have hk : n ≤ 2048 := by have := ok.len; omega
  have ha2 : at_ ≤ 2048 := by have := ok.len; omega
  have HT := Lib.hid ht
  have HS := Lib.hid hs
  have HO := Lib.hid ok
  have HI := Lib.hid hi
  have HZ := Lib.hid hz
  clear h hs ht ok hi hz hn
  go_enter Try.func27, Try.ntmps27
  go_wp2_with fail
  refine H.out.mono ?_; rintro e w2 ⟨rfl, rfl⟩
  go_wp2_with fail
  go_loopw [17] (fun r wx => ∃ (j : Nat) (Fr : Nat × Nat → Option (Nat → Nat)), j ≤ n ∧ r = .int .i64 j ∧ FP wx g gm a us Fr ∧ SpUpd F Fr ps (fun i => if at_ ≤ i ∧ i < at_ + j then (zs.getD (i - at_) 0).toNat else spMem F ps i) ∧ Chg (fun k => k = g ∨ k = gm) w wx) (fun r _ => n - (intOf r).toNat)
  case atStart =>
    refine ⟨0, F, by omega, rfl, HT.out, ⟨fun _ => rfl, fun _ _ => rfl, fun i _ => ?_⟩, Chg.refl _ _⟩
    rw [if_neg (by omega)]
  case round =>
    obtain ⟨j, Fr, hj, rfl, htr, hup, hch⟩ := hrel
    have HTR := Lib.hid htr
    have HUP := Lib.hid hup
    have HCH := Lib.hid hch
    have HZR := Lib.hid (HZ.out _ hch)
    clear htr hup hch
    by_cases hjn : j < n
    · have f1 : (j : Int) < n := by omega
      have f2 : IntKind.i64.wrap (at_ : Int) = at_ := by rw [IntKind.wrap_i64]; omega
      have f3 : IntKind.i64.wrap ((at_ : Int) + j) = ((at_ + j : Nat) : Int) := by rw [IntKind.wrap_i64]; omega
      have hjz : j < zs.length := by rw [← HN.out]; exact hjn
      have hzi : zs.getD j 0 ∈ zs := by rw [List.getD_eq_getElem?_getD, List.getElem?_eq_getElem hjz]; exact List.getElem_mem hjz
      have hzw := wf_u8 (HZR.out.wf _ hzi)
      rcases HZR.out.cases with ⟨h, _⟩ | ⟨_, gz, offz, cz, hsl, _, _, hgz, hcz⟩
      · rw [h] at hjz; simp at hjz
      have hcell := hcz j hjz
      clear hcz
      rw [← HN.out] at hsl
      cases hsl
      obtain ⟨c, hc⟩ : ∃ c : Nat, zs.getD j 0 = c := ⟨(zs.getD j 0).toNat, by omega⟩
      rw [hc] at hcell
      have HC := Lib.hid hc
      have hset := spaceSet_in HTR.out (HS.out.chg2 HT.out HCH.out) (HUP.out.ok HO.out) (at_ + j) (by have := HI.out; omega) c
      have HSET := Lib.hid hset
      clear hset hc hzi hzw
      go_wp2_with fail
      refine HSET.out.mono ?_; rintro e w3 ⟨rfl, hT3, hC3⟩
      have HT3 := Lib.hid hT3
      have HC3 := Lib.hid (HCH.out.trans hC3 (fun k _ h => h))
      clear hT3 hC3 hcell
      go_wp2_with fail
      go_roundw
      case rel =>
        have hnew := HUP.out.put HO.out (i := at_ + j) (by have := HI.out; omega) c
        refine ⟨j + 1, _, by omega, by go_num, HT3.out, ⟨hnew.same, hnew.out, fun i hi => ?_⟩, HC3.out⟩
        rw [hnew.mem i hi]
        by_cases e : i = at_ + j
        · subst e
          rw [if_pos rfl, if_pos (by omega), Nat.add_sub_cancel_left, HC.out]
          rfl
        · rw [if_neg e]
          by_cases e2 : at_ ≤ i ∧ i < at_ + j
          · rw [if_pos e2, if_pos (by omega)]
          · rw [if_neg e2, if_neg (by omega)]
      case measure => simp [intOf]; omega
    · obtain rfl : j = n := by omega
      have f1 : ¬ ((j : Int) < j) := by omega
      go_wp2_with fail
      go_ret
      exact ⟨rfl, Fr, HTR.out, HUP.out, HCH.out⟩
end

theorem bigS_fr (n m l : Nat) (h : l < (sizeRegs (bigS n m)).length) : 4 ≤ ((sizeRegs (bigS n m))[l]'h).fr ∧ ((sizeRegs (bigS n m))[l]'h).fr ≤ 43 := by rw [sizeFr]; omega
theorem bigS_fr00 (n m : Nat) (h : 0 < (sizeRegs (bigS n m)).length) : 4 ≤ ((sizeRegs (bigS n m))[0]'h).fr := (bigS_fr n m 0 h).1
/-- The bytes of a space, as numbers. -/
def spBytes (F : Nat × Nat → Option (Nat → Nat)) (ps : List (Nat × Nat)) (k : Nat) : List Int := (List.range k).map fun j => (spMem F ps j : Int)
theorem spBytes_len (F : Nat × Nat → Option (Nat → Nat)) (ps : List (Nat × Nat)) (k : Nat) : (spBytes F ps k).length = k := by simp [spBytes]
theorem spBytes_row {w : World} {gO k : Nat} {F : Nat × Nat → Option (Nat → Nat)} {ps : List (Nat × Nat)} (h : w.rowIs gO 5 k (fun j => .int .u8 (spMem F ps (0 + j)))) (hlt : ∀ j, j < k → spMem F ps j < 256) (hm : k ≤ 2048) :
    SI w .u8 (.slice (some ⟨gO, 0, none⟩) k k) (spBytes F ps k) where
  sr := by
    refine ⟨by simp [spBytes], .inr ⟨⟨gO, 0, none⟩, k, by rw [spBytes_len], by rw [spBytes_len]; exact Nat.le_refl _, by simp only [maxLen]; omega, fun _ => ⟨rfl, h.lt, fun i hi => ?_⟩⟩⟩
    rw [spBytes_len] at hi
    rw [Nat.zero_add, h.cell (i := i) (by omega)]
    simp [spBytes, List.getElem?_map, List.getElem?_range, show i < k by omega]
  wf := fun z hz => by
    simp only [spBytes, List.mem_map, List.mem_range] at hz
    obtain ⟨j, hj, rfl⟩ := hz
    have := hlt j hj
    simp [Lit.wf, IntKind.min, IntKind.max, IntKind.bits, IntKind.signed]; omega
theorem SI.prefix {w : World} {A : Option Addr} {n cap : Nat} {k : IntKind} {zs : List Int} (h : SI w k (.slice A n cap) zs) (m : Nat) (hm : m ≤ zs.length) : SI w k (.slice A m cap) (zs.take m) := by
  obtain ⟨A', c', e, _, _⟩ := h.sr.form
  cases e
  refine ⟨?_, fun z hz => h.wf z (List.mem_of_mem_take hz)⟩
  have := h.sr.prefix m hm
  rw [List.length_take, Nat.min_eq_left hm, List.map_take]
  exact this
theorem takeBytes {F : Nat × Nat → Option (Nat → Nat)} {ps : List (Nat × Nat)} {k t : Nat} {zs : List Int} (ht : t ≤ k) (hz : t ≤ zs.length) (h : ∀ i, i < t → (spMem F ps i : Int) = zs.getD i 0) : (spBytes F ps k).take t = zs.take t := by
  apply List.ext_getElem?
  intro i
  by_cases hi : i < t
  · rw [List.getElem?_take_of_lt hi, List.getElem?_take_of_lt hi]
    have h1 := h i hi
    rw [List.getD_eq_getElem?_getD, List.getElem?_eq_getElem (show i < zs.length by omega)] at h1
    rw [List.getElem?_eq_getElem (show i < zs.length by omega)]
    simp [spBytes, List.getElem?_map, List.getElem?_range, show i < k by omega]
    simpa using h1
  · rw [List.getElem?_eq_none (by rw [List.length_take]; omega), List.getElem?_eq_none (by rw [List.length_take]; omega)]
theorem newMem (F : Nat × Nat → Option (Nat → Nat)) (l u m i : Nat) (hi : i < 64 * m) : spMem (moreF F l u m) (morePs l u m) i = 0 := by
  unfold spMem
  have h1 : i / 64 < m := by omega
  have : (morePs l u m).getD (i / 64) (0, 0) = (l, u + i / 64) := by
    rw [List.getD_eq_getElem?_getD]; simp [morePs, h1]
  rw [this, moreF_new F l u m _ h1]
  rfl
theorem copyMem {F Fd : Nat × Nat → Option (Nat → Nat)} {ps : List (Nat × Nat)} {l u n i : Nat} (h : CopyI F Fd ps l u n n) (hi : i < 64 * n) : spMem Fd (morePs l u n) i = spMem F ps i := by
  unfold spMem
  have h1 : i / 64 < n := by omega
  have : (morePs l u n).getD (i / 64) (0, 0) = (l, u + i / 64) := by
    rw [List.getD_eq_getElem?_getD]; simp [morePs, h1]
  rw [this, h.new _ h1, if_pos h1]
theorem memCongr {F F' : Nat × Nat → Option (Nat → Nat)} {ps : List (Nat × Nat)} {i : Nat} (hi : i < 64 * ps.length) (h : ∀ p ∈ ps, F' p = F p) : spMem F' ps i = spMem F ps i := by
  unfold spMem
  rw [h]
  have : i / 64 < ps.length := by omega
  rw [List.getD_eq_getElem?_getD, List.getElem?_eq_getElem this]
  exact List.getElem_mem this
theorem spOk_of {F : Nat × Nat → Option (Nat → Nat)} {l u m : Nat} (h1 : l ≤ 255) (h2 : u + m ≤ 65536) (h3 : m ≤ 32) (h : ∀ i, i < m → (F (l, u + i)).isSome = true) : SpOk F (morePs l u m) where
  p1 := fun p hp => by
    obtain ⟨j, hj, rfl⟩ := mem_morePs.1 hp
    exact ⟨h1, by show u + j ≤ _; omega⟩
  is := fun p hp => by
    obtain ⟨j, hj, rfl⟩ := mem_morePs.1 hp
    exact h j hj
  nd := (spOk_more (fun _ => none) l u m h1 h2 h3).nd
  len := by rw [morePs_len]; exact h3

theorem SpOk.same {F F' : Nat × Nat → Option (Nat → Nat)} {ps : List (Nat × Nat)} (ok : SpOk F ps) (h : ∀ p, (F' p).isSome = (F p).isSome) : SpOk F' ps := ⟨ok.p1, fun p hp => by rw [h]; exact ok.is p hp, ok.nd, ok.len⟩
/-- Two spaces over one pool. -/
structure TwoSp (w0 w : World) (g gm gs gd bs bd l u p : Nat) (ad : Addr) (us : Nat → Nat) (F : Nat × Nat → Option (Nat → Nat)) (vs vd : Value) : Prop where
  bl : Below w0.heap.size w0 w
  tp : FP w g gm (some ad) us F
  s : SpV w bs gs g 0 (morePs 0 0 p) vs
  d : SpV w bd gd g l (morePs l u p) vd
  oks : SpOk F (morePs 0 0 p)
  okd : SpOk F (morePs l u p)
  g0 : w0.heap.size ≤ g
  g1 : w0.heap.size ≤ gm
  b0 : w0.heap.size ≤ bs
  lt : gs < bd
theorem TwoSp.keep {w0 w w' : World} {g gm gs gd bs bd l u p : Nat} {ad : Addr} {us : Nat → Nat} {F : Nat × Nat → Option (Nat → Nat)} {vs vd : Value} (h : TwoSp w0 w g gm gs gd bs bd l u p ad us F vs vd) (hb : Below w.heap.size w w') : TwoSp w0 w' g gm gs gd bs bd l u p ad us F vs vd :=
  ⟨h.bl.trans (hb.mono h.bl.size), h.tp.keep hb, h.s.keep hb, h.d.keep hb, h.oks, h.okd, h.g0, h.g1, h.b0, h.lt⟩
theorem TwoSp.upd {w0 w w' : World} {g gm gs gd bs bd l u p : Nat} {ad : Addr} {us : Nat → Nat} {F F' : Nat × Nat → Option (Nat → Nat)} {vs vd : Value} (h : TwoSp w0 w g gm gs gd bs bd l u p ad us F vs vd) (ht : FP w' g gm (some ad) us F') (hs : ∀ p, (F' p).isSome = (F p).isSome) (hc : Chg (fun k => k = g ∨ k = gm) w w') : TwoSp w0 w' g gm gs gd bs bd l u p ad us F' vs vd :=
  ⟨Chg.go h.bl hc (fun k hk => by
    rcases hk with rfl | rfl
    · exact h.g0
    · exact h.g1) h.bl.size, ht, h.s.chg2 h.tp hc, h.d.chg2 h.tp hc, h.oks.same hs, h.okd.same hs, h.g0, h.g1, h.b0, h.lt⟩
theorem SI.chg {S : Nat → Prop} {w w' : World} {k : IntKind} {A : Option Addr} {n cap : Nat} {zs : List Int} (h : SI w k (.slice A n cap) zs) (hc : Chg S w w') (hS : ∀ a, A = some a → ¬ S a.block) : SI w' k (.slice A n cap) zs :=
  ⟨h.sr.keepAt hc.size fun a cap' e h0 hl => by
    cases e
    exact hc.block _ hl (hS a rfl), h.wf⟩
theorem lit_si {w : World} {G : Nat} {c : Int} {t : TypeId} {fr : Nat × Nat} (h : w.heap[G]? = some (.cells #[.int .u8 c] t fr)) (h1 : 0 ≤ c) (h2 : c ≤ 255) : SI w .u8 (.slice (some ⟨G, 0, none⟩) 1 1) [c] :=
  ⟨SR.lit h rfl, fun z hz => by
    rw [List.mem_singleton] at hz
    subst hz
    simp [Lit.wf, IntKind.min, IntKind.max, IntKind.bits, IntKind.signed]; omega⟩
theorem xor_max : ∀ c : Nat, c < 256 → bits .xor .u8 IntKind.u8.max (c : Int) = ((255 - c : Nat) : Int) := by decide +kernel
theorem disj_ps {l u p : Nat} (h : l ≠ 0 ∨ p ≤ u) : ∀ q ∈ morePs 0 0 p, q ∉ morePs l u p := fun q hq hq2 => by
  obtain ⟨i, h1, rfl⟩ := mem_morePs.1 hq
  obtain ⟨j, h2, h3⟩ := mem_morePs.1 hq2
  have e1 := congrArg Prod.fst h3
  have e2 := congrArg Prod.snd h3
  simp only at e1 e2
  omega
theorem bytes_congr {F F' : Nat × Nat → Option (Nat → Nat)} {ps ps' : List (Nat × Nat)} {k : Nat} (h : ∀ i, i < k → spMem F ps i = spMem F' ps' i) : spBytes F ps k = spBytes F' ps' k := by
  unfold spBytes
  exact List.map_congr_left fun i hi => by rw [h i (List.mem_range.1 hi)]

set_option maxRecDepth 100000 in
set_option maxHeartbeats 16000000 in
theorem spaceCopies_walk (W : World) (v0 v1 v2 v3 v4 : Value) (o0 : Arg Try.prog W 5 v0) (o1 : Arg Try.prog W 5 v1) (o2 : Arg Try.prog W 5 v2) (o3 : Arg Try.prog W 24 v3) (o4 : Arg Try.prog W 4 v4) :
    Calls Try.prog 6 #[v0, v1, v2, v3, v4] W fun e w' => e = .returned (.bool true) ∧ Below W.heap.size W w' := by
  obtain ⟨x0, rfl, h0⟩ := Arg.int Try.underlying5 o0
  obtain ⟨x1, rfl, h1⟩ := Arg.int Try.underlying5 o1
  obtain ⟨x2, rfl, h2⟩ := Arg.int Try.underlying5 o2
  obtain ⟨zs, hz⟩ := SI.of_arg Try.underlying24 Try.underlying5 (by kernel_rfl) o3
  obtain ⟨up, rfl⟩ := Arg.bool Try.underlying4 o4
  have b0 := wf_u8 h0
  have b1 := wf_u8 h1
  have b2 := wf_u8 h2
  obtain ⟨pg, rfl⟩ : ∃ n : Nat, x0 = n := ⟨x0.toNat, by omega⟩
  obtain ⟨n, rfl⟩ : ∃ n : Nat, x1 = n := ⟨x1.toNat, by omega⟩
  obtain ⟨m, rfl⟩ : ∃ n : Nat, x2 = n := ⟨x2.toNat, by omega⟩
  obtain ⟨A, cap, rfl, hc1, hc2⟩ := hz.sr.form
  have HZ := Lib.hid hz
  obtain ⟨len, hlen⟩ : ∃ l, l = zs.length := ⟨_, rfl⟩
  rw [← hlen] at hc1 ⊢
  have HL := Lib.hid hlen
  clear hz o0 o1 o2 o3 o4 h0 h1 h2 hlen
  obtain ⟨p, hp⟩ : ∃ p, p = pg % 4 := ⟨_, rfl⟩
  have hp3 : p ≤ 3 := by omega
  have fp : (pg : Int) % 4 = p := by omega
  have hlm : len ≤ 9223372036854775807 := by unfold maxLen at hc2; omega
  clear hp
  go_enter Try.func6, Try.ntmps6
  go_wp2_with fail
  refine (spaceAwake_in _).mono ?_; rintro e wa ⟨rfl, hba⟩
  have HBA := Lib.hid hba
  have HZ1 := Lib.hid (HZ.out.keep hba)
  clear hba
  by_cases hbig : 256 < len
  · have fb : (256 : Int) < len := by omega
    go_wp2_with fail
    go_ret
    exact ⟨rfl, HBA.out⟩
  have fb : ¬ ((256 : Int) < len) := by omega
  go_wp2_with fail
  refine (big_in _ n m (by omega) (by omega)).mono ?_; rintro e w2 ⟨g, gm, ad, w1, rfl, hnp⟩
  have HNP := Lib.hid hnp
  clear hnp
  go_wp2_with fail
  have hnew := spaceNew_up HNP.out.cp HNP.out.b2 HNP.out.fp Cont.nil HNP.out.g0 HNP.out.g1 (lab := 0) (by rw [bigS_len]; omega) (sizeLe64 _) p (by omega) (by rw [bigS_fr0]; omega) (by rw [bigS_fr0]; omega)
  refine hnew.mono ?_
  rintro e w3 ⟨gs, v3, rfl, hgs, hT3, hS3, hc3⟩
  have HNS := Lib.hid (NewSp.mk' HNP.out (by omega) (by omega) hT3 hS3 hc3)
  have HBW := Lib.hid (HBA.out.trans (HNP.out.b1.mono HBA.out.size))
  clear hnew hT3 hS3 hc3 fp
  have f1 : IntKind.i64.wrap (64 * (p : Int)) = ((64 * p : Nat) : Int) := by rw [IntKind.wrap_i64]; omega
  go_upto_region 8 with fail
  go_cut [3] (fun s3 wx => ∃ t : Nat, s3 = .slice A t cap ∧ t ≤ len ∧ t ≤ 64 * p ∧ wx = w3)
  case first =>
    rcases (show len ≤ 64 * p ∨ 64 * p < len by omega) with hle | hle
    · have g1 : (len : Int) ≤ ((64 * p : Nat) : Int) := by omega
      have g2 : (len : Int) ≤ 64 * (p : Int) := by omega
      have g3 : ¬ (64 * (p : Int) < len) := by omega
      have g4 : (len : Int) ≤ cap := by omega
      have g5 : len ≤ cap := by omega
      go_wp2_with fail
      go_meet
      exact ⟨len, rfl, Nat.le_refl _, hle, rfl⟩
    · have g1 : ¬ ((len : Int) ≤ ((64 * p : Nat) : Int)) := by omega
      have g2 : ¬ ((len : Int) ≤ 64 * (p : Int)) := by omega
      have g3 : 64 * (p : Int) < len := by omega
      have g4 : 64 * (p : Int) ≤ cap := by omega
      have g5 : 64 * p ≤ cap := by omega
      go_wp2_with fail
      go_meet
      exact ⟨64 * p, rfl, Nat.le_of_lt hle, Nat.le_refl _, rfl⟩
  case rest =>
    obtain ⟨t, rfl, ht1, ht2, rfl⟩ := hcut
    go_at_K
    go_step
    go_wp2_with fail
    obtain ⟨wA, hwA⟩ : ∃ x, x = wc := ⟨_, rfl⟩
    subst hwA
    have hz8 : ∀ z ∈ zs, 0 ≤ z ∧ z ≤ 255 := fun z hzm => wf_u8 (HZ.out.wf z hzm)
    have htl : (zs.take t).length = t := by rw [List.length_take, ← HL.out]; omega
    have hwr := spaceWrite_any HNS.out.tp HNS.out.sp HNS.out.ok A cap (zs.take t) (fun w' hc => by
      have h1 := HZ1.out.keep (HNP.out.b1)
      have h2 := h1.keep (Chg.go HNS.out.bl hc (fun k hk => by
        rcases hk with rfl | rfl
        · exact HNS.out.g0
        · exact HNS.out.g1) HNS.out.bl.size)
      rw [← HL.out] at h2
      have h3 := h2.prefix t (by rw [← HL.out]; exact ht1)
      rw [htl]
      exact h3) 0 (by omega) (by rw [morePs_len, htl]; omega)
    rw [htl] at hwr
    refine hwr.mono ?_
    rintro e w4 ⟨rfl, F4, hT4, hU4, hC4⟩
    have HN4 := Lib.hid (HNS.out.upd hT4 hU4 hC4)
    have hm4 : ∀ i, i < 64 * p → spMem F4 (morePs 0 0 p) i = if i < t then (zs.getD i 0).toNat else 0 := fun i hi => by
      rw [hU4.mem i (by rw [morePs_len]; exact hi), newMem _ _ _ _ _ hi]
      by_cases hit : i < t
      · rw [if_pos ⟨by omega, by omega⟩, if_pos hit, Nat.sub_zero, List.getD_eq_getElem?_getD, List.getD_eq_getElem?_getD, List.getElem?_take_of_lt hit]
      · rw [if_neg (by omega), if_neg hit]
    have hz9 : ∀ i, 0 ≤ zs.getD i 0 ∧ zs.getD i 0 ≤ 255 := fun i => by
      rw [List.getD_eq_getElem?_getD]
      cases hgi : zs[i]? with
      | none => simp
      | some z => exact hz8 z (List.mem_of_getElem? hgi)
    have HLT := Lib.hid (show ∀ i, i < 64 * p → spMem F4 (morePs 0 0 p) i < 256 from fun i hi => by
      rw [hm4 i hi]
      have := hz9 i
      split <;> omega)
    have HTK := Lib.hid (show (spBytes F4 (morePs 0 0 p) (64 * p)).take t = zs.take t from takeBytes ht2 (by rw [← HL.out]; exact ht1) (fun i hi => by
      rw [hm4 i (by omega), if_pos hi]
      have := hz9 i
      omega))
    have HCT := Lib.hid (hU4.cont (Cont.more Cont.nil 0 p))
    clear hwr hT4 hU4 hC4 hm4 hz8 hz9 htl
    go_upto_if 52 with fail
    go_cut [15] (fun s15 wx => ∃ l : Nat, l ≤ 1 ∧ s15 = .int .i64 l ∧ wx = w4)
    case first =>
      cases up
      · go_wp2_with fail
        go_meet
        exact ⟨0, by omega, rfl, rfl⟩
      · go_wp2_with fail
        go_meet
        exact ⟨1, by omega, rfl, rfl⟩
    case rest =>
    obtain ⟨l, hl1, rfl, rfl⟩ := hcut
    obtain ⟨w5, hw5⟩ : ∃ x, x = wc := ⟨_, rfl⟩
    subst hw5
    go_at_K
    go_step
    go_wp2_with fail
    have hlr : l < (sizeRegs (bigS n m)).length := by rw [bigS_len]; omega
    have hfrb := bigS_fr n m l hlr
    have hfr0 := bigS_fr n m 0 (by rw [bigS_len]; omega)
    obtain ⟨fr, hfr⟩ : ∃ fr, fr = ((sizeRegs (bigS n m))[l]'hlr).fr := ⟨_, rfl⟩
    obtain ⟨u, hu⟩ : ∃ u, u = setN (fun _ => 0) 0 (0 + p) l := ⟨_, rfl⟩
    have hup : u ≤ p ∧ (l = 0 → u = p) ∧ (l = 1 → u = 0) := by
      rw [hu]
      exact ⟨by by_cases e : l = 0 <;> simp [setN, e], fun e => by simp [setN, e], fun e => by simp [setN, e]⟩
    have hroom := frameRoom_in HNP.out.cp HN4.out.bl HN4.out.tp l hlr (sizeLe64 _) (by rw [← hu]; omega) (by omega)
    rw [← hu, ← hfr] at hroom
    have HFR := Lib.hid hfr
    have HU := Lib.hid hu
    have hfr3 : fr ≤ 43 := by rw [hfr]; exact hfrb.2
    clear hfr hu hfrb
    refine hroom.mono ?_
    rintro e w6 ⟨rfl, hb6⟩
    have HN6 := Lib.hid (HN4.out.keep hb6)
    clear hb6 hroom
    go_wp2_with fail
    obtain ⟨B4, hB4⟩ : ∃ B, B = spBytes F4 (morePs 0 0 p) (64 * p) := ⟨_, rfl⟩
    rw [← hB4] at HTK
    have HB4 := Lib.hid hB4
    clear hB4
    by_cases hr : fr < u + p
    · have r1 : (fr : Int) - u < (p : Int) := by omega
      have hcf := spaceCopy_full HNP.out.cp HN6.out.bl HN6.out.tp HN6.out.sp HN6.out.ok HCT.out HN6.out.g0 HN6.out.g1 hlr (sizeLe64 _) (by have := HFR.out; omega) (by rw [morePs_len, ← HFR.out, ← HU.out]; exact hr) (by rw [← HU.out]; omega)
      refine hcf.mono ?_
      rintro e w7 ⟨rfl, hb7⟩
      have HB7 := Lib.hid hb7
      clear hcf hb7
      go_wp2_with fail
      go_ret
      exact ⟨rfl, HBW.out.trans ((HN6.out.keep HB7.out).bl.mono HBW.out.size)⟩
    have r1 : ¬ ((fr : Int) - u < (p : Int)) := by omega
    have hci := spaceCopy_in HNP.out.cp HN6.out.bl HN6.out.tp HN6.out.sp HN6.out.ok HCT.out HN6.out.g0 HN6.out.g1 hlr (sizeLe64 _) (by have := HFR.out; omega) (by rw [morePs_len, ← HFR.out, ← HU.out]; omega) (by omega)
    rw [morePs_len, ← HU.out] at hci
    refine hci.mono ?_
    rintro e w7 ⟨gd, vd, Fd, rfl, hgd, hT7, hC7, hD7, hG7⟩
    have hdj : ∀ q ∈ morePs 0 0 p, q ∉ morePs l u p := disj_ps (by
      rcases (show l = 0 ∨ l = 1 by omega) with e | e
      · right; rw [hup.2.1 e]; exact Nat.le_refl _
      · left; omega)
    have hgs6 : gs < w6.heap.size := HN6.out.sp.row.lt
    have hT2 : TwoSp w1 w7 g gm gs gd w2.heap.size w6.heap.size l u p ad _ Fd _ vd :=
      ⟨Chg.go HN6.out.bl hG7 (fun k hk => by
        rcases hk with rfl | rfl
        · exact HN6.out.g0
        · exact HN6.out.g1) HN6.out.bl.size, hT7, HN6.out.sp.chg2 HN6.out.tp hG7, hD7, by
          refine ⟨HN6.out.ok.p1, fun q hq => ?_, HN6.out.ok.nd, HN6.out.ok.len⟩
          rw [hC7.old q (hdj q hq)]
          exact HN6.out.ok.is q hq, spOk_of (by omega) (by omega) (by omega) (fun i hi => by
          rw [hC7.new i hi, if_pos hi]
          have hip : i < (morePs 0 0 p).length := by rw [morePs_len]; exact hi
          exact HN6.out.ok.is _ (HN6.out.ok.at hip)), HN6.out.g0, HN6.out.g1, HNP.out.b2.size, hgs6⟩
    have HT2 := Lib.hid hT2
    have hgm7 : g < w7.heap.size ∧ gm < w7.heap.size ∧ gs < w7.heap.size := ⟨hT2.tp.row.lt, hT2.tp.mp.lt, hT2.s.row.lt⟩
    have HCD := Lib.hid (show ∀ i, i < 64 * p → spMem Fd (morePs l u p) i = spMem F4 (morePs 0 0 p) i from fun i hi => copyMem hC7 hi)
    have HCO := Lib.hid (show ∀ q ∈ morePs 0 0 p, Fd q = F4 q from fun q hq => hC7.old q (hdj q hq))
    have HDJ := Lib.hid hdj
    clear hci hT7 hC7 hD7 hG7 hT2 hdj hgd hgs6
    go_wp2_with fail
    have hrx := spaceRead_in HT2.out.tp HT2.out.d HT2.out.okd 0 (64 * p) (by omega) (by rw [morePs_len]; omega)
    rw [show ((64 * p : Nat) : Int) = 64 * (p : Int) by omega] at hrx
    refine hrx.mono ?_
    rintro e w8 ⟨gX, rfl, hgX, hX, hb8⟩
    have hsX : SI w8 .u8 (.slice (some ⟨gX, 0, none⟩) (64 * p) (64 * p)) B4 := by
      have := spBytes_row hX (fun j hj => by rw [HCD.out j hj]; exact HLT.out j hj) (by omega)
      rw [bytes_congr HCD.out, ← HB4.out] at this
      exact this
    have HX := Lib.hid hsX
    have HXR := Lib.hid hX
    have HGX := Lib.hid (show g < gX ∧ gm < gX ∧ gs < gX by omega)
    have HT8 := Lib.hid (HT2.out.keep hb8)
    clear hrx hX hb8 hsX
    obtain ⟨us7, hus7⟩ : ∃ us, us = setN (setN (fun _ => 0) 0 (0 + p)) l (u + p) := ⟨_, rfl⟩
    rw [← hus7] at HT8
    have HUS := Lib.hid hus7
    clear hus7 HT2
    go_upto_if 83 with fail
    go_cut [] (fun wx => ∃ F9, TwoSp w1 wx g gm gs gd w2.heap.size w6.heap.size l u p ad us7 F9 v3 vd ∧ Chg (fun k => k = g ∨ k = gm) w8 wx ∧ (∀ q ∈ morePs 0 0 p, F9 q = F4 q) ∧ ∀ q, (F9 q).isSome = (Fd q).isSome)
    case first =>
      by_cases hp0 : 0 < p
      · have f3 : (0 : Int) < p := by omega
        have f4 : (0 : Int) < 64 * p := by omega
        have f5 : 0 < 64 * p := by omega
        have hcx := HXR.out.cell (i := 0) f5
        obtain ⟨c, hc⟩ : ∃ c : Nat, c = spMem Fd (morePs l u p) (0 + 0) := ⟨_, rfl⟩
        have hc255 : c < 256 := by
          have h1 := HCD.out 0 f5
          have h2 := HLT.out 0 f5
          rw [hc, Nat.zero_add, h1]
          exact h2
        simp only [← hc] at hcx
        have HC := Lib.hid hc
        clear hc
        go_wp2_with fail
        rw [xor_max c hc255]
        obtain ⟨d, hd⟩ : ∃ d : Nat, d = 255 - c := ⟨_, rfl⟩
        have hd255 : d ≤ 255 := by omega
        rw [← hd]
        clear hd
        have hal := heap_alloc_last w8 (.cells #[.int .u8 (d : Int)] 5)
        have hbn := bnew w8 (.cells #[.int .u8 (d : Int)] 5)
        have hT8n := HT8.out.keep hbn
        have hgw := HT8.out.tp.row.lt
        have hgm := HT8.out.tp.mp.lt
        have hwr := spaceWrite_any hT8n.tp hT8n.d hT8n.okd (some ⟨w8.heap.size, 0, none⟩) 1 [(d : Int)] (fun w' hc => (lit_si hal (by omega) (by omega)).chg hc (fun a e => by
          cases e
          rintro (h | h) <;> simp only at h <;> omega)) 0 (by omega) (by rw [morePs_len]; simp only [List.length_singleton]; omega)
        refine hwr.mono ?_
        rintro e w9 ⟨rfl, F9, hT9, hU9, hC9⟩
        have hT9' := hT8n.upd hT9 hU9.same hC9
        have HT9 := Lib.hid hT9'
        have HU9 := Lib.hid hU9
        have HC9 := Lib.hid ((Chg.of_below (fun k => k = g ∨ k = gm) hbn).trans hC9 (fun k _ h => h))
        clear hwr hT9 hU9 hC9 hT8n hal hbn hcx hT9' hgw hgm
        go_wp2_with fail
        go_meet
        exact ⟨F9, HT9.out, HC9.out, fun q hq => by rw [HU9.out.out q (HDJ.out q hq)]; exact HCO.out q hq, HU9.out.same⟩
      · have f3 : ¬ ((0 : Int) < p) := by omega
        go_wp2_with fail
        go_meet
        exact ⟨Fd, HT8.out, Chg.refl _ _, HCO.out, fun _ => rfl⟩
    case rest =>
    obtain ⟨F9, hT9, hC9, hS9, hI9⟩ := hcut
    obtain ⟨w9, hw9⟩ : ∃ x, x = wc := ⟨_, rfl⟩
    subst hw9
    have hgx := HGX.out
    have hX9 := HX.out.chg hC9 (fun a e => by
      cases e
      rintro (h | h) <;> simp only at h <;> omega)
    have HT9 := Lib.hid hT9
    have HX9 := Lib.hid hX9
    have HS9 := Lib.hid hS9
    clear hT9 hC9 hX9 hS9 hI9
    go_at_K
    go_step
    go_wp2_with fail
    have hry := spaceRead_in HT9.out.tp HT9.out.s HT9.out.oks 0 (64 * p) (by omega) (by rw [morePs_len]; omega)
    rw [show ((64 * p : Nat) : Int) = 64 * (p : Int) by omega] at hry
    refine hry.mono ?_
    rintro e w10 ⟨gY, rfl, hgY, hY, hb10⟩
    have hm9 : ∀ i, i < 64 * p → spMem F9 (morePs 0 0 p) i = spMem F4 (morePs 0 0 p) i := fun i hi => memCongr (by rw [morePs_len]; exact hi) HS9.out
    have hsY : SI w10 .u8 (.slice (some ⟨gY, 0, none⟩) (64 * p) (64 * p)) B4 := by
      have := spBytes_row hY (fun j hj => by rw [hm9 j hj]; exact HLT.out j hj) (by omega)
      rw [bytes_congr hm9, ← HB4.out] at this
      exact this
    have HT10 := Lib.hid (HT9.out.keep hb10)
    have HX10 := Lib.hid (HX9.out.keep hb10)
    have HY10 := Lib.hid hsY
    have HGY := Lib.hid (show g < gY ∧ gm < gY ∧ gs < gY by
      have h1 := HT9.out.tp.row.lt
      have h2 := HT9.out.tp.mp.lt
      have h3 := HT9.out.s.row.lt
      omega)
    clear hry hY hb10 hm9 hsY
    go_wp2_with fail
    have hu70 : us7 0 = if l = 0 then 2 * p else p := by
      rw [HUS.out]
      by_cases e : l = 0
      · have := hup.2.1 e
        simp [setN, e]; omega
      · simp [setN, e, Ne.symm e]
    have hfree := spaceFree_in HNP.out.cp HT10.out.bl HT10.out.tp HT10.out.s HT10.out.oks (fun q hq => by obtain ⟨i, _, rfl⟩ := mem_morePs.1 hq; rfl) HT10.out.g0 HT10.out.g1 HT10.out.b0 (by rw [bigS_len]; omega) (sizeLe64 _) (by have := hfr0.2; omega) (by rw [morePs_len, hu70]; split <;> omega) (by
      rw [hu70]
      split
      · rename_i e
        subst e
        have h1 := HFR.out
        have h2 := hup.2.1 rfl
        omega
      · have := hfr0.1
        omega)
    rw [morePs_len] at hfree
    refine hfree.mono ?_
    rintro e w11 ⟨rfl, ⟨v', hs11⟩, hT11, hC11⟩
    have hd11 : SpV w11 w6.heap.size gd g l (morePs l u p) vd := HT10.out.d.chg hC11 (fun hk => by
      have h1 := HT10.out.d.ne HT10.out.tp
      have h2 := HT10.out.d.bs
      have h3 := HT10.out.lt
      rcases hk with h | h | h <;> omega) (fun x hx hk => by
      have h1 := HT10.out.d.own_ne HT10.out.tp hx
      have h3 := HT10.out.lt
      rcases hk with h | h | h <;> omega)
    have hok11 : SpOk (delPs F9 (morePs 0 0 p)) (morePs l u p) := ⟨HT10.out.okd.p1, fun q hq => by
      unfold delPs
      rw [if_neg (fun h => HDJ.out q h hq)]
      exact HT10.out.okd.is q hq, HT10.out.okd.nd, HT10.out.okd.len⟩
    have hgy := HGY.out
    have hX11 := HX10.out.chg hC11 (fun a e hk => by
      cases e
      rcases hk with h | h | h <;> simp only at h <;> omega)
    have hY11 := HY10.out.chg hC11 (fun a e hk => by
      cases e
      rcases hk with h | h | h <;> simp only at h <;> omega)
    have hb11 : Below w1.heap.size w1 w11 := Chg.go HT10.out.bl hC11 (fun k hk => by
      have := HT10.out.g0
      have := HT10.out.g1
      have := HT10.out.b0
      have := HT10.out.s.bs
      rcases hk with h | h | h <;> omega) HT10.out.bl.size
    have hul : setN us7 0 (us7 0 - p) l = p := by
      by_cases e : l = 0
      · subst e
        rw [setN_same, hu70, if_pos rfl]; omega
      · rw [setN_other _ _ e, HUS.out, setN_same]
        have := hup.2.2 (by omega)
        omega
    have HD11 := Lib.hid hd11
    have HT11 := Lib.hid hT11
    have HO11 := Lib.hid hok11
    have HX11 := Lib.hid hX11
    have HY11 := Lib.hid hY11
    have HB11 := Lib.hid hb11
    have HUL := Lib.hid hul
    clear hfree hs11 hT11 hC11 hd11 hok11 hX11 hY11 hb11 hul hu70
    go_wp2_with fail
    have hrz := spaceRead_in HT11.out HD11.out HO11.out 0 (64 * p) (by omega) (by rw [morePs_len]; omega)
    rw [show ((64 * p : Nat) : Int) = 64 * (p : Int) by omega] at hrz
    refine hrz.mono ?_
    rintro e w12 ⟨gZ, rfl, _, _, hb12⟩
    have HD12 := Lib.hid (HD11.out.keep hb12)
    have HT12 := Lib.hid (HT11.out.keep hb12)
    have HB12 := Lib.hid (HB11.out.trans (hb12.mono HB11.out.size))
    have hX12 := HX11.out.keep hb12
    have hY12 := HY11.out.keep hb12
    have hb : SI w12 .u8 (.slice A t cap) (zs.take t) := by
      have h2 := (HZ1.out.keep HNP.out.b1).keep HB12.out
      rw [← HL.out] at h2
      exact h2.prefix t (by rw [← HL.out]; exact ht1)
    have hbl : B4.length = 64 * p := by rw [HB4.out, spBytes_len]
    have hYt := hY12.prefix t (by rw [hbl]; exact ht2)
    rw [HTK.out] at hYt
    have hud : undef = Value.tuple #[] := rfl
    obtain ⟨S1, hS1⟩ : ∃ s, s = strOfNums B4 := ⟨_, rfl⟩
    obtain ⟨S2, hS2⟩ : ∃ s, s = strOfNums (zs.take t) := ⟨_, rfl⟩
    have cx := fun d os => (hX12.keep (below_regrown w12 d os)).toString (P := Try.prog) Try.underlying24 Try.underlying5 Try.underlying9
    have cy := fun d os => (hY12.keep (below_regrown w12 d os)).toString (P := Try.prog) Try.underlying24 Try.underlying5 Try.underlying9
    have cyt := fun d os => (hYt.keep (below_regrown w12 d os)).toString (P := Try.prog) Try.underlying24 Try.underlying5 Try.underlying9
    have cb := fun d os => (hb.keep (below_regrown w12 d os)).toString (P := Try.prog) Try.underlying24 Try.underlying5 Try.underlying9
    rw [← hS1] at cx cy
    rw [← hS2] at cyt cb
    have CL : ∀ d os, Calls Try.prog 37 #[.pointer (some ⟨gd, 0, none⟩)] (Go.Sort.grow (redrawn w12 d) os) fun e w'' => e = .returned (.int .i64 l) ∧ ∃ p : Regrown, w'' = Go.Sort.grow (redrawn w12 p.d) p.os := fun d os =>
      Calls.regrown_of ((spaceLab_in (HD12.out.keep (below_regrown w12 d os))).mono fun e w' h => ⟨h.1, h.2 ▸ Below.refl _ _⟩)
    have CU : ∀ d os, Calls Try.prog 38 #[.pointer (some ⟨g, 0, none⟩), .int .i64 l] (Go.Sort.grow (redrawn w12 d) os) fun e w'' => e = .returned (.int .i64 p) ∧ ∃ p : Regrown, w'' = Go.Sort.grow (redrawn w12 p.d) p.os := fun d os => by
      have := frameUsed_in (HT12.out.keep (below_regrown w12 d os)) l (by omega)
      rw [HUL.out] at this
      exact Calls.regrown_of (this.mono fun e w' h => ⟨h.1, h.2 ▸ Below.refl _ _⟩)
    have CL' := Lib.hid CL
    have CU' := Lib.hid CU
    have g4 : (t : Int) ≤ 64 * (p : Int) := by omega
    clear hrz hb12 hX12 hY12 hb hYt hbl hS1 hS2 CL CU
    go_wp2_with fail
    refine wp_region_quiet_below (by kernel_rfl) (by kernel_rfl) ?_
    repeat (go_big_quiet_step (first
      | (go_at_call 37; with_reducible exact CL'.out _ _)
      | (go_at_call 38; with_reducible exact CU'.out _ _)))
    refine wpQuiet_nil ?_
    intro w20 hw20
    have hb20 : Below w12.heap.size w12 w20 := by obtain ⟨p, rfl⟩ := hw20; exact below_regrown w12 p.d p.os
    have HB20 := Lib.hid (HB12.out.trans (hb20.mono HB12.out.size))
    clear hw20 hb20 cx cy cyt cb hud
    go_wp2_with fail
    go_ret
    exact ⟨rfl, HBW.out.trans (HB20.out.mono HBW.out.size)⟩
end Go.Proofs.Ytiedenjcmkebaaa
