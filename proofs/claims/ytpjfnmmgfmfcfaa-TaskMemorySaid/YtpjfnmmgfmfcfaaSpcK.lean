/- Memory of a process: Grow downwards to nothing (Free). -/
import Derived.Test.YtpjfnmmgfmfcfaaSpcI
set_option linter.unusedVariables false
set_option linter.unusedSimpArgs false
namespace Go.Proofs.Ytpjfnmmgfmfcfaa
open Go.RowKit

theorem own_prefix {w : World} {base : Nat} {e : TypeId} {size : Nat} {A : Option Addr} {n c k : Nat} {xs : List Value} (h : w.ownsRow base e size (.slice A n c) n xs) (hk : k ≤ n) : w.ownsRow base e size (.slice A k c) k (xs.take (k * size)) := by
  obtain ⟨hl, h⟩ := h
  have hkm : k * size ≤ n * size := Nat.mul_le_mul_right _ hk
  refine ⟨by rw [List.length_take, hl]; omega, ?_⟩
  rcases h with ⟨h1, h2⟩ | ⟨g, c', cur, h1, h2, h3, h4, h5, h6, h7⟩
  · cases h1
    have : k = 0 := by omega
    subst this
    exact .inl ⟨rfl, rfl⟩
  · cases h1
    refine .inr ⟨g, c, cur, rfl, h2, h3, by omega, h5, h6, ?_⟩
    rw [← h7, List.take_take, Nat.min_eq_left hkm]
theorem take_markCells (ps : List (Nat × Nat)) (k : Nat) (hk : k ≤ ps.length) : (markCells ps).take (k * 2) = markCells (ps.take k) := by
  induction ps generalizing k with
  | nil => simp [markCells]
  | cons p t ih =>
    cases k with
    | zero => simp [markCells]
    | succ k =>
      have := ih k (by simpa using hk)
      simp only [markCells, List.flatMap_cons, List.take_succ_cons, labCells] at this ⊢
      rw [show (k + 1) * 2 = k * 2 + 2 by omega]
      simpa using this
/-- The pages of a list are given back, the last first. -/
def delPs (F : Nat × Nat → Option (Nat → Nat)) (ps : List (Nat × Nat)) : Nat × Nat → Option (Nat → Nat) := fun p => if p ∈ ps then none else F p
section
variable {w w' w0 : World} {base gs g gm lab : Nat} {ps : List (Nat × Nat)} {v : Value} {a : Option Addr} {us : Nat → Nat} {F F' : Nat × Nat → Option (Nat → Nat)} {rs : List RegL}
theorem setN_self' (us : Nat → Nat) (l : Nat) : setN us l (us l) = us := by funext j; unfold setN; split <;> simp_all
theorem delPs_nil : delPs F [] = F := by funext p; simp [delPs]
theorem delPs_last (k : Nat) (hk : k < ps.length) (hnd : ps.Nodup) : delF (delPs F (ps.drop (k + 1))) (ps.getD k (0, 0)) = delPs F (ps.drop k) := by
  funext p
  rw [List.drop_eq_getElem_cons hk, List.getD_eq_getElem?_getD, List.getElem?_eq_getElem hk]
  unfold delF delPs
  simp only [Option.getD_some, List.mem_cons]
  by_cases h : p = ps[k]
  · simp [h]
  · simp [h]
theorem drop_not (k : Nat) (hk : k < ps.length) (hnd : ps.Nodup) : ps.getD k (0, 0) ∉ ps.drop (k + 1) := by
  rw [List.getD_eq_getElem?_getD, List.getElem?_eq_getElem hk]
  have h2 : (ps.drop k).Nodup := List.Sublist.nodup (List.drop_sublist _ _) hnd
  rw [List.drop_eq_getElem_cons hk] at h2
  exact (List.nodup_cons.1 h2).1
def spT (g gm gs : Nat) : Nat → Prop := fun k => k = g ∨ k = gm ∨ k = gs
set_option maxRecDepth 100000 in
set_option maxHeartbeats 8000000 in
theorem spaceGrow_down (hp : ConfP w0 a rs) (hb : Below w0.heap.size w0 w) (ht : FP w g gm a us F) (hs : SpV w base gs g lab ps v) (ok : SpOk F ps) (hpl : ∀ p ∈ ps, p.1 = lab) (g0 : w0.heap.size ≤ g) (g1 : w0.heap.size ≤ gm) (hbase : w0.heap.size ≤ base)
    (hl : lab < rs.length) (h64 : rs.length ≤ 64) (hfr : rs[lab].fr < 65536) (hus : ps.length ≤ us lab) (huf : us lab ≤ rs[lab].fr) :
    Calls Try.prog 35 #[.pointer (some ⟨gs, 0, none⟩), .int .i64 (-(ps.length : Int))] w fun e w' => e = .returned (.int .i64 0) ∧ (∃ v', SpV w' base gs g lab [] v') ∧ FP w' g gm a (setN us lab (us lab - ps.length)) (delPs F ps) ∧ Chg (spT g gm gs) w w' := by
  obtain ⟨A, c, hv⟩ := own_form hs.ov
  have c0 := hs.c0
  have c1 := hs.c1
  have c2 := hs.c2
  rw [hv] at c2
  have hs' := hs
  rw [hv] at hs'
  obtain ⟨n, hn⟩ : ∃ n, n = ps.length := ⟨_, rfl⟩
  have h32 := ok.len
  rw [← hn] at c2 h32 hus hs' ⊢
  have HN := Lib.hid hn
  have HP := Lib.hid hp
  have HB := Lib.hid hb
  have HT := Lib.hid ht
  have HS := Lib.hid hs'
  have HO := Lib.hid ok
  have HPL := Lib.hid hpl
  have HG := Lib.hid (And.intro g0 g1)
  have HBA := Lib.hid hbase
  obtain ⟨fr, hf⟩ : ∃ fr, fr = rs[lab].fr := ⟨_, rfl⟩
  rw [← hf] at hfr huf
  have HF := Lib.hid hf
  obtain ⟨u0, hu0⟩ : ∃ u, u = us lab := ⟨_, rfl⟩
  rw [← hu0] at hus huf
  have HU := Lib.hid hu0
  have HL := Lib.hid hl
  have H64 := Lib.hid h64
  have cR : ∀ d os, Calls Try.prog 54 #[.pointer (some ⟨g, 0, none⟩), .int .i64 lab] (Go.Sort.grow (redrawn w d) os) fun e w'' => e = .returned (.int .i64 ((fr : Int) - u0)) ∧ ∃ p : Regrown, w'' = Go.Sort.grow (redrawn w p.d) p.os := fun d os => by
    have := frameRoom_in HP.out (HB.out.trans ((below_regrown w d os).mono HB.out.size)) (HT.out.keep (below_regrown w d os)) lab hl h64 (by rw [← HU.out]; omega) (by rw [← HF.out]; omega)
    rw [← HF.out, ← HU.out] at this
    exact Calls.regrown_of this
  have CR := Lib.hid cR
  have q0 := fun d os => cell_regrown c0 d os
  have q1 := fun d os => cell_regrown c1 d os
  have f0 : IntKind.i64.wrap (32 - (n : Int)) = 32 - (n : Int) := by rw [IntKind.wrap_i64]; omega
  have f1 : ¬ (32 - (n : Int) < -(n : Int)) := by omega
  have f2 : IntKind.i64.wrap (-(n : Int)) = -(n : Int) := by rw [IntKind.wrap_i64]; omega
  have f4 : ¬ ((fr : Int) - u0 < -(n : Int)) := by omega
  clear hp hb ht hs hs' ok hpl g0 g1 hbase h64 hn hv cR hf hu0
  go_enter Try.func35, Try.ntmps35
  go_upto_region 7 with fail
  refine wp_region_quiet_below (by kernel_rfl) (by kernel_rfl) ?_
  repeat (go_big_quiet_step (first
    | (go_at_call 54; with_reducible exact CR.out _ _)))
  refine wpQuiet_nil ?_
  intro w7 hw7
  have hb7 : Below w.heap.size w w7 := by obtain ⟨p, rfl⟩ := hw7; exact below_regrown w p.d p.os
  have HT7 := Lib.hid (HT.out.keep hb7)
  have HS7 := Lib.hid (HS.out.keep hb7)
  have HC7 := Lib.hid (Chg.of_below (spT g gm gs) hb7)
  clear hw7 hb7 q0 q1 c0 c1 c2 f0 f1 f2 f4 CR
  go_wp2_with fail
  go_loopw [1] (fun r wx => ∃ j : Nat, j ≤ n ∧ r = .int .i64 (-(n : Int) + j) ∧ FP wx g gm a (setN us lab (us lab - j)) (delPs F (ps.drop (n - j))) ∧ SpV wx base gs g lab (ps.take (n - j)) (.slice A (n - j : Nat) c) ∧ Chg (spT g gm gs) w wx) (fun r _ => (-(intOf r)).toNat)
  case atStart =>
    refine ⟨0, by omega, by simp, ?_, ?_, HC7.out⟩
    · rw [Nat.sub_zero, setN_self', Nat.sub_zero, HN.out, List.drop_length, delPs_nil]; exact HT7.out
    · rw [Nat.sub_zero, List.take_of_length_le (by rw [HN.out]; exact Nat.le_refl _)]; exact HS7.out
  case round =>
    obtain ⟨j, hj, rfl, htr, hsr, hch⟩ := hrel
    have HTR := Lib.hid htr
    have HSR := Lib.hid hsr
    have HCH := Lib.hid hch
    clear htr hsr hch
    by_cases hjn : j < n
    · have f1 : -(n : Int) + j < 0 := by omega
      obtain ⟨k, hk⟩ : ∃ k, n - j = k + 1 := ⟨n - j - 1, by omega⟩
      rw [hk] at HTR HSR
      have hkn : k < ps.length := by rw [← HN.out]; omega
      have hjk : n - (j + 1) = k := by omega
      have hlen : (ps.take (k + 1)).length = k + 1 := by rw [List.length_take]; omega
      have ov := HSR.out.ov
      rw [hlen] at ov
      obtain ⟨q, off, cq, hvq, hcq, _, _, hpg⟩ := page_cells (ps := ps.take (k + 1)) (by rw [hlen]; exact SR.of_own ov) (by rw [hlen]; omega)
      rw [hlen] at hvq hcq
      cases hvq
      have f8 : k ≤ c := by omega
      have f9 : (k : Int) ≤ c := by omega
      have k12 := hpg k (by rw [hlen]; omega)
      rw [List.getElem_take] at k12
      obtain ⟨p, hpd⟩ : ∃ p, p = ps.getD k (0, 0) := ⟨_, rfl⟩
      have hpk : ps[k] = p := by rw [hpd, List.getD_eq_getElem?_getD, List.getElem?_eq_getElem hkn]; rfl
      rw [hpk] at k12
      have hmem : p ∈ ps := by rw [← hpk]; exact List.getElem_mem hkn
      have hnotin := drop_not k hkn HO.out.nd
      rw [← hpd] at hnotin
      have hp1 := HO.out.p1 p hmem
      have hplab := HPL.out p hmem
      have hgv := frameGive_ok (HTR.out.keep (drewb wr)) p (by have := HL.out; have := H64.out; omega) hp1.2 (by unfold delPs; rw [if_neg hnotin]; exact HO.out.is p hmem) (by rw [hplab, setN_same, ← HU.out]; omega) (by rw [hplab, setN_same, ← HU.out]; omega)
      rw [hplab, setN_same, setN_twice, hpd, delPs_last k hkn HO.out.nd, ← hpd] at hgv
      have HGV := Lib.hid hgv
      have HLN2 := Lib.hid hlen
      have HLN3 := Lib.hid (show (ps.take k).length = k by rw [List.length_take]; omega)
      have HJK := Lib.hid hjk
      have HKN := Lib.hid hkn
      have HK := Lib.hid hk
      obtain ⟨e1, e2⟩ := k12
      have c0 := HSR.out.c0
      have c2 := HSR.out.c2
      have f2 : wrap64 (k : Int) = k := by unfold wrap64; omega
      have f3 : (k : Int) < (k : Int) + 1 := by omega
      clear hgv hpg ov hpd hpk hmem hnotin hjk hkn hk hlen hp1 hplab
      go_upto_region 12 with fail
      refine wp_region_still_tail 11 (by kernel_rfl) (by kernel_rfl) ?_
      simp only [List.take_succ_cons, List.take_zero, List.drop_succ_cons, List.drop_zero]
      change wpStill _ _ (World.drew wr) _ _ _
      iterate 11 still_step
      refine wpStill_nil ?_
      change wpList _ _ _ _ _ (World.drew wr)
      go_wp2_with fail
      unfold markV at HGV
      refine HGV.out.mono ?_
      rintro e w8 ⟨rfl, hT8, hD8⟩
      have hc8 : Chg (fun k => k = g ∨ k = gm) wr w8 := (Chg.of_below (fun k => k = g ∨ k = gm) (drewb wr)).trans (Chg.of_duo hD8 (.inl rfl) (.inr rfl)) (fun k _ h => h)
      have HS8 := Lib.hid (HSR.out.chg2 HTR.out hc8)
      have HT8 := Lib.hid hT8
      have HC8 := Lib.hid (HCH.out.trans hc8 (fun k _ h => h.elim .inl (fun h => .inr (.inl h))))
      clear hT8 hD8 hc8 c0 c2 e1 e2
      have c2 := HS8.out.c2
      have cf := HS8.out.row.frozen
      go_wp2_with fail
      have o9 := one_setCell w8 gs 2 (.slice (some ⟨q, off, none⟩) k c)
      have hrow9 := (HS8.out.row.set 2 (.slice (some ⟨q, off, none⟩) k c)).congr (f := fun i => if i = 2 then Value.slice (some ⟨q, off, none⟩) k c else spF g lab (.slice (some ⟨q, off, none⟩) (k + 1 : Nat) c) i) (g := spF g lab (.slice (some ⟨q, off, none⟩) k c)) (fun i hi => by
        match i, hi with
        | 0, _ => rfl
        | 1, _ => rfl
        | 2, _ => rfl)
      have hne := HS8.out.ne HT8.out
      have hT9 := HT8.out.one o9 hne.1 hne.2
      rw [Nat.sub_sub] at hT9
      have hown := HS8.out.ov
      have hlen2 := HLN2.out
      have hlen3 := HLN3.out
      rw [hlen2] at hown
      have hpre := own_prefix hown (Nat.le_succ k)
      rw [take_markCells _ _ (by rw [hlen2]; exact Nat.le_succ k), List.take_take, Nat.min_eq_left (Nat.le_succ k)] at hpre
      have hs9 : SpV (w8.setCell ⟨gs, 2, none⟩ (.slice (some ⟨q, off, none⟩) k c)) base gs g lab (ps.take k) (.slice (some ⟨q, off, none⟩) k c) :=
        ⟨hrow9, by rw [hlen3]; exact own_one hpre o9 (fun x hx e => by cases e; exact (HS8.out.own_ne HT8.out hx).2.2.1 rfl), HS8.out.bs⟩
      have hc9 : Chg (spT g gm gs) w (w8.setCell ⟨gs, 2, none⟩ (.slice (some ⟨q, off, none⟩) k c)) := HC8.out.trans (Chg.of_one (S := spT g gm gs) o9 (.inr (.inr rfl))) (fun k _ h => h)
      refine ⟨⟨j + 1, by omega, by rw [show -(n : Int) + j + 1 = -(n : Int) + ((j + 1 : Nat) : Int) by omega], by rw [HJK.out]; exact hT9, ?_, hc9⟩, by simp [intOf]; omega⟩
      rw [HJK.out]
      exact hs9
    · obtain rfl : j = n := by omega
      have f1 : ¬ (-(j : Int) + j < 0) := by omega
      have f2 : ¬ (0 < -(j : Int) + j) := by omega
      go_wp2_with fail
      go_loopw [1] (fun r wx => r = .int .i64 (-(j : Int) + j) ∧ wx = wr) (fun _ _ => 0)
      case atStart => exact ⟨rfl, rfl⟩
      case round =>
        obtain ⟨rfl, rfl⟩ := hrel
        go_wp2_with fail
        go_ret
        have hs := HSR.out
        have ht := HTR.out
        rw [Nat.sub_self, List.take_zero] at hs
        rw [Nat.sub_self, List.drop_zero] at ht
        exact ⟨rfl, ⟨_, hs⟩, ht, HCH.out⟩
end
end Go.Proofs.Ytpjfnmmgfmfcfaa
