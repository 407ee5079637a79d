/- Configurations: one is made (conf.New). -/
import Derived.Test.YtapcbfeifeobhaaConD
set_option linter.unusedVariables false
set_option linter.unusedSimpArgs false
namespace Go.Proofs.Ytapcbfeifeobhaa
open Go.RowKit

/-- Labels and marks that make a configuration. -/
structure okConf (rs : List RegL) (ms : List (Nat × Nat)) : Prop where
  n1 : 1 ≤ rs.length
  n2 : rs.length ≤ 64
  each : ∀ r ∈ rs, okR rs.length r
  names : (rs.map (·.name)).Nodup
  labs : (rs.map (·.lab)).Nodup
  low : ∀ h : 0 < rs.length, rs[0].lab = (0, 0)
  up : ∀ i (h : i < rs.length) (h2 : rs[i].cl < rs.length), leqL rs[i].lab rs[rs[i].cl].lab = true
  m1 : ms.length ≤ 1000
  marks : ∀ m ∈ ms, ∃ h : m.1 < rs.length, 1 ≤ m.2 ∧ m.2 ≤ rs[m.1].no
  mnd : ms.Nodup

theorem geosOf_le : ∀ (rs : List RegL) (many : Nat), (∀ r ∈ rs, okR many r) → (geosOf rs).2 ≤ 32 + 577 * rs.length := by
  intro rs many h
  have key : ∀ (l : List RegL) (s : List GeoL × Nat), (∀ r ∈ l, okR many r) → (l.foldl geoStep s).2 ≤ s.2 + 577 * l.length := by
    intro l
    induction l with
    | nil => intro s _; simp
    | cons r l ih =>
      intro s hs
      rw [List.foldl_cons]
      have h1 := ih (geoStep s r) (fun q hq => hs q (by simp [hq]))
      have h2 := hs r (by simp)
      have b1 := h2.bl2
      have b2 := h2.no2
      have h3 : (geoStep s r).2 ≤ s.2 + 577 := by
        show (geoOf s.2 r).data + r.bl ≤ _
        unfold geoOf
        simp only
        omega
      simp only [List.length_cons]
      omega
  exact key rs ([], 32) h
theorem take_next {α : Type} (l : List α) (k : Nat) (hk : k < l.length) : l.take (k + 1) = l.take k ++ [l[k]] := by
  rw [List.take_add_one, List.getElem?_eq_getElem hk]
  rfl
theorem nodup_take {α β : Type} {f : α → β} {l : List α} (h : (l.map f).Nodup) (k : Nat) (hk : k < l.length) : ∀ q ∈ l.take k, f q ≠ f l[k] := by
  intro q hq he
  obtain ⟨i, hi, rfl⟩ := List.getElem_of_mem hq
  simp only [List.length_take] at hi
  rw [List.getElem_take] at he
  have := (List.pairwise_iff_getElem.1 h) i k (by simp; omega) (by simpa using hk) (by omega)
  simp at this
  exact this he
theorem markF_snoc (ms : List (Nat × Nat)) (p a : Nat × Nat) : putF (markF ms) p true a = markF (ms ++ [p]) a := by
  unfold putF markF
  by_cases h : a = p
  · simp [h]
  · simp [h]
theorem CR.setF {B : Nat} {w : World} {gT gN gL : Nat} {v m u : Value} {rs : List RegL} {gs : List GeoL} {nf : ByteArray → Option Nat} {lf : Nat × Nat → Option Nat} {tf tf' : Nat × Nat → Option Bool} {ms : List (Nat × Nat)}
    (h : CR B w gT gN gL v m u rs gs nf lf tf ms) (he : ∀ a, tf a = tf' a) : CR B w gT gN gL v m u rs gs nf lf tf' ms := by rw [← funext he]; exact h
theorem CB.made (w : World) :
    CB w.heap.size ((((w.alloc (.map #[] 0)).alloc (.map #[] 0)).alloc (.map #[] 0)).alloc (.cells #[.slice none 0 0, .map (some w.heap.size), .slice none 0 0, .map (some (w.heap.size + 1)), .map (some (w.heap.size + 2)), .slice none 0 0, .int .i64 32] 155))
      (w.heap.size + 3) w.heap.size (w.heap.size + 1) (w.heap.size + 2) (.slice none 0 0) (.slice none 0 0) (.slice none 0 0) [] [] := by
  refine ⟨?_, by omega, ?_⟩
  · have := heap_alloc_last (((w.alloc (.map #[] 0)).alloc (.map #[] 0)).alloc (.map #[] 0)) (.cells #[.slice none 0 0, .map (some w.heap.size), .slice none 0 0, .map (some (w.heap.size + 1)), .map (some (w.heap.size + 2)), .slice none 0 0, .int .i64 32] 155)
    simp only [World.size_alloc] at this
    exact this
  · have m1 := ((MK.made (κ := Nat × Nat) (α := Bool) (P := Try.prog) (k := 158) (kv := markV) (vv := Value.bool) w).keep (bnew _ (.map #[] 0))).keep (bnew _ (.map #[] 0))
    have m2 := (MK.made (κ := ByteArray) (α := Nat) (P := Try.prog) (k := 9) (kv := Value.string) (vv := intV) (w.alloc (.map #[] 0))).keep (bnew _ (.map #[] 0))
    have m3 := MK.made (κ := Nat × Nat) (α := Nat) (P := Try.prog) (k := 136) (kv := labV) (vv := intV) ((w.alloc (.map #[] 0)).alloc (.map #[] 0))
    simp only [World.size_alloc] at m1 m2 m3
    exact CR.keep ⟨m1.congr (fun _ => rfl), m2.congr (fun _ => rfl), m3.congr (fun _ => rfl), ⟨rfl, .inl ⟨rfl, rfl⟩⟩, ⟨rfl, .inl ⟨rfl, rfl⟩⟩, ⟨rfl, .inl ⟨rfl, rfl⟩⟩, by omega, by omega, by omega, by omega, by omega, by omega⟩ (bnew _ _)

set_option maxRecDepth 100000 in
set_option maxHeartbeats 8000000 in
theorem confNew_in (w : World) (v u : Value) (rs : List RegL) (ms : List (Nat × Nat)) (hv : SR w v rs.length 9 (regCells rs)) (hu : SR w u ms.length 2 (markCells ms)) (ok : okConf rs ms) :
    Calls Try.prog 66 #[v, u] w fun e w' => Below w.heap.size w w' ∧ ∃ g gT gN gL v' m' u', e = .returned (.tuple #[.pointer (some ⟨g, 0, none⟩), .int .i64 0]) ∧ CB w.heap.size w' g gT gN gL v' m' u' rs ms := by
  have n1 := ok.n1
  have n2 := ok.n2
  have m1 := ok.m1
  obtain ⟨gr, off, cap, rfl, hc1, hc2, hgr, hcell⟩ := RS_cases hv (by omega)
  obtain ⟨A, cap2, rfl, hd1, hd2⟩ := hu.form
  have HV := Lib.hid hcell
  have HU := Lib.hid hu
  have HOK := Lib.hid ok
  clear hv hu ok hcell
  have e1 : ((rs.length : Int) == 0) = false := by rw [beq_eq_false_iff_ne]; omega
  have hmm := @run_makeMap Try.prog
  go_enter Try.func66, Try.ntmps66
  go_wp2_with fail
  have hcb := CB.made w
  have hb0 : Below w.heap.size w ((((w.alloc (.map #[] 0)).alloc (.map #[] 0)).alloc (.map #[] 0)).alloc (.cells #[.slice none 0 0, .map (some w.heap.size), .slice none 0 0, .map (some (w.heap.size + 1)), .map (some (w.heap.size + 2)), .slice none 0 0, .int .i64 32] 155)) := bnewAfter (bnewAfter (bnewAfter (bnew _ _) _) _) _
  generalize (((w.alloc (.map #[] 0)).alloc (.map #[] 0)).alloc (.map #[] 0)).alloc (.cells #[.slice none 0 0, .map (some w.heap.size), .slice none 0 0, .map (some (w.heap.size + 1)), .map (some (w.heap.size + 2)), .slice none 0 0, .int .i64 32] 155) = w1 at *
  have hread : ∀ wr : World, Below w.heap.size w wr → ∀ i (hi : i < rs.length), wr.cell? ⟨gr, off + i * 9, none⟩ = some (.string rs[i].name) ∧ wr.cell? ⟨gr, off + i * 9 + 1, none⟩ = some (.int .u8 rs[i].lab.1) ∧ wr.cell? ⟨gr, off + i * 9 + 2, none⟩ = some (.int .u16 rs[i].lab.2) ∧
      wr.cell? ⟨gr, off + i * 9 + 3, none⟩ = some (.int .i64 rs[i].bl) ∧ wr.cell? ⟨gr, off + i * 9 + 4, none⟩ = some (.int .i64 rs[i].no) ∧ wr.cell? ⟨gr, off + i * 9 + 5, none⟩ = some (.int .i64 rs[i].fr) ∧
      wr.cell? ⟨gr, off + i * 9 + 6, none⟩ = some (.int .i64 rs[i].pr) ∧ wr.cell? ⟨gr, off + i * 9 + 7, none⟩ = some (.int .i64 rs[i].op) ∧ wr.cell? ⟨gr, off + i * 9 + 8, none⟩ = some (.int .i64 rs[i].cl) := fun wr hbr i hi => by
    have e := fun o => World.cell?_of_block (w := w) (a := ⟨gr, o, none⟩) (hbr.block gr hgr)
    simp only [e]
    exact HV.out i hi
  have HRD := Lib.hid hread
  clear hread HV
  go_loopw [29] (fun r wr => ∃ k : Nat, k ≤ rs.length ∧ r = .int .i64 k ∧ Below w.heap.size w wr ∧ ∃ v' u', CB w.heap.size wr (w.heap.size + 3) w.heap.size (w.heap.size + 1) (w.heap.size + 2) v' (.slice none 0 0) u' (rs.take k) []) (fun r _ => rs.length - (intOf r).toNat)
  case atStart => exact ⟨0, by omega, rfl, hb0, _, _, hcb⟩
  case round =>
    clear hcb hb0
    obtain ⟨k, hk, rfl, hbr, v', u', hc⟩ := hrel
    by_cases hlt : k < rs.length
    · obtain ⟨c0, c1, c2, c3, c4, c5, c6, c7, c8⟩ := HRD.out wr hbr k hlt
      have okr := HOK.out.each rs[k] (List.getElem_mem hlt)
      have hnm := nodup_take HOK.out.names k hlt
      have hlb := nodup_take HOK.out.labs k hlt
      have hgeo : (geosOf (rs.take k)).2 ≤ 100000 := by
        have := geosOf_le (rs.take k) rs.length (fun r hr => HOK.out.each r (List.mem_of_mem_take hr))
        simp only [List.length_take] at this
        omega
      have hlen : (rs.take k).length = k := by simp only [List.length_take]; omega
      have HNX := Lib.hid (take_next rs k hlt)
      generalize rs[k] = r at *
      have HC := Lib.hid (hc.keep (bnew wr (.cells #[.string r.name, .int .u8 r.lab.1, .int .u16 r.lab.2, .int .i64 r.bl, .int .i64 r.no, .int .i64 r.fr, .int .i64 r.pr, .int .i64 r.op, .int .i64 r.cl] 138)))
      have hadd := Lib.hid (confAdd_in r rs.length HC.out okr hnm hlb (by rw [hlen]; omega) (by omega) hgeo (by have := hbr.size; simp only [World.size_alloc]; omega))
      rw [hlen] at hadd
      have hb1 := (hbr.alloc hbr.size (.cells #[.string r.name, .int .u8 r.lab.1, .int .u16 r.lab.2, .int .i64 r.bl, .int .i64 r.no, .int .i64 r.fr, .int .i64 r.pr, .int .i64 r.op, .int .i64 r.cl] 138))
      clear hc hnm hlb okr hgeo
      go_wp2_with (go_at_call 70; refine hadd.out.mono ?_; rintro e w2 ⟨rfl, hb2, v2, u2, hc2⟩)
      refine ⟨⟨k + 1, by omega, rfl, hb1.trans hb2, v2, u2, ?_⟩, by simp [intOf]; omega⟩
      rw [HNX.out]
      exact hc2
    · have hkk : rs.take k = rs := List.take_of_length_le (by omega)
      rw [hkk] at hc
      obtain ⟨_, z1, z2, _⟩ := HRD.out wr hbr 0 (by omega)
      have hl0 := HOK.out.low (by omega)
      rw [hl0] at z1 z2
      simp only [Nat.zero_mul, Nat.add_zero] at z1 z2
      have HC := Lib.hid hc
      clear hc hkk hl0
      go_wp2_with fail
      go_loopw [52] (fun r w2 => ∃ k : Nat, k ≤ rs.length ∧ r = .int .i64 k ∧ Below w.heap.size w w2 ∧ CB w.heap.size w2 (w.heap.size + 3) w.heap.size (w.heap.size + 1) (w.heap.size + 2) v' (.slice none 0 0) u' rs []) (fun r _ => rs.length - (intOf r).toNat)
      case atStart => exact ⟨0, by omega, rfl, hbr, HC.out⟩
      case round =>
        clear z1 z2 HC hbr
        obtain ⟨k, hk, rfl, hb2, hc⟩ := hrel
        by_cases hlt : k < rs.length
        · obtain ⟨c0, c1, c2, c3, c4, c5, c6, c7, c8⟩ := HRD.out wr hb2 k hlt
          have okr := HOK.out.each rs[k] (List.getElem_mem hlt)
          have hcl := okr.cl
          have hup := HOK.out.up k hlt hcl
          have HC := Lib.hid (hc.keep (bnew wr (.cells (regArr rs[k]) 138)))
          have hleq := confLeq_yes HC.out.toCF (by omega) k rs[k].cl hlt hcl okr.lab_ok (HOK.out.each _ (List.getElem_mem hcl)).lab_ok
          rw [hup] at hleq
          have HL := Lib.hid hleq
          unfold regArr at HL HC
          clear hc hleq hup okr
          generalize rs[k] = r at *
          have hb3 := (hb2.alloc hb2.size (.cells #[.string r.name, .int .u8 r.lab.1, .int .u16 r.lab.2, .int .i64 r.bl, .int .i64 r.no, .int .i64 r.fr, .int .i64 r.pr, .int .i64 r.op, .int .i64 r.cl] 138))
          go_wp2_with (go_at_call 71; refine HL.out.mono ?_; rintro e w3 ⟨rfl, hb4⟩)
          exact ⟨⟨k + 1, by omega, rfl, hb3.trans (hb4.mono hb3.size), HC.out.keep hb4⟩, by simp [intOf]; omega⟩
        · have HC := Lib.hid hc
          clear hc
          go_wp2_with fail
          go_loopw [66] (fun r w3 => ∃ k : Nat, k ≤ ms.length ∧ r = .int .i64 k ∧ Below w.heap.size w w3 ∧ ∃ m', CB w.heap.size w3 (w.heap.size + 3) w.heap.size (w.heap.size + 1) (w.heap.size + 2) v' m' u' rs (ms.take k)) (fun r _ => ms.length - (intOf r).toNat)
          case atStart => exact ⟨0, by omega, rfl, hb2, _, HC.out⟩
          case round =>
            clear HC hb2
            obtain ⟨j, hj, rfl, hb3, m', hc⟩ := hrel
            by_cases hlt2 : j < ms.length
            · rcases HU.out.cases with ⟨h, _⟩ | ⟨_, gm, offm, cap', hs, _, _, hgm, hcm⟩
              omega
              cases hs
              have hmc := labCells_get ms j hlt2
              have e0 := ((World.cell?_of_block (w := w) (a := ⟨gm, offm + j * 2, none⟩) (hb3.block gm hgm)).trans (hcm (j * 2) (by omega))).trans hmc.1
              have e1' := ((World.cell?_of_block (w := w) (a := ⟨gm, offm + j * 2 + 1, none⟩) (hb3.block gm hgm)).trans (hcm (j * 2 + 1) (by omega))).trans hmc.2
              obtain ⟨hml, hm1, hm2⟩ := HOK.out.marks ms[j] (List.getElem_mem hlt2)
              obtain ⟨_, _, _, _, c4, _⟩ := HRD.out wr hb3 ms[j].1 hml
              have hno := (HOK.out.each _ (List.getElem_mem hml)).no2
              have HNX := Lib.hid (take_next ms j hlt2)
              have hnt : ms[j] ∉ ms.take j := fun hmem => by
                have := nodup_take (f := id) (by simpa using HOK.out.mnd) j hlt2 ms[j] hmem
                exact this rfl
              clear hmc hcm
              generalize rs[ms[j].1] = r at c4 hno hm2
              generalize ms[j] = mk at *
              obtain ⟨km, hkm⟩ := key_mark mk (by omega) (by omega)
              have HKM := Lib.hid hkm
              have HM := Lib.hid (show markF (ms.take j) mk = none from if_neg hnt)
              clear hkm hnt
              have hB4 := heap_alloc_last wr (.cells #[.int .u8 mk.1, .int .u16 mk.2] 158)
              have HC4 := Lib.hid (hc.keep (bnew wr (.cells #[.int .u8 mk.1, .int .u16 mk.2] 158)))
              have hb4 := hb3.alloc hb3.size (.cells #[.int .u8 mk.1, .int .u16 mk.2] 158)
              have c44 := (World.cell?_of_block (w := wr) (w' := wr.alloc (.cells #[.int .u8 mk.1, .int .u16 mk.2] 158)) (a := ⟨gr, off + mk.1 * 9 + 4, none⟩) ((bnew wr (.cells #[.int .u8 mk.1, .int .u16 mk.2] 158)).block gr (Nat.lt_of_lt_of_le hgr hb3.size))).trans c4
              have hgw3 := rowlt hc.blk
              have hmlt : ∀ k, m'.ownBlock = some k → k < wr.heap.size := fun k hk => (hc.cr.om.lt k hk).2
              clear hc
              go_wp2_with fail
              obtain ⟨x4, hx4⟩ : ∃ x, x = wr.heap.size := ⟨_, rfl⟩
              obtain ⟨w4, hw4⟩ : ∃ w', w' = wr.alloc (.cells #[.int .u8 mk.1, .int .u16 mk.2] 158) := ⟨_, rfl⟩
              rw [← hw4] at HC4 hb4 c44 hB4 ⊢
              rw [← hx4] at hB4 hmlt ⊢
              have hgx : w.heap.size + 3 < x4 := by rw [hx4]; exact hgw3
              have y1 : IntKind.i64.wrap (mk.1 : Int) = mk.1 := by rw [IntKind.wrap_i64]; omega
              have y2 : IntKind.i64.wrap (mk.2 : Int) = mk.2 := by rw [IntKind.wrap_i64]; omega
              have y3 : (1 : Int) ≤ mk.2 := by omega
              clear hw4 hx4 hb3 c4 e0 e1'
              have C4 := rowcell hB4
              refine wp_region_held (S := fun w' => w' = w4.drew) (by kernel_rfl) ?_
              change wpAnyH _ _ _ _ _ _ _ _ (World.drew _)
              refine takeH 0 (.pointer (some ⟨x4, 0, none⟩)) (some 71) rfl rfl (by kernel_rfl) (by kernel_rfl) (by kernel_rfl) (fun _ _ _ h => h) (.inl ⟨by kernel_rfl, fun w _ => by go_simp⟩) rfl ?_
              refine takeH 1 (.int .u8 mk.1) (some 72) rfl rfl (by kernel_rfl) (by kernel_rfl) (by kernel_rfl) (fun _ _ _ h => h) (.inl ⟨by kernel_rfl, fun w hw => by subst hw; go_simp⟩) rfl ?_
              refine takeH 2 (.int .i64 (mk.1 : Nat)) (some 73) rfl rfl (by kernel_rfl) (by kernel_rfl) (by kernel_rfl) (fun _ _ _ h => h) (.inl ⟨by kernel_rfl, fun w _ => by go_simp⟩) rfl ?_
              refine takeH 3 (.slice (some ⟨gr, off, none⟩) rs.length cap) (some 74) rfl rfl (by kernel_rfl) (by kernel_rfl) (by kernel_rfl) (fun _ _ _ h => h) (.inl ⟨by kernel_rfl, fun w _ => by go_simp⟩) rfl ?_
              refine takeH 4 (.int .i64 rs.length) (some 75) rfl rfl (by kernel_rfl) (by kernel_rfl) (by kernel_rfl) (fun _ _ _ h => h) (.inl ⟨by kernel_rfl, fun w _ => by go_simp⟩) rfl ?_
              refine takeH 5 (.bool false) (some 76) rfl rfl (by kernel_rfl) (by kernel_rfl) (by kernel_rfl) (fun _ _ _ h => h) (.inl ⟨by kernel_rfl, fun w _ => by go_simp⟩) rfl ?_
              refine takeH 6 (.bool false) (some 77) rfl rfl (by kernel_rfl) (by kernel_rfl) (by kernel_rfl) (fun _ _ _ h => h) (.inl ⟨by kernel_rfl, fun w _ => by go_simp⟩) rfl ?_
              refine takeH 7 (.pointer (some ⟨x4, 1, none⟩)) (some 78) rfl rfl (by kernel_rfl) (by kernel_rfl) (by kernel_rfl) (fun _ _ _ h => h) (.inl ⟨by kernel_rfl, fun w _ => by go_simp⟩) rfl ?_
              refine takeH 8 (.int .u16 mk.2) (some 79) rfl rfl (by kernel_rfl) (by kernel_rfl) (by kernel_rfl) (fun _ _ _ h => h) (.inl ⟨by kernel_rfl, fun w hw => by subst hw; go_simp⟩) rfl ?_
              refine takeH 9 (.bool false) (some 80) rfl rfl (by kernel_rfl) (by kernel_rfl) (by kernel_rfl) (fun _ _ _ h => h) (.inl ⟨by kernel_rfl, fun w _ => by go_simp⟩) rfl ?_
              refine takeH 10 (.bool false) (some 81) rfl rfl (by kernel_rfl) (by kernel_rfl) (by kernel_rfl) (fun _ _ _ h => h) (.inl ⟨by kernel_rfl, fun w _ => by go_simp⟩) rfl ?_
              refine takeH 11 (.bool false) (some 82) rfl rfl (by kernel_rfl) (by kernel_rfl) (by kernel_rfl) (fun _ _ _ h => h) (.inl ⟨by kernel_rfl, fun w _ => by go_simp⟩) rfl ?_
              refine takeH 12 (.pointer (some ⟨x4, 1, none⟩)) (some 83) rfl rfl (by kernel_rfl) (by kernel_rfl) (by kernel_rfl) (fun _ _ _ h => h) (.inl ⟨by kernel_rfl, fun w _ => by go_simp⟩) rfl ?_
              refine takeH 13 (.int .u16 mk.2) (some 84) rfl rfl (by kernel_rfl) (by kernel_rfl) (by kernel_rfl) (fun _ _ _ h => h) (.inl ⟨by kernel_rfl, fun w hw => by subst hw; go_simp⟩) rfl ?_
              refine takeH 14 (.int .i64 (mk.2 : Nat)) (some 85) rfl rfl (by kernel_rfl) (by kernel_rfl) (by kernel_rfl) (fun _ _ _ h => h) (.inl ⟨by kernel_rfl, fun w _ => by go_simp⟩) rfl ?_
              refine takeH 15 (.slice (some ⟨gr, off, none⟩) rs.length cap) (some 86) rfl rfl (by kernel_rfl) (by kernel_rfl) (by kernel_rfl) (fun _ _ _ h => h) (.inl ⟨by kernel_rfl, fun w _ => by go_simp⟩) rfl ?_
              refine takeH 16 (.pointer (some ⟨x4, 0, none⟩)) (some 87) rfl rfl (by kernel_rfl) (by kernel_rfl) (by kernel_rfl) (fun _ _ _ h => h) (.inl ⟨by kernel_rfl, fun w _ => by go_simp⟩) rfl ?_
              refine takeH 17 (.int .u8 mk.1) (some 88) rfl rfl (by kernel_rfl) (by kernel_rfl) (by kernel_rfl) (fun _ _ _ h => h) (.inl ⟨by kernel_rfl, fun w hw => by subst hw; go_simp⟩) rfl ?_
              refine takeH 18 (.pointer (some ⟨gr, off + mk.1 * 9, none⟩)) (some 89) rfl rfl (by kernel_rfl) (by kernel_rfl) (by kernel_rfl) (fun _ _ _ h => h) (.inl ⟨by kernel_rfl, fun w _ => by go_simp⟩) rfl ?_
              refine takeH 19 (.pointer (some ⟨gr, off + mk.1 * 9 + 4, none⟩)) (some 90) rfl rfl (by kernel_rfl) (by kernel_rfl) (by kernel_rfl) (fun _ _ _ h => h) (.inl ⟨by kernel_rfl, fun w _ => by go_simp⟩) rfl ?_
              refine takeH 20 (.int .i64 r.no) (some 91) rfl rfl (by kernel_rfl) (by kernel_rfl) (by kernel_rfl) (fun _ _ _ h => h) (.inl ⟨by kernel_rfl, fun w hw => by subst hw; go_simp⟩) rfl ?_
              refine takeH 21 (.bool false) (some 92) rfl rfl (by kernel_rfl) (by kernel_rfl) (by kernel_rfl) (fun _ _ _ h => h) (.inl ⟨by kernel_rfl, fun w _ => by go_simp⟩) rfl ?_
              refine takeH 22 (.bool false) (some 93) rfl rfl (by kernel_rfl) (by kernel_rfl) (by kernel_rfl) (fun _ _ _ h => h) (.inl ⟨by kernel_rfl, fun w _ => by go_simp⟩) rfl ?_
              refine takeH 23 (.bool false) (some 70) rfl rfl (by kernel_rfl) (by kernel_rfl) (by kernel_rfl) (fun _ _ _ h => h) (.inl ⟨by kernel_rfl, fun w _ => by go_simp⟩) rfl ?_
              refine wpAnyH_done (by kernel_rfl) ?_ _
              go_simp
              go_wp2_with fail
              have B5 : w4.drew.heap[x4]? = _ := hB4
              have HC5 := Lib.hid (HC4.out.keep (drewb w4))
              have hb5 := bdrawn hb4
              obtain ⟨w5, hw5⟩ : ∃ w', w' = w4.drew := ⟨_, rfl⟩
              rw [← hw5] at B5 HC5 hb5 ⊢
              clear hw5 hB4 HC4 hb4 c44 C4 y1 y2 y3
              have C5 := rowcell B5
              have E5 := rowcell HC5.out.blk
              refine wp_region_held (S := fun w' => w' = w5.drew) (by kernel_rfl) ?_
              change wpAnyH _ _ _ _ _ _ _ _ (World.drew _)
              refine takeH 0 (.pointer (some ⟨w.heap.size + 3, 0, none⟩)) (some 95) rfl rfl (by kernel_rfl) (by kernel_rfl) (by kernel_rfl) (fun _ _ _ h => h) (.inl ⟨by kernel_rfl, fun w _ => by go_simp⟩) rfl ?_
              refine takeH 1 (.pointer (some ⟨w.heap.size + 3, 0, none⟩)) (some 96) rfl rfl (by kernel_rfl) (by kernel_rfl) (by kernel_rfl) (fun _ _ _ h => h) (.inl ⟨by kernel_rfl, fun w _ => by go_simp⟩) rfl ?_
              refine takeH 2 (.pointer (some ⟨w.heap.size + 3, 1, none⟩)) (some 97) rfl rfl (by kernel_rfl) (by kernel_rfl) (by kernel_rfl) (fun _ _ _ h => h) (.inl ⟨by kernel_rfl, fun w _ => by go_simp⟩) rfl ?_
              refine takeH 3 (.map (some w.heap.size)) (some 98) rfl rfl (by kernel_rfl) (by kernel_rfl) (by kernel_rfl) (fun _ _ _ h => h) (.inl ⟨by kernel_rfl, fun w hw => by subst hw; go_simp⟩) rfl ?_
              refine takeH 4 (.agg #[.int .u8 mk.1, .int .u16 mk.2]) (some 99) rfl rfl (by kernel_rfl) (by kernel_rfl) (by kernel_rfl) (fun _ _ _ h => h) (.inl ⟨by kernel_rfl, fun w hw => by subst hw; go_simp⟩) rfl ?_
              refine takeH 5 (.bool false) (some 100) rfl rfl (by kernel_rfl) (by kernel_rfl) (by kernel_rfl) (fun _ _ _ h => h) (.inl ⟨by kernel_rfl, fun w hw => by subst hw; exact ((HC5.out.cr.mT.keep (drewb _)).exec_lookup keyedMark markV_inj Try.underlying150 (z := .bool false) (by kernel_rfl) (.tmp 98) (.tmp 99) false rfl (by go_simp) mk (by go_simp; try rfl) HKM.out).trans (by rw [HM.out]; rfl)⟩) rfl ?_
              refine takeH 6 (.bool false) (some 94) rfl rfl (by kernel_rfl) (by kernel_rfl) (by kernel_rfl) (fun _ _ _ h => h) (.inl ⟨by kernel_rfl, fun w _ => by go_simp⟩) rfl ?_
              refine wpAnyH_done (by kernel_rfl) ?_ _
              go_simp
              go_wp2_with fail
              have B6 : w5.drew.heap[x4]? = _ := B5
              have HC6 := Lib.hid (HC5.out.keep (drewb w5))
              have hb6 := bdrawn hb5
              obtain ⟨w6, hw6⟩ : ∃ w', w' = w5.drew := ⟨_, rfl⟩
              rw [← hw6] at B6 HC6 hb6 ⊢
              clear hw6 B5 HC5 hb5 C5 E5
              have s6 : w6.drew.heap[w.heap.size + 3]? = some (.cells #[v', .map (some w.heap.size), m', .map (some (w.heap.size + 1)), .map (some (w.heap.size + 2)), u', .int .i64 (geosOf rs).2] 155) ∧ w6.drew.heap[x4]? = some (.cells #[.int .u8 mk.1, .int .u16 mk.2] 158) := ⟨HC6.out.blk, B6⟩
              refine wp_region_held (S := fun w' => w'.heap[w.heap.size + 3]? = some (.cells #[v', .map (some w.heap.size), m', .map (some (w.heap.size + 1)), .map (some (w.heap.size + 2)), u', .int .i64 (geosOf rs).2] 155) ∧ w'.heap[x4]? = some (.cells #[.int .u8 mk.1, .int .u16 mk.2] 158)) (by kernel_rfl) ?_
              change wpAnyH _ _ _ _ _ _ _ _ (World.drew _)
              refine takeH 0 (.pointer (some ⟨w.heap.size + 3, 0, none⟩)) (some 101) rfl rfl (by kernel_rfl) (by kernel_rfl) (by kernel_rfl) (fun _ _ _ h => h) (.inl ⟨by kernel_rfl, fun w _ => by go_simp⟩) s6 ?_
              refine takeH 1 (.pointer (some ⟨w.heap.size + 3, 0, none⟩)) (some 102) rfl rfl (by kernel_rfl) (by kernel_rfl) (by kernel_rfl) (fun _ _ _ h => h) (.inl ⟨by kernel_rfl, fun w _ => by go_simp⟩) s6 ?_
              refine takeH 2 (.pointer (some ⟨w.heap.size + 3, 1, none⟩)) (some 103) rfl rfl (by kernel_rfl) (by kernel_rfl) (by kernel_rfl) (fun _ _ _ h => h) (.inl ⟨by kernel_rfl, fun w _ => by go_simp⟩) s6 ?_
              refine takeH 3 (.map (some w.heap.size)) (some 104) rfl rfl (by kernel_rfl) (by kernel_rfl) (by kernel_rfl) (fun _ _ _ h => h) (.inl ⟨by kernel_rfl, fun w hw => by have hc := (fun w hw => rowcell (And.left hw)) w hw; go_simp⟩) s6 ?_
              refine takeH 4 (.agg #[.int .u8 mk.1, .int .u16 mk.2]) (some 105) rfl rfl (by kernel_rfl) (by kernel_rfl) (by kernel_rfl) (fun _ _ _ h => h) (.inl ⟨by kernel_rfl, fun w hw => by have hc := (fun w hw => rowcell (And.right hw)) w hw; go_simp⟩) s6 ?_
              refine updateH 5 rfl (by kernel_rfl) (by kernel_rfl) rfl (.tmp 104) (.tmp 105) (.const (.bool true)) rfl (HC6.out.keep (drewb _)).cr.mT keyedMark markV_inj Try.underlying150 (by go_simp) mk (by go_simp; try rfl) HKM.out true (by go_simp; try rfl) (fun w7 m7 o7 => ?_)
              have s7 : w7.heap[w.heap.size + 3]? = some (.cells #[v', .map (some w.heap.size), m', .map (some (w.heap.size + 1)), .map (some (w.heap.size + 2)), u', .int .i64 (geosOf rs).2] 155) ∧ w7.heap[x4]? = some (.cells #[.int .u8 mk.1, .int .u16 mk.2] 158) := ⟨o7.blk s6.1 (fun e => by have := Option.some.inj e; omega), o7.blk s6.2 (fun e => by have := Option.some.inj e; omega)⟩
              refine ⟨s7, ?_⟩
              refine wpAnyH_done (by kernel_rfl) ?_ _
              go_simp
              have R7 := Lib.hid ((HC6.out.keep (drewb _)).cr.setT o7 m7)
              have hb7 := (bdrawn hb6).trans (o7.toBelow (fun k hk => by cases hk; exact Nat.le_refl _) (bdrawn hb6).size)
              have hg7 := s7.1
              have hx7 := s7.2
              clear s6 s7 B6 HC6 hb6 o7 m7
              go_wp2_with fail
              have hgT7 := Lib.hid (R7.out.off hg7 (by decide) (by decide) (by decide))

              have hS0 : ∀ l, Stage (fun w' : World => w'.heap[x4]? = some (.cells #[.int .u8 mk.1, .int .u16 mk.2] 158)) [(10, (fun w' : World => w'.heap[w.heap.size + 3]? = some (.cells #[v', .map (some w.heap.size), m', .map (some (w.heap.size + 1)), .map (some (w.heap.size + 2)), u', .int .i64 (geosOf rs).2] 155)))] l w7.drew := fun l => Stage.one hx7 (fun _ => hg7)
              refine wp_region_gen (S := Stage (fun w' : World => w'.heap[x4]? = some (.cells #[.int .u8 mk.1, .int .u16 mk.2] 158)) [(10, (fun w' : World => w'.heap[w.heap.size + 3]? = some (.cells #[v', .map (some w.heap.size), m', .map (some (w.heap.size + 1)), .map (some (w.heap.size + 2)), u', .int .i64 (geosOf rs).2] 155)))]) (by kernel_rfl) ?_
              change wpAnyG _ _ _ _ _ _ _ _ (World.drew _)
              refine takeG 0 (.pointer (some ⟨w.heap.size + 3, 0, none⟩)) (some 106) rfl rfl (by kernel_rfl) (by kernel_rfl) (by kernel_rfl) (by kernel_rfl) (fun _ _ _ h => h) (.inl ⟨by kernel_rfl, fun w _ => by go_simp⟩) (hS0 _) ?_
              refine takeG 1 (.pointer (some ⟨w.heap.size + 3, 0, none⟩)) (some 107) rfl rfl (by kernel_rfl) (by kernel_rfl) (by kernel_rfl) (by kernel_rfl) (fun _ _ _ h => h) (.inl ⟨by kernel_rfl, fun w _ => by go_simp⟩) (hS0 _) ?_
              refine takeG 2 (.pointer (some ⟨w.heap.size + 3, 0, none⟩)) (some 108) rfl rfl (by kernel_rfl) (by kernel_rfl) (by kernel_rfl) (by kernel_rfl) (fun _ _ _ h => h) (.inl ⟨by kernel_rfl, fun w _ => by go_simp⟩) (hS0 _) ?_
              refine takeG 3 (.pointer (some ⟨w.heap.size + 3, 2, none⟩)) (some 109) rfl rfl (by kernel_rfl) (by kernel_rfl) (by kernel_rfl) (by kernel_rfl) (fun _ _ _ h => h) (.inl ⟨by kernel_rfl, fun w _ => by go_simp⟩) (hS0 _) ?_
              refine takeUntil 4 10 List.mem_cons_self (by kernel_rfl) (by kernel_rfl) (m') (some 110) rfl rfl (by kernel_rfl) (by kernel_rfl) (by kernel_rfl) (by kernel_rfl) (fun _ _ _ h => h) (.inl ⟨by kernel_rfl, fun w hw => by have hc := (fun w hw => rowcell (And.right hw)) w hw; go_simp⟩) (hS0 _) ?_
              refine takeG 5 (.agg #[.int .u8 mk.1, .int .u16 mk.2]) (some 111) rfl rfl (by kernel_rfl) (by kernel_rfl) (by kernel_rfl) (by kernel_rfl) (fun _ _ _ h => h) (.inl ⟨by kernel_rfl, fun w hw => by have hc := (fun w hw => rowcell hw) w hw; go_simp⟩) (hS0 _) ?_
              have hS8 : ∀ l, Stage (fun w' : World => w'.heap[x4]? = some (.cells #[.int .u8 mk.1, .int .u16 mk.2] 158)) [(10, (fun w' : World => w'.heap[w.heap.size + 3]? = some (.cells #[v', .map (some w.heap.size), m', .map (some (w.heap.size + 1)), .map (some (w.heap.size + 2)), u', .int .i64 (geosOf rs).2] 155)))] l (w7.drew.alloc (.cells #[.int .u8 mk.1, .int .u16 mk.2] 158)) := fun l => Stage.one (bkeep (bnew w7.drew _) hx7) (fun _ => bkeep (bnew w7.drew _) hg7)
              have hb8 := (bdrawn hb7).alloc (bdrawn hb7).size (.cells #[.int .u8 mk.1, .int .u16 mk.2] 158)
              have hz8 : w.heap.size ≤ (w7.drew.alloc (.cells #[.int .u8 mk.1, .int .u16 mk.2] 158)).heap.size := hb8.size
              have hl8 := heap_alloc_last w7.drew (.cells #[.int .u8 mk.1, .int .u16 mk.2] 158)
              have R8 := Lib.hid ((R7.out.keep (drewb w7)).keep (bnew w7.drew (.cells #[.int .u8 mk.1, .int .u16 mk.2] 158)))
              refine runG 6 (.slice (some ⟨w7.heap.size, 0, none⟩) 1 1) (some 112) rfl (by kernel_rfl) (by kernel_rfl) rfl (w' := w7.drew.alloc (.cells #[.int .u8 mk.1, .int .u16 mk.2] 158)) (by go_simp) (hS8 _) ?_
              have hlm : (ms.take j).length = j := by simp only [List.length_take]; omega
              refine appendG1 7 rfl (by kernel_rfl) (by kernel_rfl) (some 113) rfl (.tmp 110) (.tmp 112) 144 rfl w.heap.size 158 (.agg #[.int .u8 0, .int .u16 0]) 2 4 Try.underlying144 (by kernel_rfl) rfl (by decide) m' _ (ms.take j).length 1 (markCells (ms.take j)) (#[.int .u8 mk.1, .int .u16 mk.2]).toList (by go_simp) R8.out.om (by go_simp) (SR.lit hl8 rfl) (List.all_eq_true.1 (by rfl)) (by rw [hlm]; unfold maxLen; omega) (by rw [hlm]; omega) hz8 (fun m2 w9 hown hgr9 hloc => ?_)
              have o9 := one_of_grown hgr9
              have hx9 := o9.blk (bkeep (bnew w7.drew (.cells #[.int .u8 mk.1, .int .u16 mk.2] 158)) hx7) (fun e => by have := hmlt _ e; omega)
              have hg9 := o9.blk (bkeep (bnew w7.drew (.cells #[.int .u8 mk.1, .int .u16 mk.2] 158)) hg7) hgT7.out.2.2.2.2.1
              have R9 := Lib.hid (R8.out.setM hgr9 (m' := m2) (ms' := ms.take (j + 1)) (by rw [HNX.out, List.length_append]; simp only [markCells, List.flatMap_append]; simpa [labCells, markCells] using hown))
              have hm2c := own_oneCell R9.out.om
              have hb9 := hb8.trans (o9.toBelow (fun k hk => (own_blk R8.out.om hk).1) hz8)
              clear hown hgr9 hloc
              have hS9 : ∀ l, Stage (fun w' : World => w'.heap[x4]? = some (.cells #[.int .u8 mk.1, .int .u16 mk.2] 158)) [(10, (fun w' : World => w'.heap[w.heap.size + 3]? = some (.cells #[v', .map (some w.heap.size), m', .map (some (w.heap.size + 1)), .map (some (w.heap.size + 2)), u', .int .i64 (geosOf rs).2] 155)))] l w9 := fun l => Stage.one hx9 (fun _ => hg9)
              refine ⟨hS9 _, ?_⟩
              refine takeG 8 (.pointer (some ⟨w.heap.size + 3, 0, none⟩)) (some 114) rfl rfl (by kernel_rfl) (by kernel_rfl) (by kernel_rfl) (by kernel_rfl) (fun _ _ _ h => h) (.inl ⟨by kernel_rfl, fun w _ => by go_simp⟩) (hS9 _) ?_
              refine takeG 9 (.pointer (some ⟨w.heap.size + 3, 2, none⟩)) (some 115) rfl rfl (by kernel_rfl) (by kernel_rfl) (by kernel_rfl) (by kernel_rfl) (fun _ _ _ h => h) (.inl ⟨by kernel_rfl, fun w _ => by go_simp⟩) (hS9 _) ?_
              refine storeCellG 10 rfl (by kernel_rfl) (by kernel_rfl) rfl 144 (.tmp 115) (.tmp 113) rfl 2 m2 #[v', .map (some w.heap.size), m', .map (some (w.heap.size + 1)), .map (some (w.heap.size + 2)), u', .int .i64 (geosOf rs).2] 155 (g := w.heap.size + 3) (by go_simp) (by go_simp) (by kernel_rfl) (by kernel_rfl) hm2c hg9 (by simp) (fun w10 hq10 o10 => ?_)
              have hg10 : w10.heap[w.heap.size + 3]? = some (.cells #[v', .map (some w.heap.size), m2, .map (some (w.heap.size + 1)), .map (some (w.heap.size + 2)), u', .int .i64 (geosOf rs).2] 155) := hq10
              have hx10 := o10.blk hx9 (fun e => by have := Option.some.inj e; omega)
              refine ⟨Stage.late1 hx10 _ (by kernel_rfl), ?_⟩
              refine wpAnyG_done (by kernel_rfl) ?_ _
              go_simp
              have hb10 := hb9.trans (o10.toBelow (fun k hk => by cases hk; omega) hb9.size)
              have R10 := Lib.hid (R9.out.one o10 (R9.out.off hg9 (by decide) (by decide) (by decide)))
              go_wp2_with fail
              exact ⟨⟨j + 1, by omega, rfl, hb10, m2, hg10, by omega, R10.out.setF (fun a => by rw [HNX.out]; exact markF_snoc _ _ _)⟩, by simp [intOf]; omega⟩
            · have hkk : ms.take j = ms := List.take_of_length_le (by omega)
              rw [hkk] at hc
              have HC := Lib.hid hc
              clear hc hkk
              go_wp2_with fail
              exact bodyPost_ret (v := .tuple #[.pointer (some ⟨w.heap.size + 3, 0, none⟩), .int .i64 0]) (by simp [results, Try.results66]) rfl ⟨hb3, _, _, _, _, _, _, _, rfl, HC.out⟩
end Go.Proofs.Ytapcbfeifeobhaa
