/- The law FrameApart: its walk. -/
import Derived.Test.YtfnkbgcgajgppaaFrmE
set_option linter.unusedVariables false
set_option linter.unusedSimpArgs false
namespace Go.Proofs.Ytfnkbgcgajgppaa
open Go.RowKit
open Go.Maps (Keyed)

/-- The pages that have been handed out: of each label the first so many. -/
def seenF (us : Nat → Nat) (p : Nat × Nat) : Option Bool := if p.2 < us p.1 then some true else none
theorem seenF_next (us : Nat → Nat) (k : Nat) (p : Nat × Nat) : putF (seenF us) (k, us k) true p = seenF (setN us k (us k + 1)) p := by
  obtain ⟨a, b⟩ := p
  unfold putF seenF setN
  by_cases h : a = k
  · subst h
    by_cases hb : b = us a
    · subst hb; simp
    · have : ((a, b) : Nat × Nat) ≠ (a, us a) := fun e => hb (by cases e; rfl)
      rw [if_neg this]
      simp only [if_pos rfl]
      by_cases hl : b < us a
      · rw [if_pos hl, if_pos (by simp; omega)]
      · rw [if_neg hl, if_neg (by simp; omega)]
  · have : ((a, b) : Nat × Nat) ≠ (k, us k) := fun e => h (by cases e; rfl)
    rw [if_neg this]
    simp only [if_neg h]
/-- Of each label the first so many pages are taken. -/
def Full (us : Nat → Nat) (F : Nat × Nat → Option (Nat → Nat)) : Prop := ∀ l m, (F (l, m)).isSome = decide (m < us l)
theorem Full.next {us : Nat → Nat} {F : Nat × Nat → Option (Nat → Nat)} (h : Full us F) (k : Nat) (f : Nat → Nat) : Full (setN us k (us k + 1)) (putF F (k, us k) f) := by
  intro l m
  have hx := h l m
  unfold putF setN
  by_cases e : l = k
  · subst e
    by_cases hb : m = us l
    · subst hb; simp
    · rw [if_neg (fun e => hb (by cases e; rfl)), hx]
      simp
      omega
  · rw [if_neg (fun e' => e (by cases e'; rfl)), hx]
    simp [e]
theorem Full.again {us : Nat → Nat} {F : Nat × Nat → Option (Nat → Nat)} (h : Full us F) {p : Nat × Nat} {f g : Nat → Nat} : Full us (putF (putF F p f) p g) → True := fun _ => trivial
theorem Full.free {us : Nat → Nat} {F : Nat × Nat → Option (Nat → Nat)} (h : Full us F) (k : Nat) : F (k, us k) = none := by
  have := h k (us k)
  simpa using this
theorem Full.low {us : Nat → Nat} {F : Nat × Nat → Option (Nat → Nat)} (h : Full us F) (k m : Nat) (hm : m < us k) : F (k, m) ≠ none := by
  have := h k m
  rw [decide_eq_true hm] at this
  intro e
  rw [e] at this
  cases this
theorem Full.set {us : Nat → Nat} {F : Nat × Nat → Option (Nat → Nat)} (h : Full us F) (p : Nat × Nat) (hp : (F p).isSome = true) (f : Nat → Nat) : Full us (putF F p f) := by
  intro l m
  unfold putF
  by_cases e : (l, m) = p
  · rw [if_pos e, ← h l m, e, hp]; rfl
  · rw [if_neg e, h l m]

/-- What holds at each round. -/
structure Apt (w : World) (g gm gh gs n : Nat) (a : Option Addr) (us : Nat → Nat) (F : Nat × Nat → Option (Nat → Nat)) : Prop where
  fp : FP w g gm a us F
  hv : w.rowIs gh 3 n (fun l => .int .i64 (us l))
  sn : MK w Try.prog 84 gs markV Value.bool (seenF us)
  full : Full us F
  ne : gs ≠ gm
  bd : ∀ l, us l ≤ 50
theorem Apt.gh_ne {w : World} {g gm gh gs n : Nat} {a : Option Addr} {us : Nat → Nat} {F : Nat × Nat → Option (Nat → Nat)} (h : Apt w g gm gh gs n a us F) : gh ≠ g ∧ gh ≠ gm ∧ gh ≠ gs ∧ gs ≠ g := by
  obtain ⟨c, hb, _, _⟩ := h.hv
  obtain ⟨c2, hb2, _, _⟩ := h.fp.row
  obtain ⟨h1, h2⟩ := h.fp.ne_cells hb (by decide)
  exact ⟨h1, h2, fun e => by subst e; exact h.sn.notCells hb, fun e => by subst e; exact h.sn.notCells hb2⟩
theorem Apt.keep {w w' : World} {g gm gh gs n : Nat} {a : Option Addr} {us : Nat → Nat} {F : Nat × Nat → Option (Nat → Nat)} (h : Apt w g gm gh gs n a us F) (hb : Below w.heap.size w w') : Apt w' g gm gh gs n a us F :=
  ⟨h.fp.keep hb, h.hv.of_block (hb.block gh h.hv.lt), h.sn.keep hb, h.full, h.ne, h.bd⟩

set_option maxRecDepth 200000 in
set_option maxHeartbeats 16000000 in
theorem frameApart_walk (W : World) (v0 v1 : Value) (o0 : Arg Try.prog W 26 v0) (o1 : Arg Try.prog W 24 v1) :
    Calls Try.prog 8 #[v0, v1] W fun e w' => e = .returned (.bool true) ∧ Below W.heap.size W w' := by
  obtain ⟨s, S0⟩ := SizeV.of_arg o0
  have HSV := Lib.hid S0
  obtain ⟨X, tv, rfl, hX, hrest⟩ := S0
  obtain ⟨n, hn⟩ : ∃ n, n = (sizeRegs s).length := ⟨_, rfl⟩
  have HN := Lib.hid hn
  have hn64 : n ≤ 64 := by rw [hn]; exact sizeLe64 s
  have hn1 : 0 < n := by rw [hn, sizeRegs_length]; have := manyOf_le s; omega
  clear hrest hn
  have HX := Lib.hid (show (Try.prog.info? 26).map (·.size) = some X.size by rw [hX]; kernel_rfl)
  clear hX
  obtain ⟨zs, hz⟩ := SI.of_arg (k := .u8) Try.underlying24 Try.underlying5 (by kernel_rfl) o1
  obtain ⟨Az, capz, rfl, hz1, hz2⟩ := hz.sr.form
  have HZ := Lib.hid hz
  clear o0 o1 hz
  have hb0 := bnew W (.cells X 26)
  have ha0 := heap_alloc_last W (.cells X 26)
  have HSX := Lib.hid (SizeV.keep HSV.out hb0)
  clear HSV
  go_enter Try.func8, Try.ntmps8
  go_wp2_with fail
  obtain ⟨G, hG⟩ : ∃ G, G = W.heap.size := ⟨_, rfl⟩
  rw [← hG] at ha0 ⊢
  generalize W.alloc (.cells X 26) = w0 at *
  have HG := Lib.hid hG
  have HB0 := Lib.hid hb0
  have HA0 := Lib.hid ha0
  clear hG hb0 ha0
  refine (frameAwake_in _).mono ?_; rintro e w1 ⟨rfl, hb1⟩
  have HB1 := Lib.hid (bnext HB0.out hb1)
  have HA1 := Lib.hid (bkeep hb1 HA0.out)
  have HS1 := Lib.hid (SizeV.keep HSX.out hb1)
  clear hb1
  go_wp2_with (refine wpList_load_pieceTo rfl 26 (.tmp 2) rfl (some 21) rfl G 0 rfl X _ (fun j v hj => by rw [Nat.zero_add, rowcell HA1.out]; simpa using hj) Try.underlying26 rfl HX.out ?_)
  refine (sizeConf_in _ _ s HS1.out).mono ?_; rintro e w2 ⟨hb2, cg, gT, gN, gL, v', m', u', rfl, hcf⟩
  have HP := Lib.hid (hcf.toP (sizeLe _) (sizeOk _))
  have HB2 := Lib.hid (bnext HB1.out hb2)
  clear hcf hb2
  go_wp2_with fail
  refine (frameNew_in _ _).mono ?_; rintro e w3 ⟨g, gm, rfl, hg, hgm, hT, hb3⟩
  have HGG := Lib.hid (And.intro hg hgm)
  have HB3 := Lib.hid hb3
  have HT3 := Lib.hid hT
  clear hT hg hgm hb3
  go_wp2_with fail
  refine (HP.out.len _ HB3.out).mono ?_; rintro e w4 ⟨rfl, rfl⟩
  rw [← HN.out]
  have hmk := fun w => run_make_row' (P := Try.prog) 53 3 (.int .i64 0) 8 Try.underlying53 (by kernel_rfl) rfl .i64 .i64 n (by omega) (by omega) w
  have hmm := @run_makeMap Try.prog
  go_wp2_with fail
  clear hmk hmm
  have hb5 := bnewAfter (bnew w3 (.cells (madeCells #[.int .i64 0] n) 3)) (.map #[] 0)
  have hr5 := (World.rowIs_made w3 (.int .i64 0) n 3).of_block ((bnew (w3.alloc (.cells (madeCells #[.int .i64 0] n) 3)) (.map #[] 0)).block _ (by simp))
  have hm5 := MK.made (κ := Nat × Nat) (P := Try.prog) (k := 84) (kv := markV) (vv := Value.bool) (w3.alloc (.cells (madeCells #[.int .i64 0] n) 3))
  rw [World.size_alloc] at hm5
  have hA5 : Apt ((w3.alloc (.cells (madeCells #[.int .i64 0] n) 3)).alloc (.map #[] 0)) g gm w3.heap.size (w3.heap.size + 1) n (some ⟨cg, 0, none⟩) (fun _ => 0) (fun _ => none) :=
    ⟨HT3.out.keep hb5, hr5.congr (fun _ _ => rfl), hm5.congr (fun p => by unfold seenF; rw [if_neg (by simp)]), fun l m => by simp, by have := HT3.out.mp.lt; omega, fun _ => by omega⟩
  have HB5 := Lib.hid (bnext HB3.out hb5)
  have HA5 := Lib.hid hA5
  clear hb5 hr5 hm5 hA5
  generalize (w3.alloc (.cells (madeCells #[.int .i64 0] n) 3)).alloc (.map #[] 0) = w5 at *
  obtain ⟨gh, hgh⟩ : ∃ gh, gh = w3.heap.size := ⟨_, rfl⟩
  obtain ⟨gs, hgs⟩ : ∃ gs, gs = w3.heap.size + 1 := ⟨_, rfl⟩
  rw [← hgs, ← hgh] at HA5
  rw [← hgs, ← hgh]
  have HGH := Lib.hid (show w2.heap.size ≤ gh ∧ w2.heap.size ≤ gs by have := HB3.out.size; omega)
  clear hgh hgs
  go_loopw [31] (fun r wr => ∃ (i : Nat) (us : Nat → Nat) (F : Nat × Nat → Option (Nat → Nat)), i ≤ zs.length ∧ r = .int .i64 i ∧ Apt wr g gm gh gs n (some ⟨cg, 0, none⟩) us F ∧ Below w2.heap.size w2 wr) (fun r _ => zs.length - (intOf r).toNat)
  case atStart => exact ⟨0, _, _, by omega, rfl, HA5.out, HB5.out⟩
  case round =>
    obtain ⟨i, us, F, hi, rfl, hap, hbr⟩ := hrel
    have HAP := Lib.hid hap
    have HBR := Lib.hid hbr
    clear hap hbr
    have hzm : zs.length ≤ 9223372036854775807 := by have := hz1; have := hz2; unfold maxLen at *; omega
    by_cases hlt : i < zs.length
    · rcases HZ.out.cases with ⟨h, _⟩ | ⟨_, gz, offz, cz, hs, _, _, hgz, hcz⟩
      · rw [h] at hlt; simp at hlt
      cases hs
      have hx8 := wf_u8 (HZ.out.wf (zs.getD i 0) (by rw [List.getD_eq_getElem?_getD, List.getElem?_eq_getElem hlt]; exact List.getElem_mem hlt))
      have hzc := (World.cell?_of_block (a := ⟨gz, offz + i, none⟩) ((bnext HB2.out HBR.out).block gz hgz)).trans (hcz i hlt)
      clear hcz
      obtain ⟨x, hx⟩ : ∃ x : Nat, zs.getD i 0 = x := ⟨(zs.getD i 0).toNat, by omega⟩
      rw [hx] at hzc hx8
      clear hx
      have hlti : (i : Int) < zs.length := by omega
      by_cases h200 : 200 < i
      · have h200i : (200 : Int) < i := by omega
        go_wp2_with fail
        go_ret
        exact ⟨rfl, bnext HB2.out HBR.out⟩
      · have h200i : ¬ (200 : Int) < i := by omega
        go_wp2_with fail
        clear hzc
        refine (HP.out.len _ HBR.out).mono ?_; rintro e w6 ⟨rfl, rfl⟩
        rw [← HN.out]
        obtain ⟨k, hk⟩ : ∃ k : Nat, k = x % n := ⟨_, rfl⟩
        have hkn : k < n := by rw [hk]; exact Nat.mod_lt _ hn1
        have c1 : ((x : Int)).tmod (n : Int) = (k : Int) := by rw [Int.tmod_eq_emod_of_nonneg (by omega), hk]; simp
        have c2 : ¬ ((n : Int) = 0) := by omega
        have c3 : IntKind.i64.wrap (x : Int) = x := by rw [IntKind.wrap_i64]; omega
        have HK := Lib.hid hk
        clear hk
        go_wp2_with fail
        refine (HP.out.reg _ HBR.out k).mono ?_; rintro e w7 ⟨r, rfl, hr, hb7⟩
        rw [inB_nat (by rw [← HN.out]; exact hkn)]
        have hr' := hr k (by rw [← HN.out]; exact hkn) rfl
        have hfr : r.fr ≤ 50 := by rw [hr', sizeFr]; omega
        have HR := Lib.hid hr'
        clear hr hr'
        unfold regV regArr
        have ha8 := heap_alloc_last w7 (.cells #[.string r.name, .int .u8 r.lab.1, .int .u16 r.lab.2, .int .i64 r.bl, .int .i64 r.no, .int .i64 r.fr, .int .i64 r.pr, .int .i64 r.op, .int .i64 r.cl] 58)
        have hb8 := bnewAfter hb7 (.cells #[.string r.name, .int .u8 r.lab.1, .int .u16 r.lab.2, .int .i64 r.bl, .int .i64 r.no, .int .i64 r.fr, .int .i64 r.pr, .int .i64 r.op, .int .i64 r.cl] 58)
        have HAP8 := Lib.hid (HAP.out.keep hb8)
        have HB8 := Lib.hid (bnext HBR.out hb8)
        have HL7 := Lib.hid (show wr.heap.size ≤ w7.heap.size from hb7.size)
        clear hb7 hb8
        go_wp2_with fail
        obtain ⟨R, hR⟩ : ∃ R, R = w7.heap.size := ⟨_, rfl⟩
        rw [← hR] at ha8 HL7 ⊢
        generalize w7.alloc (.cells #[.string r.name, .int .u8 r.lab.1, .int .u16 r.lab.2, .int .i64 r.bl, .int .i64 r.no, .int .i64 r.fr, .int .i64 r.pr, .int .i64 r.op, .int .i64 r.cl] 58) = w8 at *
        have HA8 := Lib.hid ha8
        clear ha8 hR
        have hbd := HAP.out.bd k
        by_cases hroom : us k < r.fr
        · refine (frameTake_ok HP.out HB8.out HAP8.out.fp HGG.out.1 HGG.out.2 k (us k) (by rw [← HN.out]; exact hkn) (sizeLe64 s) (by rw [← HR.out]; exact hroom) (by omega) (by omega) (HAP8.out.full.free k) (HAP8.out.full.low k)).mono ?_
          rintro e w9 ⟨rfl, hT9, hd9⟩
          unfold markV
          obtain ⟨m, hm⟩ : ∃ m, m = us k := ⟨_, rfl⟩
          rw [← hm] at hT9 ⊢
          obtain ⟨n1, n2, n3, n4⟩ := HAP8.out.gh_ne
          have hb10 := bnew w9 (.cells #[.int .u8 k, .int .u16 m] 84)
          have ha10 := heap_alloc_last w9 (.cells #[.int .u8 k, .int .u16 m] 84)
          have HT10 := Lib.hid (hT9.keep hb10)
          have HV10 := Lib.hid ((HAP8.out.hv.of_block (hd9.block gh HAP8.out.hv.lt n1 n2)).of_block (hb10.block gh (by have := HAP8.out.hv.lt; have := hd9.size; omega)))
          have HS10 := Lib.hid ((HAP8.out.sn.keepAt (hd9.block gs HAP8.out.sn.lt n4 HAP8.out.ne)).keep hb10)
          have HB10 := Lib.hid (bnext (Duo.next HB8.out hd9 HGG.out.1 HGG.out.2) hb10)
          have hRg : R ≠ g ∧ R ≠ gm := HAP8.out.fp.ne_cells HA8.out (by decide)
          have HA10 := Lib.hid (bkeep hb10 (hd9.blk HA8.out hRg.1 hRg.2))
          have HF10 := Lib.hid ha10
          have HFN := Lib.hid (HAP8.out.full.next k fun _ => 0)
          have HN4 := Lib.hid (And.intro (And.intro n1 n2) (And.intro n3 n4))
          have HNE := Lib.hid HAP8.out.ne
          have hfl : g < w9.heap.size ∧ gm < w9.heap.size ∧ gh < w9.heap.size ∧ gs < w9.heap.size := ⟨hT9.row.lt, hT9.mp.lt, by have := HAP8.out.hv.lt; have := hd9.size; omega, by have := HAP8.out.sn.lt; have := hd9.size; omega⟩
          have HFL := Lib.hid hfl
          clear hT9 hd9 hb10 ha10 n1 n2 n3 n4 hRg hfl
          have c1 := rowcell HA10.out
          have c2 := HV10.out.cell (i := k) hkn
          rw [← hm] at c2 hbd
          have c3 : decide (m < r.fr) = true := by rw [hm]; simpa using hroom
          have HM := Lib.hid hm
          have HRM := Lib.hid (show us k + 1 ≤ 50 by omega)
          clear hroom hm
          go_wp2_with fail
          go_quiet (fail)
          go_wp2_with fail
          clear c1 c2 c3
          obtain ⟨N, hN⟩ : ∃ N, N = w9.heap.size := ⟨_, rfl⟩
          rw [← hN] at HF10 HFL ⊢
          have hbq := bdrewN (Below.refl (w9.alloc (.cells #[.int .u8 k, .int .u16 m] 84)).heap.size (w9.alloc (.cells #[.int .u8 k, .int .u16 m] 84))) nq
          have HTq := Lib.hid (HT10.out.keep hbq)
          have HVq := Lib.hid (HV10.out.of_block (hbq.block gh HV10.out.lt))
          have HSq := Lib.hid (HS10.out.keep hbq)
          have HBq := Lib.hid (bnext HB10.out hbq)
          have HFq := Lib.hid (bkeep hbq HF10.out)
          clear hbq hN HT10 HV10 HS10 HB10 HF10 HA10
          generalize (w9.alloc (.cells #[.int .u8 k, .int .u16 m] 84)).drewN nq = wq at *
          go_loopw [67] (fun t wx => ∃ y : Nat, y ≤ 64 ∧ t = .int .i64 y ∧ Below wq.heap.size wq wx) (fun t _ => 64 - (intOf t).toNat)
          case atStart => exact ⟨0, by omega, rfl, Below.refl _ _⟩
          case round =>
            obtain ⟨y, hy, rfl, hbx⟩ := hrel
            have HBX := Lib.hid hbx
            have c1 := rowcell (bkeep hbx HFq.out)
            clear hbx
            by_cases hy64 : y < 64
            · have c2 : (y : Int) < 64 := by omega
              go_wp2_with fail
              refine (frameByte_yes (HTq.out.keep HBX.out) (k, m) (by show k ≤ 255; omega) (by show m ≤ 65535; omega) y hy64 (fun _ => 0) (by rw [HM.out]; simp [putF])).mono ?_
              rintro e x1 ⟨rfl, hbx1⟩
              have HBX1 := Lib.hid (bnext HBX.out hbx1)
              clear hbx1 c1
              go_wp2_with fail
              go_roundw
              case rel => exact ⟨y + 1, by omega, by go_num, HBX1.out⟩
              case measure => simp [intOf]; omega
            · have c2 : ¬ ((y : Int) < 64) := by omega
              obtain ⟨l, hkey⟩ := key_frame (k, m) (by show k ≤ 255; omega) (by show m ≤ 65535; omega)
              have HK := Lib.hid hkey
              obtain ⟨q, hq⟩ : ∃ q : Nat, q = x % 64 := ⟨_, rfl⟩
              have hq64 : q < 64 := by omega
              have c4 : (x : Int).tmod 64 = (q : Int) := by rw [Int.tmod_eq_emod_of_nonneg (by omega), hq]; simp
              have c5 : (x : Int) % 64 = (q : Int) := by rw [hq]; simp
              have c6 : IntKind.i64.wrap (k : Int) = k := by rw [IntKind.wrap_i64]; omega
              have HTx := Lib.hid (HTq.out.keep HBX.out)
              have HSx := Lib.hid (HSq.out.keep HBX.out)
              have HVx := Lib.hid (HVq.out.of_block (HBX.out.block gh HVq.out.lt))
              have HFx := Lib.hid (bkeep HBX.out HFq.out)
              have hsn : seenF us (k, m) = none := by unfold seenF; rw [if_neg (by rw [HM.out]; simp)]
              have HSN := Lib.hid hsn
              clear hkey hsn hq
              go_wp2_with (with_reducible refine wpList_stop (some 86) rfl ?_)
              refine Lib.hid ?_
              refine wpList_lookup_mk (by kernel_rfl) (some 86) rfl HSx.out keyedFrame markV_inj Try.underlying83 (z := .bool false) (by kernel_rfl) (.tmp 84) (.tmp 85) false rfl (by go_simp) (k, m) (by go_simp; try rfl) HK.out (.bool false) (by rw [HSN.out]; rfl) ?_
              go_wp2_with fail
              clear c1 c2 c4 c5 c6
              have hset : Calls Try.prog 37 #[.pointer (some ⟨g, 0, none⟩), .agg #[.int .u8 k, .int .u16 m], .int .i64 q, .int .u8 1] wr fun e w' => e = .returned (.bool true) ∧ FP w' g gm (some ⟨cg, 0, none⟩) (setN us k (m + 1)) (putF (putF F (k, m) fun _ => 0) (k, m) (setB (fun _ => 0) q 1)) ∧ Duo wr w' g gm :=
                frameSet_yes HTx.out (k, m) (by show k ≤ 255; omega) (by show m ≤ 65535; omega) q hq64 1 (fun _ => 0) (by simp [putF])
              refine hset.mono ?_
              clear hset
              rintro e wy ⟨rfl, hTy, hdy⟩
              have HTy := Lib.hid hTy
              have HBy := Lib.hid (Duo.next (bnext HBq.out HBX.out) hdy HGG.out.1 HGG.out.2)
              have HSy := Lib.hid (HSx.out.keepAt (hdy.block gs HSx.out.lt HN4.out.2.2 HNE.out))
              have HVy := Lib.hid (HVx.out.of_block (hdy.block gh HVx.out.lt HN4.out.1.1 HN4.out.1.2))
              have HFy := Lib.hid (hdy.blk HFx.out (by have := HFL.out; omega) (by have := HFL.out; omega))
              clear hTy hdy
              have c1 := rowcell HFy.out
              go_wp2_with (with_reducible refine wpList_stop none rfl ?_)
              refine Lib.hid ?_
              refine wpList_update_mk (by kernel_rfl) rfl HSy.out keyedFrame markV_inj Try.underlying83 (.tmp 103) (.tmp 104) (.const (.bool true)) rfl (by go_simp) (k, m) (by go_simp; try rfl) HK.out true (by go_simp) ?_
              intro wz hmz hoz
              have HMz := Lib.hid (hmz.congr (G := seenF (setN us k (us k + 1))) (fun p => by rw [HM.out]; exact seenF_next us k p))
              have HTz := Lib.hid (HTy.out.one hoz HN4.out.2.2 HNE.out)
              have hvz := HVy.out.of_block (hoz.block gh HVy.out.lt (fun e => HN4.out.2.1 (by cases e; rfl)))
              have HVz := Lib.hid hvz
              have HBz := Lib.hid (bone HBy.out hoz HGH.out.2 HBy.out.size)
              clear hmz hoz c1
              have c1 := hvz.cell (i := k) hkn
              rw [← HM.out] at c1
              have c2 := hvz.frozen
              have c3 : IntKind.i64.wrap ((m : Int) + 1) = ((m + 1 : Nat) : Int) := by rw [IntKind.wrap_i64]; omega
              clear hvz
              go_wp2_with fail
              go_roundw
              case rel =>
                have o := one_setCell wz gh k (.int .i64 ((m : Int) + 1))
                refine ⟨i + 1, setN us k (us k + 1), _, by omega, by go_num, ⟨by rw [← HM.out]; exact HTz.out.one o HN4.out.1.1 HN4.out.1.2, ?_, HMz.out.one o (fun e => HN4.out.2.1 (by cases e; rfl)), ?_, HNE.out, fun l => ?_⟩, bone HBz.out o HGH.out.1 HBz.out.size⟩
                · refine (HVz.out.set k _).congr (fun j hj => ?_)
                  unfold setN
                  by_cases e : j = k
                  · rw [if_pos e, if_pos e, ← HM.out]; congr 1
                  · rw [if_neg e, if_neg e]
                · have h1 := HFN.out
                  rw [← HM.out] at h1 ⊢
                  exact h1.set (k, m) (by simp [putF]) _
                · unfold setN
                  split
                  · exact HRM.out
                  · exact HAP8.out.bd l
              case measure => simp [intOf]; omega
        · have hn8 := HAP8.out.gh_ne
          refine (frameTake_full HP.out HB8.out HAP8.out.fp k (by rw [← HN.out]; exact hkn) (sizeLe64 s) (by rw [← HR.out]; omega)).mono ?_
          rintro e w9 ⟨rfl, hb9⟩
          unfold markV
          have hb10 := bnewAfter hb9 (.cells #[.int .u8 0, .int .u16 0] 84)
          have HAP10 := Lib.hid (HAP8.out.keep hb10)
          have HB10 := Lib.hid (bnext HB8.out hb10)
          have HA10 := Lib.hid (bkeep hb10 HA8.out)
          clear hb9 hb10
          have c1 := rowcell HA10.out
          have c2 := HAP10.out.hv.cell (i := k) hkn
          have c3 : decide (us k < r.fr) = false := by simpa using hroom
          clear hroom hn8
          go_wp2_with fail
          go_quiet (fail)
          go_wp2_with fail
          go_roundw
          case rel => exact ⟨i + 1, us, F, by omega, by go_num, HAP10.out.keep (bdrewN (Below.refl _ _) _), bdrewN HB10.out _⟩
          case measure => simp [intOf]; omega
    · go_wp2_with fail
      go_ret
      exact ⟨rfl, bnext HB2.out HBR.out⟩
end Go.Proofs.Ytfnkbgcgajgppaa
