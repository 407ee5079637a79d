/- Open things: the laws' fixed fact; FdsApart. -/
import Derived.Test.YtfnkbgcgajgppaaFdsC
set_option linter.unusedVariables false
set_option linter.unusedSimpArgs false
namespace Go.Proofs.Ytfnkbgcgajgppaa
open Go.RowKit
open Go.Maps (Keyed)

set_option maxRecDepth 20000 in
set_option maxHeartbeats 8000000 in
theorem fdsAwake_in (w : World) : Calls Try.prog 28 #[] w fun e w' => e = .returned (.bool true) ∧ Below w.heap.size w w' := by
  obtain ⟨s, hs⟩ : ∃ s, s = (⟨0, fun _ => 0, []⟩ : SizeL) := ⟨_, rfl⟩
  have hm : (sizeRegs s).length = 2 := by rw [hs, sizeRegs_length]; rfl
  have hfr : ∀ h, ((sizeRegs s)[0]'h).op = 2 := fun h => by rw [sizeOp, hs]; rfl
  have HS := Lib.hid hs
  have HM := Lib.hid hm
  have HFR := Lib.hid hfr
  have HO := Lib.hid (show okO #[.int .u8 1, .int .u8 0, .int .u16 0, .int .u16 0, .bool false, .int .u8 0, .int .u16 0, .int .u16 0, .int .i64 0, .int .i64 3, .bool false, .bool false, .bool false, .string ⟨#[]⟩] from ⟨rfl, List.all_eq_true.1 (by rfl)⟩)
  clear hs hm hfr
  go_enter Try.func28, Try.ntmps28
  go_wp2_with fail
  refine (sizeConf_in _ (.agg sizeZ) s (by rw [HS.out]; exact sizeZ_ok _)).mono ?_; rintro e w1 ⟨hb1, cg, gT, gN, gL, v', m', u', rfl, hcf⟩
  have HP := Lib.hid (hcf.toP (sizeLe _) (sizeOk _))
  have HB1 := Lib.hid hb1
  clear hcf hb1
  go_wp2_with fail
  refine (fdsNew_in _ _).mono ?_; rintro e w2 ⟨g, gm, rfl, hg, hgm, hT, hb2⟩
  have HT2 := Lib.hid hT
  have HG := Lib.hid (And.intro hg hgm)
  have HB2 := Lib.hid hb2
  clear hT hg hgm hb2
  go_wp2_with fail
  refine (fdsTake_ok HP.out HB2.out HT2.out HG.out.1 HG.out.2 0 0 (by rw [HM.out]; omega) (sizeLe64 s) (by show 0 < _; rw [HFR.out]; omega) (by omega) (by omega) rfl (fun m hm => by omega) OkF.nil #[.int .u8 1, .int .u8 0, .int .u16 0, .int .u16 0, .bool false, .int .u8 0, .int .u16 0, .int .u16 0, .int .i64 0, .int .i64 3, .bool false, .bool false, .bool false, .string ⟨#[]⟩] HO.out).mono ?_
  rintro e w3 ⟨rfl, hT3, hd3⟩
  unfold markV
  have ha3 := heap_alloc_last w3 (.cells #[.int .u8 0, .int .u16 0] 69)
  have hn3 := bnew w3 (.cells #[.int .u8 0, .int .u16 0] 69)
  have HT3 := Lib.hid (hT3.keep hn3)
  have HB3 := Lib.hid (bnext (Duo.next HB2.out hd3 HG.out.1 HG.out.2) hn3)
  have HX3 := Lib.hid (show g < w3.heap.size ∧ gm < w3.heap.size from ⟨hT3.row.lt, hT3.mp.lt⟩)
  have HA3 := Lib.hid ha3
  have c1 := rowcell ha3
  clear hT3 hd3 hn3 ha3
  go_wp2_with fail
  obtain ⟨n3, hn3⟩ : ∃ n, n = w3.heap.size := ⟨_, rfl⟩
  rw [← hn3] at HA3 HX3 ⊢
  generalize w3.alloc (.cells #[.int .u8 0, .int .u16 0] 69) = w4 at *
  clear hn3 c1
  have hok1 : OkF (putF (fun _ => none) (0, 0) (#[.int .u8 1, .int .u8 0, .int .u16 0, .int .u16 0, .bool false, .int .u8 0, .int .u16 0, .int .u16 0, .int .i64 0, .int .i64 3, .bool false, .bool false, .bool false, .string ⟨#[]⟩], 1)) := OkF.nil.put _ _ HO.out
  have HK1 := Lib.hid hok1
  clear hok1
  refine (fdsShare_yes HT3.out HK1.out (0, 0) (by show 0 < 64; omega) (by show 0 ≤ 65535; omega) #[.int .u8 1, .int .u8 0, .int .u16 0, .int .u16 0, .bool false, .int .u8 0, .int .u16 0, .int .u16 0, .int .i64 0, .int .i64 3, .bool false, .bool false, .bool false, .string ⟨#[]⟩] 1 (by simp [putF]) (by omega)).mono ?_
  rintro e w5 ⟨rfl, hT5, hd5⟩
  have HT5 := Lib.hid hT5
  have HB5 := Lib.hid (Duo.next HB3.out hd5 HG.out.1 HG.out.2)
  have hA5 := hd5.blk HA3.out (by have := HX3.out; omega) (by have := HX3.out; omega)
  have HA5 := Lib.hid hA5
  have c1 := rowcell hA5
  clear hT5 hd5 hA5
  go_wp2_with fail
  clear c1
  refine (fdsDrop_more HT5.out (HK1.out.put _ _ HO.out) (0, 0) (by show 0 < 64; omega) (by show 0 ≤ 65535; omega) #[.int .u8 1, .int .u8 0, .int .u16 0, .int .u16 0, .bool false, .int .u8 0, .int .u16 0, .int .u16 0, .int .i64 0, .int .i64 3, .bool false, .bool false, .bool false, .string ⟨#[]⟩] 2 (by simp [putF]) (by omega) (by omega)).mono ?_
  rintro e w6 ⟨rfl, hT6, hd6⟩
  have hA6 := hd6.blk HA5.out (by have := HX3.out; omega) (by have := HX3.out; omega)
  have hb7 := bnew w6 (.cells #[.int .u8 1, .int .u8 0, .int .u16 0, .int .u16 0, .bool false, .int .u8 0, .int .u16 0, .int .u16 0, .int .i64 0, .int .i64 3, .bool false, .bool false, .bool false, .string ⟨#[]⟩] 78)
  have HT7 := Lib.hid (hT6.keep hb7)
  have HB7 := Lib.hid (bnext (Duo.next HB5.out hd6 HG.out.1 HG.out.2) hb7)
  have hA7 := bkeep hb7 hA6
  have HA7 := Lib.hid hA7
  have c1 := rowcell hA7
  clear hT6 hd6 hA6 hb7 hA7
  go_wp2_with fail
  clear c1
  refine (fdsDrop_last HT7.out ((HK1.out.put _ _ HO.out).put _ _ HO.out) (0, 0) (by show 0 < 64; omega) (by show 0 ≤ 65535; omega) #[.int .u8 1, .int .u8 0, .int .u16 0, .int .u16 0, .bool false, .int .u8 0, .int .u16 0, .int .u16 0, .int .i64 0, .int .i64 3, .bool false, .bool false, .bool false, .string ⟨#[]⟩] 1 (by simp [putF]) rfl (by omega) (by show 0 < 1; omega) (by show 1 < 65536; omega)).mono ?_
  rintro e w8 ⟨rfl, hT8, hd8⟩
  have HB8 := Lib.hid (Duo.next HB7.out hd8 HG.out.1 HG.out.2)
  clear hT8 hd8
  go_wp2_with fail
  go_ret
  exact ⟨rfl, bnext HB1.out (bnewAfter HB8.out _)⟩

/-- Of each label the first so many are taken. -/
def FullT (us : Nat → Nat) (F : Nat × Nat → Option (Array Value × Nat)) : Prop := ∀ l m, (F (l, m)).isSome = decide (m < us l)
theorem FullT.next {us : Nat → Nat} {F : Nat × Nat → Option (Array Value × Nat)} (h : FullT us F) (k : Nat) (f : Array Value × Nat) : FullT (setN us k (us k + 1)) (putF F (k, us k) f) := by
  intro l m
  have hx := h l m
  unfold putF setN
  by_cases e : l = k
  · subst e
    by_cases hb : m = us l
    · subst hb; simp
    · rw [if_neg (fun e => hb (by cases e; rfl)), hx]
      simp
      omega
  · rw [if_neg (fun e' => e (by cases e'; rfl)), hx]
    simp [e]
theorem FullT.free {us : Nat → Nat} {F : Nat × Nat → Option (Array Value × Nat)} (h : FullT us F) (k : Nat) : F (k, us k) = none := by
  have := h k (us k)
  simpa using this
theorem FullT.low {us : Nat → Nat} {F : Nat × Nat → Option (Array Value × Nat)} (h : FullT us F) (k m : Nat) (hm : m < us k) : F (k, m) ≠ none := by
  have := h k m
  rw [decide_eq_true hm] at this
  intro e
  rw [e] at this
  cases this
/-- What holds at each round. -/
structure Apt (w : World) (g gm gh n : Nat) (a : Option Addr) (us : Nat → Nat) (F : Nat × Nat → Option (Array Value × Nat)) : Prop where
  fp : TP w g gm a us F
  hv : w.rowIs gh 3 n (fun l => .int .i64 (us l))
  full : FullT us F
  ok : OkF F
  bd : ∀ l, us l ≤ 50
theorem Apt.gh_ne {w : World} {g gm gh n : Nat} {a : Option Addr} {us : Nat → Nat} {F : Nat × Nat → Option (Array Value × Nat)} (h : Apt w g gm gh n a us F) : gh ≠ g ∧ gh ≠ gm := by
  obtain ⟨c, hb, _, _⟩ := h.hv
  exact h.fp.ne_cells hb (by decide)
theorem Apt.keep {w w' : World} {g gm gh n : Nat} {a : Option Addr} {us : Nat → Nat} {F : Nat × Nat → Option (Array Value × Nat)} (h : Apt w g gm gh n a us F) (hb : Below w.heap.size w w') : Apt w' g gm gh n a us F :=
  ⟨h.fp.keep hb, h.hv.of_block (hb.block gh h.hv.lt), h.full, h.ok, h.bd⟩

set_option maxRecDepth 200000 in
set_option maxHeartbeats 16000000 in
theorem fdsApart_walk (W : World) (v0 v1 : Value) (o0 : Arg Try.prog W 26 v0) (o1 : Arg Try.prog W 24 v1) :
    Calls Try.prog 7 #[v0, v1] W fun e w' => e = .returned (.bool true) ∧ Below W.heap.size W w' := by

  obtain ⟨s, S0⟩ := SizeV.of_arg o0
  have HSV := Lib.hid S0
  obtain ⟨X, tv, rfl, hX, hrest⟩ := S0
  obtain ⟨n, hn⟩ : ∃ n, n = (sizeRegs s).length := ⟨_, rfl⟩
  have HN := Lib.hid hn
  have hn64 : n ≤ 64 := by rw [hn]; exact sizeLe64 s
  have hn1 : 0 < n := by rw [hn, sizeRegs_length]; have := manyOf_le s; omega
  clear hrest hn
  have HX := Lib.hid (show (Try.prog.info? 26).map (·.size) = some X.size by rw [hX]; kernel_rfl)
  clear hX
  obtain ⟨zs, hz⟩ := SI.of_arg (k := .u8) Try.underlying24 Try.underlying5 (by kernel_rfl) o1
  obtain ⟨Az, capz, rfl, hz1, hz2⟩ := hz.sr.form
  have HZ := Lib.hid hz
  clear o0 o1 hz
  have hb0 := bnew W (.cells X 26)
  have ha0 := heap_alloc_last W (.cells X 26)
  have HSX := Lib.hid (SizeV.keep HSV.out hb0)
  clear HSV
  go_enter Try.func7, Try.ntmps7
  go_wp2_with fail
  obtain ⟨G, hG⟩ : ∃ G, G = W.heap.size := ⟨_, rfl⟩
  rw [← hG] at ha0 ⊢
  generalize W.alloc (.cells X 26) = w0 at *
  have HG := Lib.hid hG
  have HB0 := Lib.hid hb0
  have HA0 := Lib.hid ha0
  clear hG hb0 ha0
  refine (fdsAwake_in _).mono ?_; rintro e w1 ⟨rfl, hb1⟩
  have HB1 := Lib.hid (bnext HB0.out hb1)
  have HA1 := Lib.hid (bkeep hb1 HA0.out)
  have HS1 := Lib.hid (SizeV.keep HSX.out hb1)
  clear hb1
  go_wp2_with (refine wpList_load_pieceTo rfl 26 (.tmp 2) rfl (some 17) rfl G 0 rfl X _ (fun j v hj => by rw [Nat.zero_add, rowcell HA1.out]; simpa using hj) Try.underlying26 rfl HX.out ?_)
  refine (sizeConf_in _ _ s HS1.out).mono ?_; rintro e w2 ⟨hb2, cg, gT, gN, gL, v', m', u', rfl, hcf⟩
  have HP := Lib.hid (hcf.toP (sizeLe _) (sizeOk _))
  have HB2 := Lib.hid (bnext HB1.out hb2)
  clear hcf hb2
  go_wp2_with fail
  refine (fdsNew_in _ _).mono ?_; rintro e w3 ⟨g, gm, rfl, hg, hgm, hT, hb3⟩
  have HGG := Lib.hid (And.intro hg hgm)
  have HB3 := Lib.hid hb3
  have HT3 := Lib.hid hT
  clear hT hg hgm hb3
  go_wp2_with fail
  refine (HP.out.len _ HB3.out).mono ?_; rintro e w4 ⟨rfl, rfl⟩
  rw [← HN.out]
  have hmk := fun w => run_make_row' (P := Try.prog) 53 3 (.int .i64 0) 8 Try.underlying53 (by kernel_rfl) rfl .i64 .i64 n (by omega) (by omega) w
  go_wp2_with fail
  clear hmk
  have hb5 := bnew w3 (.cells (madeCells #[.int .i64 0] n) 3)
  have hr5 := World.rowIs_made w3 (.int .i64 0) n 3
  have hA5 : Apt (w3.alloc (.cells (madeCells #[.int .i64 0] n) 3)) g gm w3.heap.size n (some ⟨cg, 0, none⟩) (fun _ => 0) (fun _ => none) :=
    ⟨HT3.out.keep hb5, hr5.congr (fun _ _ => rfl), fun l m => by simp, OkF.nil, fun _ => by omega⟩
  have HB5 := Lib.hid (bnext HB3.out hb5)
  have HA5 := Lib.hid hA5
  clear hb5 hr5 hA5
  generalize w3.alloc (.cells (madeCells #[.int .i64 0] n) 3) = w5 at *
  obtain ⟨gh, hgh⟩ : ∃ gh, gh = w3.heap.size := ⟨_, rfl⟩
  rw [← hgh] at HA5
  rw [← hgh]
  have HGH := Lib.hid (show w2.heap.size ≤ gh by have := HB3.out.size; omega)
  clear hgh
  go_loopw [26] (fun r wr => ∃ (i : Nat) (us : Nat → Nat) (F : Nat × Nat → Option (Array Value × Nat)), i ≤ zs.length ∧ r = .int .i64 i ∧ Apt wr g gm gh n (some ⟨cg, 0, none⟩) us F ∧ Below w2.heap.size w2 wr) (fun r _ => zs.length - (intOf r).toNat)
  case atStart => exact ⟨0, _, _, by omega, rfl, HA5.out, HB5.out⟩
  case round =>
    obtain ⟨i, us, F, hi, rfl, hap, hbr⟩ := hrel
    have HAP := Lib.hid hap
    have HBR := Lib.hid hbr
    clear hap hbr
    have hzm : zs.length ≤ 9223372036854775807 := by have := hz1; have := hz2; unfold maxLen at *; omega
    by_cases hlt : i < zs.length
    · rcases HZ.out.cases with ⟨h, _⟩ | ⟨_, gz, offz, cz, hs, _, _, hgz, hcz⟩
      · rw [h] at hlt; simp at hlt
      cases hs
      have hx8 := wf_u8 (HZ.out.wf (zs.getD i 0) (by rw [List.getD_eq_getElem?_getD, List.getElem?_eq_getElem hlt]; exact List.getElem_mem hlt))
      have hzc := (World.cell?_of_block (a := ⟨gz, offz + i, none⟩) ((bnext HB2.out HBR.out).block gz hgz)).trans (hcz i hlt)
      clear hcz
      obtain ⟨x, hx⟩ : ∃ x : Nat, zs.getD i 0 = x := ⟨(zs.getD i 0).toNat, by omega⟩
      rw [hx] at hzc hx8
      clear hx
      have hlti : (i : Int) < zs.length := by omega
      by_cases h200 : 150 < i
      · have h200i : (150 : Int) < i := by omega
        go_wp2_with fail
        go_ret
        exact ⟨rfl, bnext HB2.out HBR.out⟩
      · have h200i : ¬ (150 : Int) < i := by omega
        go_wp2_with fail
        clear hzc
        refine (HP.out.len _ HBR.out).mono ?_; rintro e w6 ⟨rfl, rfl⟩
        rw [← HN.out]
        obtain ⟨k, hk⟩ : ∃ k : Nat, k = x % n := ⟨_, rfl⟩
        have hkn : k < n := by rw [hk]; exact Nat.mod_lt _ hn1
        have c1 : ((x : Int)).tmod (n : Int) = (k : Int) := by rw [Int.tmod_eq_emod_of_nonneg (by omega), hk]; simp
        have c2 : ¬ ((n : Int) = 0) := by omega
        have c3 : IntKind.i64.wrap (x : Int) = x := by rw [IntKind.wrap_i64]; omega
        have HK := Lib.hid hk
        clear hk
        go_wp2_with fail
        refine (HP.out.reg _ HBR.out k).mono ?_; rintro e w7 ⟨r, rfl, hr, hb7⟩
        rw [inB_nat (by rw [← HN.out]; exact hkn)]
        have hr' := hr k (by rw [← HN.out]; exact hkn) rfl
        have hfr : r.op ≤ 50 := by rw [hr', sizeOp]; omega
        have HR := Lib.hid hr'
        clear hr hr'
        unfold regV regArr
        have ha8 := heap_alloc_last w7 (.cells #[.string r.name, .int .u8 r.lab.1, .int .u16 r.lab.2, .int .i64 r.bl, .int .i64 r.no, .int .i64 r.fr, .int .i64 r.pr, .int .i64 r.op, .int .i64 r.cl] 58)
        have hb8 := bnewAfter hb7 (.cells #[.string r.name, .int .u8 r.lab.1, .int .u16 r.lab.2, .int .i64 r.bl, .int .i64 r.no, .int .i64 r.fr, .int .i64 r.pr, .int .i64 r.op, .int .i64 r.cl] 58)
        have HAP8 := Lib.hid (HAP.out.keep hb8)
        have HB8 := Lib.hid (bnext HBR.out hb8)
        have HL7 := Lib.hid (show wr.heap.size ≤ w7.heap.size from hb7.size)
        clear hb7 hb8
        go_wp2_with fail
        obtain ⟨R, hR⟩ : ∃ R, R = w7.heap.size := ⟨_, rfl⟩
        rw [← hR] at ha8 HL7 ⊢
        generalize w7.alloc (.cells #[.string r.name, .int .u8 r.lab.1, .int .u16 r.lab.2, .int .i64 r.bl, .int .i64 r.no, .int .i64 r.fr, .int .i64 r.pr, .int .i64 r.op, .int .i64 r.cl] 58) = w8 at *
        have HA8 := Lib.hid ha8
        clear ha8 hR
        have hbd := HAP.out.bd k
        have hO : okO #[.int .u8 0, .int .u8 0, .int .u16 0, .int .u16 0, .bool false, .int .u8 0, .int .u16 0, .int .u16 0, .int .i64 0, .int .i64 i, .bool false, .bool false, .bool false, .string ⟨#[]⟩] := ⟨rfl, List.all_eq_true.1 (by rfl)⟩
        have HO := Lib.hid hO
        clear hO
        obtain ⟨n1, n2⟩ := HAP8.out.gh_ne
        have HN4 := Lib.hid (And.intro n1 n2)
        clear n1 n2
        by_cases hroom : us k < r.op
        · refine (fdsTake_ok HP.out HB8.out HAP8.out.fp HGG.out.1 HGG.out.2 k (us k) (by rw [← HN.out]; exact hkn) (sizeLe64 s) (by rw [← HR.out]; exact hroom) (by omega) (by omega) (HAP8.out.full.free k) (HAP8.out.full.low k) HAP8.out.ok #[.int .u8 0, .int .u8 0, .int .u16 0, .int .u16 0, .bool false, .int .u8 0, .int .u16 0, .int .u16 0, .int .i64 0, .int .i64 i, .bool false, .bool false, .bool false, .string ⟨#[]⟩] HO.out).mono ?_
          rintro e w9 ⟨rfl, hT9, hd9⟩
          unfold markV
          obtain ⟨m, hm⟩ : ∃ m, m = us k := ⟨_, rfl⟩
          rw [← hm] at hT9 ⊢
          have hb10 := bnew w9 (.cells #[.int .u8 k, .int .u16 m] 69)
          have HT10 := Lib.hid (hT9.keep hb10)
          have HV10 := Lib.hid ((HAP8.out.hv.of_block (hd9.block gh HAP8.out.hv.lt HN4.out.1 HN4.out.2)).of_block (hb10.block gh (by have := HAP8.out.hv.lt; have := hd9.size; omega)))
          have HB10 := Lib.hid (bnext (Duo.next HB8.out hd9 HGG.out.1 HGG.out.2) hb10)
          have hRg : R ≠ g ∧ R ≠ gm := HAP8.out.fp.ne_cells HA8.out (by decide)
          have HA10 := Lib.hid (bkeep hb10 (hd9.blk HA8.out hRg.1 hRg.2))
          have HFN := Lib.hid (show FullT (setN us k (m + 1)) (putF F (k, m) (#[.int .u8 0, .int .u8 0, .int .u16 0, .int .u16 0, .bool false, .int .u8 0, .int .u16 0, .int .u16 0, .int .i64 0, .int .i64 i, .bool false, .bool false, .bool false, .string ⟨#[]⟩], 1)) by rw [hm]; exact HAP8.out.full.next k _)
          have HOF := Lib.hid (HAP8.out.ok.put (k, m) (#[.int .u8 0, .int .u8 0, .int .u16 0, .int .u16 0, .bool false, .int .u8 0, .int .u16 0, .int .u16 0, .int .i64 0, .int .i64 i, .bool false, .bool false, .bool false, .string ⟨#[]⟩], 1) HO.out)
          clear hT9 hd9 hb10 hRg
          have c1 := rowcell HA10.out
          have c2 := HV10.out.cell (i := k) hkn
          have c4 := HV10.out.frozen
          rw [← hm] at c2 hbd
          have c3 : decide (m < r.op) = true := by rw [hm]; simpa using hroom
          have c5 : IntKind.i64.wrap ((m : Int) + 1) = ((m + 1 : Nat) : Int) := by rw [IntKind.wrap_i64]; omega
          have HRM := Lib.hid (show m + 1 ≤ 50 by omega)
          have HM := Lib.hid hm
          clear hroom hm
          go_wp2_with fail
          go_quiet (fail)
          go_wp2_with fail
          clear c1 c2 c3 c4 c5
          have oq := one_setCell ((w9.alloc (.cells #[.int .u8 k, .int .u16 m] 69)).drewN nq) gh k (.int .i64 ((m : Int) + 1))
          have HTq := Lib.hid ((HT10.out.keep (bdrewN (Below.refl _ _) nq)).one oq HN4.out.1 HN4.out.2)
          have hvq := (HV10.out.of_block ((bdrewN (Below.refl (w9.alloc (.cells #[.int .u8 k, .int .u16 m] 69)).heap.size _) nq).block gh HV10.out.lt)).set k (.int .i64 ((m : Int) + 1))
          have HVq := Lib.hid (hvq.congr (g := fun l => .int .i64 (setN us k (m + 1) l)) (fun j hj => by
            unfold setN
            by_cases e : j = k
            · rw [if_pos e, if_pos e]; congr 1
            · rw [if_neg e, if_neg e]))
          have HBq := Lib.hid (bone (bdrewN HB10.out nq) oq HGH.out (bdrewN HB10.out nq).size)
          clear oq hvq
          try rw [show ((m + 1 : Nat) : Int) = (m : Int) + 1 by omega]
          generalize ((w9.alloc (.cells #[.int .u8 k, .int .u16 m] 69)).drewN nq).setCell ⟨gh, k, none⟩ (.int .i64 ((m : Int) + 1)) = wq at *
          have c1 := HVq.out.cell (i := k) hkn
          rw [setN_same] at c1
          have hu : ∀ wx : World, Below wq.heap.size wq wx → Calls Try.prog 32 #[.pointer (some ⟨g, 0, none⟩), .int .i64 k] wx fun e w' => e = .returned (.int .i64 ((m + 1 : Nat) : Int)) ∧ w' = wx := fun wx hbx =>
            (fdsUsed_in (HTq.out.keep hbx) k (by omega)).mono fun e w' ⟨he, hw⟩ => ⟨by rw [he, setN_same], hw.symm⟩
          have HU := Lib.hid hu
          clear hu
          go_quiet ((go_at_call 32; exact Calls.quiet_of_same (HU.out _ (bdrewN (Below.refl _ _) _))))
          go_wp2_with fail
          go_roundw
          case rel =>
            exact ⟨i + 1, _, _, by omega, by go_num, ⟨HTq.out.keep (bdrewN (Below.refl _ _) _), HVq.out.of_block rfl, HFN.out, HOF.out, fun l => by
              unfold setN
              split
              · exact HRM.out
              · exact HAP8.out.bd l⟩, bdrewN HBq.out _⟩
          case measure => simp [intOf]; omega
        · refine (fdsTake_full HP.out HB8.out HAP8.out.fp k (by rw [← HN.out]; exact hkn) (sizeLe64 s) (by rw [← HR.out]; omega) #[.int .u8 0, .int .u8 0, .int .u16 0, .int .u16 0, .bool false, .int .u8 0, .int .u16 0, .int .u16 0, .int .i64 0, .int .i64 i, .bool false, .bool false, .bool false, .string ⟨#[]⟩]).mono ?_
          rintro e w9 ⟨rfl, hb9⟩
          unfold markV
          have hb10 := bnewAfter hb9 (.cells #[.int .u8 0, .int .u16 0] 69)
          have HAP10 := Lib.hid (HAP8.out.keep hb10)
          have HB10 := Lib.hid (bnext HB8.out hb10)
          have HA10 := Lib.hid (bkeep hb10 HA8.out)
          clear hb9 hb10
          have c1 := rowcell HA10.out
          have c2 := HAP10.out.hv.cell (i := k) hkn
          have c3 : decide (us k < r.op) = false := by simpa using hroom
          clear hroom
          go_wp2_with fail
          go_quiet (fail)
          go_wp2_with fail
          have HAPq := Lib.hid (HAP10.out.keep (bdrewN (Below.refl _ _) nq))
          have HBq := Lib.hid (bdrewN HB10.out nq)
          clear c1 c2 c3
          generalize (w9.alloc (.cells #[.int .u8 0, .int .u16 0] 69)).drewN nq = wq at *
          have c1 := HAPq.out.hv.cell (i := k) hkn
          have hu : ∀ wx : World, Below wq.heap.size wq wx → Calls Try.prog 32 #[.pointer (some ⟨g, 0, none⟩), .int .i64 k] wx fun e w' => e = .returned (.int .i64 (us k)) ∧ w' = wx := fun wx hbx =>
            (fdsUsed_in (HAPq.out.fp.keep hbx) k (by omega)).mono fun e w' ⟨he, hw⟩ => ⟨he, hw.symm⟩
          have HU := Lib.hid hu
          clear hu
          go_quiet ((go_at_call 32; exact Calls.quiet_of_same (HU.out _ (bdrewN (Below.refl _ _) _))))
          go_wp2_with fail
          go_roundw
          case rel => exact ⟨i + 1, us, F, by omega, by go_num, HAPq.out.keep (bdrewN (Below.refl _ _) _), bdrewN HBq.out _⟩
          case measure => simp [intOf]; omega
    · go_wp2_with fail
      go_ret
      exact ⟨rfl, bnext HB2.out HBR.out⟩
end Go.Proofs.Ytfnkbgcgajgppaa
