/- Processes: what a table of them is; New, Get, Used, List. -/
import Derived.Test.YtpjfnmmgfmfcfaaFrmD
import Derived.Test.YtpjfnmmgfmfcfaaChg
set_option linter.unusedVariables false
set_option linter.unusedSimpArgs false
namespace Go.Proofs.Ytpjfnmmgfmfcfaa
open Go.RowKit
open Go.Maps (Keyed)

theorem keyedPid : Keyed Try.prog 45 := Keyed.of_law (deep_law_laid laidOut (m := 2) (by omega) (of_decide_eq_true (by kernel_rfl)) (by kernel_rfl) (by kernel_rfl))
theorem key_pid (p : Nat × Nat) (h1 : p.1 ≤ 255) (h2 : p.2 ≤ 65535) : ∃ l, keyOf Try.prog 45 (markV p) = some l :=
  key_pair (by kernel_rfl) (by kernel_rfl) ⟨_, Try.underlying45, by kernel_rfl, by kernel_rfl⟩ p h1 h2
def ptrV (x : Nat) : Value := .pointer (some ⟨x, 0, none⟩)
def ptrO (x : Option Nat) : Value := .pointer (x.map fun b => ⟨b, 0, none⟩)
theorem lk_ptr (x : Option Nat) : lkV ptrV (.pointer none) false x = ptrO x := by cases x <;> rfl
theorem procZ : (Try.prog.info? 36).bind (·.zero) = some (.pointer none) := by kernel_rfl
theorem proc_row : (Try.prog.info? 36).map (fun i => (i.zero, i.size, i.bytes)) = some (some (.pointer none), 1, 8) := by kernel_rfl
/-- A table's block and its map. -/
abbrev TP (w : World) (g gm : Nat) (a : Option Addr) (us : Nat → Nat) (F : Nat × Nat → Option Nat) : Prop := PT 104 45 ptrV w g gm a us F

/-- A process. -/
structure PrL where
  lab : Nat
  num : Nat
  par : Nat
  clr : Nat
  tr : Bool
  st : Nat
  cau : Nat
  nmd : Bool
  n0 : Nat
  n1 : Nat
  n2 : Nat
  til : Nat
  sta : Int
  kil : Bool
  mem : Option Addr
  cwd : Value
  rest : Nat → Value
def prF (p : PrL) (i : Nat) : Value :=
  if i = 0 then .int .u8 p.lab else if i = 1 then .int .u16 p.num else if i = 2 then .int .u16 p.par else if i = 3 then .int .i64 p.clr else if i = 4 then .bool p.tr else if i = 5 then .int .u8 p.st else
  if i = 6 then .int .u8 p.cau else if i = 7 then .bool p.nmd else if i = 8 then .int .u8 p.n0 else if i = 9 then .int .u16 p.n1 else if i = 10 then .int .u16 p.n2 else if i = 11 then .int .u64 p.til else
  if i = 12 then .int .i32 p.sta else if i = 13 then .bool p.kil else if i = 31 then .pointer p.mem else if i = 56 then p.cwd else p.rest i
/-- A process and its block. -/
structure TE where
  blk : Nat
  pr : PrL
def tF (T : Nat → List TE) (q : Nat × Nat) : Option Nat := ((T q.1).find? fun t => t.pr.num == q.2).map TE.blk
def usT (T : Nat → List TE) (l : Nat) : Nat := (T l).length
structure TOk (B : Nat) (T : Nat → List TE) : Prop where
  lab : ∀ l t, t ∈ T l → t.pr.lab = l
  num : ∀ l t, t ∈ T l → 1 ≤ t.pr.num ∧ t.pr.num ≤ 1000
  asc : ∀ l, (T l).Pairwise fun a b => a.pr.num < b.pr.num
  far : ∀ l, 64 ≤ l → T l = []
  base : ∀ l t, t ∈ T l → B ≤ t.blk
/-- A table of processes. -/
structure TT (B : Nat) (w : World) (g gm : Nat) (a : Option Addr) (T : Nat → List TE) : Prop where
  tp : TP w g gm a (usT T) (tF T)
  pr : ∀ l t, t ∈ T l → w.rowIs t.blk 63 57 (prF t.pr)
  ok : TOk B T

section
variable {B : Nat} {w w' : World} {g gm : Nat} {a : Option Addr} {us : Nat → Nat} {F : Nat × Nat → Option Nat} {T : Nat → List TE}
theorem TT.keep (h : TT B w g gm a T) (hb : Below w.heap.size w w') : TT B w' g gm a T :=
  ⟨h.tp.keep hb, fun l t ht => (h.pr l t ht).of_block (hb.block _ (h.pr l t ht).lt), h.ok⟩
theorem find_asc : ∀ (L : List TE), (L.Pairwise fun a b => a.pr.num < b.pr.num) → ∀ t ∈ L, (L.find? fun x => x.pr.num == t.pr.num) = some t
  | [], _, t, h => absurd h List.not_mem_nil
  | x :: L, hp, t, h => by
    rw [List.pairwise_cons] at hp
    rcases List.mem_cons.1 h with rfl | h2
    · simp
    · rw [List.find?_cons_of_neg]
      · exact find_asc L hp.2 t h2
      · have := hp.1 t h2
        simp; omega
theorem asc_inj : ∀ {L : List TE}, (L.Pairwise fun a b => a.pr.num < b.pr.num) → ∀ {t t' : TE}, t ∈ L → t' ∈ L → t.pr.num = t'.pr.num → t = t' := fun {L} hp t t' h h' e => by
  have h1 := find_asc L hp t h
  have h2 := find_asc L hp t' h'
  rw [e, h2] at h1
  exact (Option.some.inj h1).symm
/-- Two processes do not share a block. -/
theorem TT.inj (h : TT B w g gm a T) {l l' : Nat} {t t' : TE} (h1 : t ∈ T l) (h2 : t' ∈ T l') (e : t.blk = t'.blk) : l = l' ∧ t = t' := by
  have r1 := h.pr _ _ h1
  have r2 := h.pr _ _ h2
  rw [e] at r1
  have c1 := (r1.cell (i := 0) (by omega)).symm.trans (r2.cell (i := 0) (by omega))
  have c2 := (r1.cell (i := 1) (by omega)).symm.trans (r2.cell (i := 1) (by omega))
  simp [prF] at c1 c2
  have e1 : l = l' := by rw [← h.ok.lab _ _ h1, ← h.ok.lab _ _ h2]; omega
  subst e1
  exact ⟨rfl, asc_inj (h.ok.asc l) h1 h2 (by omega)⟩
theorem tF_at (ok : TOk B T) {l : Nat} {t : TE} (h : t ∈ T l) : tF T (l, t.pr.num) = some t.blk := by
  unfold tF
  rw [find_asc _ (ok.asc l) t h]
  rfl
theorem tF_no {l k : Nat} (h : ∀ t ∈ T l, t.pr.num ≠ k) : tF T (l, k) = none := by
  unfold tF
  rw [List.find?_eq_none.2 (fun t ht => by simpa using h t ht)]
  rfl
theorem tF_some {l k x : Nat} (h : tF T (l, k) = some x) : ∃ t ∈ T l, t.pr.num = k ∧ t.blk = x := by
  unfold tF at h
  rw [Option.map_eq_some_iff] at h
  obtain ⟨t, h1, h2⟩ := h
  exact ⟨t, List.mem_of_find?_eq_some h1, by simpa using List.find?_some h1, h2⟩

set_option maxRecDepth 20000 in
set_option maxHeartbeats 4000000 in
theorem taskNew_in (w : World) (a : Addr) : Calls Try.prog 8 #[.pointer (some a)] w fun e w' => ∃ g gm, e = .returned (.pointer (some ⟨g, 0, none⟩)) ∧ w.heap.size ≤ g ∧ w.heap.size ≤ gm ∧ TT w.heap.size w' g gm (some a) (fun _ => []) ∧ Below w.heap.size w w' := by
  have hmm := @run_makeMap Try.prog
  obtain ⟨X, hX⟩ : ∃ X, X = rowArr 66 (tabF (some a) w.heap.size (fun _ => 0)) := ⟨_, rfl⟩
  have HX := Lib.hid hX
  clear hX
  go_enter Try.func8, Try.ntmps8
  go_wp2_with (refine wpList_buildTo rfl 104 _ rfl (some 7) rfl X ?hf ?_; case hf => (rw [HX.out]; kernel_rfl))
  go_ret
  refine ⟨_, w.heap.size, rfl, by simp, by simp, ⟨⟨?_, ?_⟩, fun l t ht => absurd ht List.not_mem_nil, ⟨fun l t ht => absurd ht List.not_mem_nil, fun l t ht => absurd ht List.not_mem_nil, fun l => List.Pairwise.nil, fun _ _ => rfl, fun l t ht => absurd ht List.not_mem_nil⟩⟩, bnewAfter (bnew _ _) _⟩
  · refine rowIs_of_arr ?_
    show _ = some (Obj.cells (rowArr 66 (tabF (some a) w.heap.size (fun _ => 0))) _ _)
    rw [← HX.out]
    have := heap_alloc_last (w.alloc (.map #[] 0)) (.cells X 104)
    rw [World.size_alloc] at this
    exact this
  · exact (MK.made (κ := Nat × Nat) (P := Try.prog) (k := 45) (kv := markV) (vv := ptrV) w).keep (bnew _ _)

set_option maxRecDepth 20000 in
set_option maxHeartbeats 4000000 in
theorem taskGet_tp (h : TP w g gm a us F) (p : Nat × Nat) (h1 : p.1 ≤ 255) (h2 : p.2 ≤ 65535) :
    Calls Try.prog 36 #[.pointer (some ⟨g, 0, none⟩), markV p] w fun e w' => e = .returned (ptrO (F p)) ∧ Below w.heap.size w w' := by
  obtain ⟨l, hl⟩ := key_pid p h1 h2
  have HK := Lib.hid hl
  have hb := bnew w (.cells #[.int .u8 p.1, .int .u16 p.2] 45)
  have hp := rowcell (heap_alloc_last w (.cells #[.int .u8 p.1, .int .u16 p.2] 45))
  have HT := Lib.hid (h.keep hb)
  have c1 := HT.out.c1
  have HB := Lib.hid hb
  unfold markV
  clear h hl hb
  go_enter Try.func36, Try.ntmps36
  go_wp2_with fail
  generalize hG : w.heap.size = G at *
  generalize w.alloc (.cells #[.int .u8 p.1, .int .u16 p.2] 45) = w1 at *
  have HG := Lib.hid hG
  clear hG
  refine wp_region_still_tail 6 (by kernel_rfl) (by kernel_rfl) ?_
  simp only [List.take_succ_cons, List.take_zero, List.drop_succ_cons, List.drop_zero]
  change wpStill _ _ (World.drew w1) _ _ _
  iterate 5 still_step
  refine still_lookup (by kernel_rfl) (some 12) rfl (HT.out.keep (drewb w1)).mp keyedPid markV_inj Try.underlying101 procZ _ _ false rfl (by go_simp) p (by go_simp; try rfl) HK.out (ptrO (F p)) (lk_ptr _) ?_
  refine wpStill_nil ?_
  change wpList _ _ _ _ _ (World.drew w1)
  go_wp2_with fail
  go_ret
  exact ⟨rfl, by have := HB.out.drew; rw [← HG.out] at this; exact this⟩
theorem taskGet_in (h : TT B w g gm a T) (p : Nat × Nat) (h1 : p.1 ≤ 255) (h2 : p.2 ≤ 65535) :
    Calls Try.prog 36 #[.pointer (some ⟨g, 0, none⟩), markV p] w fun e w' => e = .returned (ptrO (tF T p)) ∧ Below w.heap.size w w' := taskGet_tp h.tp p h1 h2

set_option maxHeartbeats 4000000 in
theorem taskUsed_tp (h : TP w g gm a us F) (k : Nat) (hk : k < 64) : Calls Try.prog 14 #[.pointer (some ⟨g, 0, none⟩), .int .i64 k] w fun e w' => e = .returned (.int .i64 (us k)) ∧ w = w' := by
  have c2 := h.cu hk
  have c4 : (k : Int) < 64 := by omega
  have c5 : ¬ ((64 : Int) ≤ k) := by omega
  clear h
  go_enter Try.func14, Try.ntmps14
  go_wp2_with fail
  go_ret
  exact ⟨rfl, rfl⟩

theorem asc_len : ∀ (L : List TE), (L.Pairwise fun a b => a.pr.num < b.pr.num) → (∀ t ∈ L, 1 ≤ t.pr.num ∧ t.pr.num ≤ 1000) → L.length ≤ 1000 := fun L hp hn => by
  have h1 : ∀ (L : List TE) (b : Nat), (L.Pairwise fun a b => a.pr.num < b.pr.num) → (∀ t ∈ L, b < t.pr.num ∧ t.pr.num ≤ 1000) → L.length ≤ 1000 - b := by
    intro L
    induction L with
    | nil => intro b _ _; simp
    | cons x L ih =>
      intro b hp hn
      rw [List.pairwise_cons] at hp
      have h0 := hn x List.mem_cons_self
      have := ih x.pr.num hp.2 (fun t ht => ⟨hp.1 t ht, (hn t (List.mem_cons_of_mem _ ht)).2⟩)
      simp only [List.length_cons]
      omega
  exact h1 L 0 hp (fun t ht => ⟨(hn t ht).1, (hn t ht).2⟩)
set_option maxRecDepth 20000 in
set_option maxHeartbeats 8000000 in
theorem taskList_in (h : TT B w g gm a T) (l : Nat) (hl : l < 64) :
    Calls Try.prog 49 #[.pointer (some ⟨g, 0, none⟩), .int .i64 l] w fun e w' => ∃ v, e = .returned v ∧ w'.ownsRow w.heap.size 36 1 v (T l).length ((T l).map fun t => ptrV t.blk) ∧ Below w.heap.size w w' := by
  have c4 : (l : Int) < 64 := by omega
  have c5 : ¬ ((64 : Int) ≤ l) := by omega
  have c6 : IntKind.u8.wrap (l : Int) = l := by simp [IntKind.wrap, IntKind.bits, IntKind.signed]; omega
  have HT := Lib.hid h
  obtain ⟨L, hL⟩ : ∃ L, L = T l := ⟨_, rfl⟩
  have HLn := Lib.hid (show L.length = usT T l by rw [hL]; rfl)
  have hnum : ∀ t ∈ L, 1 ≤ t.pr.num ∧ t.pr.num ≤ 1000 := by rw [hL]; exact h.ok.num l
  have HNum := Lib.hid hnum
  have HAsc := Lib.hid (show L.Pairwise fun a b => a.pr.num < b.pr.num by rw [hL]; exact h.ok.asc l)
  have HL := Lib.hid hL
  have hlen : L.length ≤ 1000 := by
    rw [hL]
    exact asc_len _ (h.ok.asc l) (h.ok.num l)
  rw [← hL]
  clear h hL hnum
  go_enter Try.func49, Try.ntmps49
  go_wp2_with fail
  go_loopw [5, 6] (fun out n wr => ∃ j k : Nat, j ≤ L.length ∧ n = .int .u16 k ∧ 1 ≤ k ∧ k ≤ 1001 ∧ (∀ t ∈ L.take j, t.pr.num < k) ∧ (∀ t ∈ L.drop j, k ≤ t.pr.num) ∧ wr.ownsRow w.heap.size 36 1 out j ((L.take j).map fun t => ptrV t.blk) ∧ Below w.heap.size w wr) (fun _ n _ => 1001 - (intOf n).toNat)
  case atStart => exact ⟨0, 1, Nat.zero_le _, rfl, by omega, by omega, fun t ht => absurd ht List.not_mem_nil, fun t ht => (HNum.out t (by simpa using ht)).1, ⟨rfl, .inl ⟨rfl, rfl⟩⟩, Below.refl _ _⟩
  case round =>
    obtain ⟨j, k, hj, rfl, hk1, hk2, hlo, hhi, hown, hB⟩ := hrel
    have HTr := Lib.hid (HT.out.keep hB)
    have HB := Lib.hid hB
    have HLo := Lib.hid hlo
    have HHi := Lib.hid hhi
    obtain ⟨ad, c0, hform⟩ := own_form hown
    subst hform
    have HO := Lib.hid hown
    have d1 := HTr.out.tp.c1
    have d2 := HTr.out.tp.cu hl
    rw [← HLn.out] at d2
    clear hlo hhi hown hB
    by_cases hjn : j < L.length
    · have f1 : (j : Int) < L.length := by omega
      have hmem : L[j] ∈ L.drop j := by rw [List.drop_eq_getElem_cons hjn]; exact List.mem_cons_self
      have hkt := HHi.out _ hmem
      have hnt := HNum.out _ (List.getElem_mem hjn)
      have hk1000 : k ≤ 1000 := by omega
      have f2 : IntKind.u16.wrap ((k : Int) + 1) = (k : Int) + 1 := by simp [IntKind.wrap, IntKind.bits, IntKind.signed]; omega
      obtain ⟨lk, hkey⟩ := key_pid (l, k) (by show l ≤ 255; omega) (by show k ≤ 65535; omega)
      have HK := Lib.hid hkey
      clear hkey
      have hrest : ∀ t ∈ L.drop (j + 1), L[j].pr.num < t.pr.num := fun t ht => by
        have := HAsc.out
        rw [← List.take_append_drop j L, List.pairwise_append, List.drop_eq_getElem_cons hjn, List.pairwise_cons] at this
        exact this.2.1.1 t ht
      have HR := Lib.hid hrest
      clear hrest hmem
      by_cases hkt2 : L[j].pr.num = k
      · have hf : tF T (l, k) = some L[j].blk := by
          rw [← hkt2]
          exact tF_at HTr.out.ok (by rw [← HL.out]; exact List.getElem_mem hjn)
        obtain ⟨x, hx⟩ : ∃ x, x = L[j].blk := ⟨_, rfl⟩
        rw [← hx] at hf
        have HX := Lib.hid hx
        have HF := Lib.hid hf
        have HE := Lib.hid hkt2
        clear hf hkt2 hx hkt hnt
        go_wp2_with (with_reducible refine wpList_stop (some 37) rfl ?_)
        refine Lib.hid ?_
        refine wpList_lookup_mk (by kernel_rfl) (some 37) rfl HTr.out.tp.mp keyedPid markV_inj Try.underlying101 procZ _ _ false rfl (by go_simp) (l, k) (by go_simp; try rfl) HK.out (.pointer (some ⟨x, 0, none⟩)) (by rw [HF.out]; rfl) ?_
        clear d1 d2
        go_wp2_with (with_reducible refine wpList_stop (some 43) rfl ?_)
        refine Lib.hid ?_
        refine wpList_append_sr rfl (.tmp 40) (.tmp 42) 116 rfl (some 43) rfl w.heap.size 36 (.pointer none) 1 8 Try.underlying116 proc_row rfl (by omega) (.slice ad j c0) (.slice (some ⟨wr.heap.size, 0, none⟩) 1 1) j 1
              ((L.take j).map fun t => ptrV t.blk) [.pointer (some ⟨x, 0, none⟩)] rfl (own_below HO.out (bnew _ _)) rfl (SR.of_own (World.ownsRow_lit wr #[.pointer (some ⟨x, 0, none⟩)] 1 (Nat.le_refl _) (by simp [maxLen]) rfl)) (fun u hu => by simp only [List.mem_singleton] at hu; subst hu; rfl) (by simp [maxLen]; omega) (by omega) (by have := HB.out.size; simp; omega) ?_
        intro u w5 hown5 hg5 hat5
        have HO5 := Lib.hid hown5
        have HB5 := Lib.hid ((HB.out.alloc HB.out.size _).grown hg5 (by have := HB.out.size; simp; omega) (fun j hj => by have := (HO.out.lt _ hj).1; omega))
        clear hown5 hg5 hat5
        go_wp2_with fail
        go_roundw
        case rel =>
          have ht1 : L.take (j + 1) = L.take j ++ [L[j]] := by rw [List.take_succ_eq_append_getElem hjn]
          refine ⟨j + 1, k + 1, by omega, by go_num, by omega, by omega, fun t ht => ?_, fun t ht => by have := HR.out t ht; have := HE.out; omega, ?_, HB5.out⟩
          · rw [ht1, List.mem_append, List.mem_singleton] at ht
            rcases ht with ht | rfl
            · have := HLo.out t ht; omega
            · have := HE.out; omega
          · rw [ht1, List.map_append]
            show World.ownsRow _ _ _ _ _ _ (_ ++ [ptrV L[j].blk])
            rw [← HX.out]
            exact HO5.out
        case measure => simp [intOf]; omega
      · have hf : tF T (l, k) = none := tF_no (fun t ht => by
          rw [← HL.out, ← List.take_append_drop j L, List.mem_append] at ht
          rcases ht with ht | ht
          · have := HLo.out t ht; omega
          · rw [List.drop_eq_getElem_cons hjn] at ht
            rcases List.mem_cons.1 ht with rfl | ht
            · exact hkt2
            · have := HR.out t ht; omega)
        have HF := Lib.hid hf
        have HE := Lib.hid hkt2
        clear hf hkt2
        go_wp2_with (with_reducible refine wpList_stop (some 37) rfl ?_)
        refine Lib.hid ?_
        refine wpList_lookup_mk (by kernel_rfl) (some 37) rfl HTr.out.tp.mp keyedPid markV_inj Try.underlying101 procZ _ _ false rfl (by go_simp) (l, k) (by go_simp; try rfl) HK.out (.pointer none) (by rw [HF.out]; rfl) ?_
        clear d1 d2
        go_wp2_with fail
        go_roundw
        case rel =>
          refine ⟨j, k + 1, by omega, by go_num, by omega, by omega, fun t ht => by have := HLo.out t ht; omega, fun t ht => ?_, HO.out, HB.out⟩
          rw [List.drop_eq_getElem_cons hjn] at ht
          have hE := HE.out
          rcases List.mem_cons.1 ht with rfl | ht
          · omega
          · have := HR.out t ht; omega
        case measure => simp [intOf]; omega
    · obtain rfl : j = L.length := by omega
      have f1 : ¬ ((L.length : Int) < L.length) := by omega
      have ho := HO.out
      rw [List.take_length] at ho
      have HO2 := Lib.hid ho
      clear ho
      go_wp2_with fail
      go_ret
      exact ⟨_, rfl, HO2.out, HB.out⟩
end
end Go.Proofs.Ytpjfnmmgfmfcfaa
