/- Processes: Add. -/
import Derived.Test.YtpjfnmmgfmfcfaaTskA
set_option linter.unusedVariables false
set_option linter.unusedSimpArgs false
namespace Go.Proofs.Ytpjfnmmgfmfcfaa
open Go.RowKit
open Go.Maps (Keyed)

/-- A process among others, by its number. -/
def insE : List TE → TE → List TE
  | [], t => [t]
  | x :: L, t => if t.pr.num < x.pr.num then t :: x :: L else x :: insE L t
theorem mem_insE {L : List TE} {t x : TE} : x ∈ insE L t ↔ x = t ∨ x ∈ L := by
  induction L with
  | nil => simp [insE]
  | cons y L ih =>
    unfold insE
    split
    · simp [or_left_comm]
    · rw [List.mem_cons, ih, List.mem_cons]
      constructor
      · rintro (h | h | h) <;> simp [h]
      · rintro (h | h | h) <;> simp [h]
theorem len_insE (L : List TE) (t : TE) : (insE L t).length = L.length + 1 := by
  induction L with
  | nil => rfl
  | cons y L ih =>
    unfold insE
    split
    · rfl
    · simp [ih]
theorem asc_insE (L : List TE) (t : TE) (h : L.Pairwise fun a b => a.pr.num < b.pr.num) (hn : ∀ x ∈ L, x.pr.num ≠ t.pr.num) : (insE L t).Pairwise fun a b => a.pr.num < b.pr.num := by
  induction L with
  | nil => simp [insE]
  | cons y L ih =>
    rw [List.pairwise_cons] at h
    unfold insE
    split
    · rename_i hlt
      rw [List.pairwise_cons]
      exact ⟨fun x hx => by
        rcases List.mem_cons.1 hx with rfl | hx
        · exact hlt
        · have := h.1 x hx; omega, List.pairwise_cons.2 h⟩
    · rename_i hlt
      have hne := hn y List.mem_cons_self
      rw [List.pairwise_cons]
      refine ⟨fun x hx => ?_, ih h.2 (fun x hx => hn x (List.mem_cons_of_mem _ hx))⟩
      rcases mem_insE.1 hx with rfl | hx
      · omega
      · exact h.1 x hx
theorem find_insE (L : List TE) (t : TE) (m : Nat) (hn : ∀ x ∈ L, x.pr.num ≠ t.pr.num) : (insE L t).find? (fun x => x.pr.num == m) = if t.pr.num = m then some t else L.find? fun x => x.pr.num == m := by
  induction L with
  | nil => by_cases h : t.pr.num = m <;> simp [insE, h]
  | cons y L ih =>
    have ih' := ih (fun x hx => hn x (List.mem_cons_of_mem _ hx))
    have hy := hn y List.mem_cons_self
    unfold insE
    split
    · by_cases h : t.pr.num = m
      · simp [h]
      · rw [List.find?_cons_of_neg (by simpa using h), if_neg h]
    · by_cases h2 : y.pr.num = m
      · have h3 : ¬ t.pr.num = m := fun e => hy (by omega)
        rw [if_neg h3]
        simp [h2]
      · rw [List.find?_cons_of_neg (by simpa using h2), List.find?_cons_of_neg (by simpa using h2)]
        exact ih'
def setT (T : Nat → List TE) (l : Nat) (L : List TE) : Nat → List TE := fun j => if j = l then L else T j
theorem setT_same (T : Nat → List TE) (l : Nat) (L : List TE) : setT T l L l = L := if_pos rfl
theorem setT_other (T : Nat → List TE) {l j : Nat} (L : List TE) (h : j ≠ l) : setT T l L j = T j := if_neg h
theorem mem_setT {T : Nat → List TE} {l j : Nat} {L : List TE} {t : TE} (h : t ∈ setT T l L j) : (j = l ∧ t ∈ L) ∨ (j ≠ l ∧ t ∈ T j) := by
  unfold setT at h
  split at h
  · exact .inl ⟨by assumption, h⟩
  · exact .inr ⟨by assumption, h⟩
theorem usT_setT (T : Nat → List TE) (l : Nat) (L : List TE) : usT (setT T l L) = setN (usT T) l L.length := by
  funext j; unfold usT setT setN; split <;> rfl
theorem tF_ins (T : Nat → List TE) (l : Nat) (t : TE) (hn : ∀ x ∈ T l, x.pr.num ≠ t.pr.num) : tF (setT T l (insE (T l) t)) = putF (tF T) (l, t.pr.num) t.blk := by
  funext ⟨j, m⟩
  unfold tF putF setT
  by_cases h : j = l
  · subst h
    simp only [if_true, Prod.mk.injEq, true_and]
    rw [find_insE _ _ _ hn]
    by_cases h2 : t.pr.num = m
    · subst h2; simp
    · rw [if_neg h2, if_neg (fun e => h2 e.symm)]
  · simp only [if_neg h, Prod.mk.injEq, h, false_and, if_false]
def restZ (i : Nat) : Value := if i ≤ 30 then .int .u32 0 else if (i - 32) % 3 = 0 then .bool false else if (i - 32) % 3 = 1 then .int .u8 0 else .int .u16 0
def newP (l n par cl : Nat) : PrL := ⟨l, n, par, cl, false, 1, 0, false, 0, 0, 0, 0, 0, false, none, .slice none 0 0, restZ⟩
def newA (l n par cl : Nat) : Array Value := rowArr 57 (prF (newP l n par cl))

theorem cells_type {w : World} {x : Nat} {A A' : Array Value} {t t' : TypeId} {f f' : Nat × Nat} (h : w.heap[x]? = some (.cells A t f)) (h' : w.heap[x]? = some (.cells A' t' f')) : t = t' := by
  rw [h] at h'
  injection h' with h'
  injection h'
section
variable {B : Nat} {w0 w w' : World} {g gm : Nat} {a : Option Addr} {rs : List RegL} {T : Nat → List TE}
theorem TOk.ins (h : TOk B T) {l : Nat} (hl : l < 64) {t : TE} (h1 : t.pr.lab = l) (h2 : 1 ≤ t.pr.num ∧ t.pr.num ≤ 1000) (h3 : ∀ x ∈ T l, x.pr.num ≠ t.pr.num) (h4 : B ≤ t.blk) : TOk B (setT T l (insE (T l) t)) where
  lab := fun j x hx => by
    rcases mem_setT hx with ⟨rfl, hx⟩ | ⟨_, hx⟩
    · rcases mem_insE.1 hx with rfl | hx
      · exact h1
      · exact h.lab _ _ hx
    · exact h.lab _ _ hx
  num := fun j x hx => by
    rcases mem_setT hx with ⟨rfl, hx⟩ | ⟨_, hx⟩
    · rcases mem_insE.1 hx with rfl | hx
      · exact h2
      · exact h.num _ _ hx
    · exact h.num _ _ hx
  asc := fun j => by
    unfold setT
    split
    · exact asc_insE _ _ (h.asc l) h3
    · exact h.asc j
  far := fun j hj => by rw [setT_other _ _ (by omega)]; exact h.far j hj
  base := fun j x hx => by
    rcases mem_setT hx with ⟨rfl, hx⟩ | ⟨_, hx⟩
    · rcases mem_insE.1 hx with rfl | hx
      · exact h4
      · exact h.base _ _ hx
    · exact h.base _ _ hx
theorem TT.ne (h : TT B w g gm a T) {l : Nat} {t : TE} (ht : t ∈ T l) : t.blk ≠ g ∧ t.blk ≠ gm := by
  have h1 := rowIs_arr (h.pr l t ht)
  exact h.tp.ne_cells h1 (by decide)
theorem tF_none {l n : Nat} (h : tF T (l, n) = none) : ∀ x ∈ T l, x.pr.num ≠ n := by
  unfold tF at h
  rw [Option.map_eq_none_iff, List.find?_eq_none] at h
  intro x hx
  simpa using h x hx

theorem taskAdd_no (hp : ConfP w0 a rs) (hb : Below w0.heap.size w0 w) (h : TT B w g gm a T) (k : Nat) (hk : k < rs.length) (h64 : rs.length ≤ 64) (par : Nat) (hfull : rs[k].pr ≤ (T k).length) :
    Calls Try.prog 9 #[.pointer (some ⟨g, 0, none⟩), .int .i64 k, .int .u16 par] w fun e w' => e = .returned (.tuple #[.pointer none, .int .i64 12]) ∧ Below w.heap.size w w' := by
  have HT := Lib.hid h
  have c0 := HT.out.tp.c0
  have HP := Lib.hid (hp.keep hb)
  have hfull' : rs[k].pr ≤ usT T k := hfull
  clear h hp hb hfull
  go_enter Try.func9, Try.ntmps9
  go_wp2_with fail
  refine (HP.out.reg _ (Below.refl _ _) k).mono ?_
  rintro e w2 ⟨r, rfl, hr, hb2⟩
  rw [inB_nat hk]
  have hr' := hr k hk rfl
  have hfr' : decide (r.pr ≤ usT T k) = true := by rw [hr']; simp; omega
  clear hr hr' hfull'
  have HB2 := Lib.hid hb2
  have HT2 := Lib.hid (HT.out.keep hb2)
  clear hb2 c0
  unfold regV regArr
  have hb3 := bnew w2 (.cells #[.string r.name, .int .u8 r.lab.1, .int .u16 r.lab.2, .int .i64 r.bl, .int .i64 r.no, .int .i64 r.fr, .int .i64 r.pr, .int .i64 r.op, .int .i64 r.cl] 108)
  have hreg := rowcell (heap_alloc_last w2 (.cells #[.string r.name, .int .u8 r.lab.1, .int .u16 r.lab.2, .int .i64 r.bl, .int .i64 r.no, .int .i64 r.fr, .int .i64 r.pr, .int .i64 r.op, .int .i64 r.cl] 108))
  have HT3 := Lib.hid (HT2.out.keep hb3)
  have HB3 := Lib.hid (bnext HB2.out hb3)
  have c3 := HT3.out.tp.cu (l := k) (by omega)
  have c4 : (k : Int) < 64 := by omega
  clear hb3
  go_wp2_with fail
  go_quiet (fail)
  go_wp2_with fail
  go_ret2
  exact ⟨rfl, bdrewN HB3.out nq⟩

set_option maxRecDepth 100000 in
set_option maxHeartbeats 8000000 in
theorem taskAdd_ok (hp : ConfP w0 a rs) (hb : Below w0.heap.size w0 w) (h : TT B w g gm a T) (h0 : w0.heap.size ≤ g) (h0' : w0.heap.size ≤ gm) (hB : B ≤ w.heap.size) (k n : Nat) (hk : k < rs.length) (h64 : rs.length ≤ 64) (par : Nat) (hroom : (T k).length < rs[k].pr) (hus : (T k).length < 65536) (hn1 : 1 ≤ n) (hn : n ≤ 1000)
    (hfree : tF T (k, n) = none) (hlow : ∀ m, 1 ≤ m → m < n → tF T (k, m) ≠ none) :
    Calls Try.prog 9 #[.pointer (some ⟨g, 0, none⟩), .int .i64 k, .int .u16 par] w fun e w' => ∃ x, e = .returned (.tuple #[.pointer (some ⟨x, 0, none⟩), .int .i64 0]) ∧ w.heap.size ≤ x ∧ TT B w' g gm a (setT T k (insE (T k) ⟨x, newP k n par rs[k].cl⟩)) ∧ Duo w w' g gm := by
  have HT := Lib.hid h
  have c0 := HT.out.tp.c0
  have HP := Lib.hid (hp.keep hb)
  have HN := Lib.hid hfree
  have HW := Lib.hid hlow
  have HX := Lib.hid (show g < w.heap.size ∧ gm < w.heap.size from ⟨h.tp.row.lt, h.tp.mp.lt⟩)
  have hroom' : usT T k < rs[k].pr := hroom
  have hus' : usT T k < 65536 := hus
  obtain ⟨cl, hcl⟩ : ∃ cl, cl = rs[k].cl := ⟨_, rfl⟩
  rw [← hcl]
  have HC0 := Lib.hid hcl
  clear hcl
  clear h hp hb hfree hlow hroom hus
  go_enter Try.func9, Try.ntmps9
  go_wp2_with fail
  refine (HP.out.reg _ (Below.refl _ _) k).mono ?_
  rintro e w2 ⟨r, rfl, hr, hb2⟩
  rw [inB_nat hk]
  have hr' := hr k hk rfl
  have hfr' : decide (r.pr ≤ usT T k) = false := by rw [hr']; simp; omega
  have HCL := Lib.hid (show r.cl = cl by rw [HC0.out, hr'])
  clear hr hr' hroom'
  have HB2 := Lib.hid hb2
  have HT2 := Lib.hid (HT.out.keep hb2)
  clear hb2 c0
  unfold regV regArr
  rw [HCL.out]
  have hb3 := bnew w2 (.cells #[.string r.name, .int .u8 r.lab.1, .int .u16 r.lab.2, .int .i64 r.bl, .int .i64 r.no, .int .i64 r.fr, .int .i64 r.pr, .int .i64 r.op, .int .i64 cl] 108)
  have hreg := rowcell (heap_alloc_last w2 (.cells #[.string r.name, .int .u8 r.lab.1, .int .u16 r.lab.2, .int .i64 r.bl, .int .i64 r.no, .int .i64 r.fr, .int .i64 r.pr, .int .i64 r.op, .int .i64 cl] 108))
  have hregb := heap_alloc_last w2 (.cells #[.string r.name, .int .u8 r.lab.1, .int .u16 r.lab.2, .int .i64 r.bl, .int .i64 r.no, .int .i64 r.fr, .int .i64 r.pr, .int .i64 r.op, .int .i64 cl] 108)
  have HT3 := Lib.hid (HT2.out.keep hb3)
  have HB3 := Lib.hid (bnext HB2.out hb3)
  have c3 := HT3.out.tp.cu (l := k) (by omega)
  have c4 : (k : Int) < 64 := by omega
  have c5 : IntKind.u8.wrap (k : Int) = k := by simp [IntKind.wrap, IntKind.bits, IntKind.signed]; omega
  have HRB := Lib.hid hregb
  clear hb3 hregb
  go_wp2_with fail
  go_quiet (fail)
  go_wp2_with fail
  obtain ⟨R, hR⟩ : ∃ R, R = w2.heap.size := ⟨_, rfl⟩
  obtain ⟨w3, hw3⟩ : ∃ w3, w3 = w2.alloc (.cells #[.string r.name, .int .u8 r.lab.1, .int .u16 r.lab.2, .int .i64 r.bl, .int .i64 r.no, .int .i64 r.fr, .int .i64 r.pr, .int .i64 r.op, .int .i64 cl] 108) := ⟨_, rfl⟩
  have hz3 : w3.heap.size = w2.heap.size + 1 := by rw [hw3]; simp
  rw [← hw3] at HT3 HB3 HRB hreg c3 ⊢
  rw [← hz3]
  rw [← hR] at HRB hreg ⊢
  clear hw3
  have hb4 : Below w3.heap.size w3 ((w3.drewN nq).alloc (.cells #[.int .u8 k, .int .u16 1] 45)) := (bdrewN (Below.refl _ _) nq).alloc (Nat.le_refl _) _
  have hn4 : ((w3.drewN nq).alloc (.cells #[.int .u8 k, .int .u16 1] 45)).heap[w3.heap.size]? = some (.cells #[.int .u8 k, .int .u16 1] 45 (0, 0)) := heap_alloc_last (w3.drewN nq) _
  generalize hw4 : (w3.drewN nq).alloc (.cells #[.int .u8 k, .int .u16 1] 45) = w4 at *
  have HT4 := Lib.hid (HT3.out.keep hb4)
  have HR4 := Lib.hid (bkeep hb4 HRB.out)
  have HB4 := Lib.hid (bnext HB3.out hb4)
  have hlt : w3.heap.size < w4.heap.size := by rw [← hw4]; simp
  obtain ⟨L, hLe⟩ : ∃ L, L = w3.heap.size := ⟨_, rfl⟩
  rw [← hLe] at hn4 hlt ⊢
  have HN4 := Lib.hid hn4
  have HGL := Lib.hid (show w.heap.size ≤ R ∧ R < L by rw [hLe, hR, hz3]; have := HB2.out.size; omega)
  clear hz3 hb4 hn4 hw4 hLe hreg c3 hfr' hR
  clear HT3 HT2 HT HB3 HB2 HRB
  go_loopw [44] (fun _ wr => ∃ m : Nat, 1 ≤ m ∧ m ≤ n ∧ One w4 wr (some L) ∧ wr.heap[L]? = some (.cells #[.int .u8 k, .int .u16 m] 45 (0, 0))) (fun _ wr => n - numAt wr L)
  case atStart => exact ⟨1, Nat.le_refl _, hn1, One.refl _ _, HN4.out⟩
  case round =>
    obtain ⟨m, hm1, hm, ho, hlb⟩ := hrel
    have hGL : g < L ∧ gm < L := by
      have := HX.out; have := HGL.out; omega
    have HTr := Lib.hid (show TT B wr g gm a T from ⟨HT4.out.tp.one ho (by omega) (by omega), fun l t ht => (HT4.out.pr l t ht).of_block (ho.block _ (HT4.out.pr l t ht).lt (fun e => by
      have e2 : L = t.blk := by cases e; rfl
      have h1 := rowIs_arr (HT4.out.pr l t ht)
      rw [← e2] at h1
      exact absurd (cells_type HN4.out h1) (by decide))), HT4.out.ok⟩)
    have HO := Lib.hid ho
    have c1 := rowcell hlb
    have c2 := HTr.out.tp.c1
    obtain ⟨l, hkey⟩ := key_pid (k, m) (by show k ≤ 255; omega) (by show m ≤ 65535; omega)
    have HK := Lib.hid hkey
    have HLB := Lib.hid hlb
    clear ho hkey hlb
    by_cases hmn : m < n
    · obtain ⟨x, hx⟩ : ∃ x, tF T (k, m) = some x := by
        have := HW.out m hm1 hmn
        cases hF : tF T (k, m) with
        | none => exact absurd hF this
        | some x => exact ⟨x, rfl⟩
      have HF := Lib.hid hx
      clear hx
      go_upto_region 9 with fail
      refine wp_region_still_tail 6 (by kernel_rfl) (by kernel_rfl) ?_
      simp only [List.take_succ_cons, List.take_zero, List.drop_succ_cons, List.drop_zero]
      change wpStill _ _ (World.drew wr) _ _ _
      iterate 5 still_step
      refine still_lookup (by kernel_rfl) (some 44) rfl (HTr.out.tp.keep (drewb wr)).mp keyedPid markV_inj Try.underlying101 procZ _ _ false rfl (by go_simp) (k, m) (by go_simp; try rfl) HK.out (.pointer (some ⟨x, 0, none⟩)) (by rw [HF.out]; rfl) ?_
      refine wpStill_nil ?_
      change wpList _ _ _ _ _ (World.drew wr)
      have hl5 := bkeep (drewb wr) HLB.out
      have HL5 := Lib.hid hl5
      have HO5 := Lib.hid (HO.out.trans (one_of_below (drewb wr) (some L)))
      have HT5 := Lib.hid (HTr.out.keep (drewb wr))
      clear c1 c2
      have c1 := rowcell hl5
      have c2 := rowfree hl5
      have c3 := frm_step (n := m) (by omega)
      clear hl5
      generalize World.drew wr = w5 at *
      go_wp2_with fail
      go_roundw
      case rel => exact ⟨m + 1, by omega, by omega, HO5.out.trans (one_setCell w5 L 1 _), by simpa using heap_setCell_same HL5.out (.int .u16 ((m + 1 : Nat) : Int)) (off := 1) (by simp)⟩
      case measure =>
        have e1 : numAt wr L = m := by simp [numAt, rowcell HLB.out, intOf]
        have e2 : numAt (w5.setCell ⟨L, 1, none⟩ (.int .u16 ((m : Int) + 1))) L = m + 1 := by
          simp only [numAt, rowcell (heap_setCell_same HL5.out (.int .u16 ((m : Int) + 1)) (off := 1) (by simp))]
          simp [intOf]
          try omega
        rw [e1, e2]
        omega
    · obtain rfl : m = n := by omega
      go_upto_region 9 with fail
      refine wp_region_still_tail 6 (by kernel_rfl) (by kernel_rfl) ?_
      simp only [List.take_succ_cons, List.take_zero, List.drop_succ_cons, List.drop_zero]
      change wpStill _ _ (World.drew wr) _ _ _
      iterate 5 still_step
      refine still_lookup (by kernel_rfl) (some 44) rfl (HTr.out.tp.keep (drewb wr)).mp keyedPid markV_inj Try.underlying101 procZ _ _ false rfl (by go_simp) (k, m) (by go_simp; try rfl) HK.out (.pointer none) (by rw [HN.out]; rfl) ?_
      refine wpStill_nil ?_
      change wpList _ _ _ _ _ (World.drew wr)
      have hl5 := bkeep (drewb wr) HLB.out
      have HL5 := Lib.hid hl5
      have HO5 := Lib.hid (HO.out.trans (one_of_below (drewb wr) (some L)))
      have HT5 := Lib.hid (HTr.out.keep (drewb wr))
      have hRR : (World.drew wr).heap[R]? = some (.cells #[.string r.name, .int .u8 r.lab.1, .int .u16 r.lab.2, .int .i64 r.bl, .int .i64 r.no, .int .i64 r.fr, .int .i64 r.pr, .int .i64 r.op, .int .i64 cl] 108 (0, 0)) := by
        have := HO5.out.blk HR4.out (fun e => by have := HGL.out; cases e; omega)
        exact this
      have c6 := rowcell hRR
      clear c1 c2 hRR
      have c1 := rowcell hl5
      clear hl5
      generalize World.drew wr = w5 at *
      obtain ⟨X, hX⟩ : ∃ X, X = newA k m par cl := ⟨_, rfl⟩
      have HXX := Lib.hid hX
      clear hX
      go_wp2_with (refine wpList_buildTo rfl 63 _ rfl (some 54) rfl X ?hf ?_; case hf => (rw [HXX.out]; kernel_rfl))
      have hN6 := heap_alloc_last w5 (.cells X 63)
      have hb6 := bnew w5 (.cells X 63)
      obtain ⟨x, hx⟩ : ∃ x, x = w5.heap.size := ⟨_, rfl⟩
      rw [← hx] at hN6 ⊢
      have HXE := Lib.hid hx
      generalize w5.alloc (.cells X 63) = w6 at *
      have HT6 := Lib.hid (HT5.out.keep hb6)
      have hl6 := bkeep hb6 HL5.out
      have HL6 := Lib.hid hl6
      have HO6 := Lib.hid (HO5.out.trans (one_of_below hb6 (some L)))
      have HN6 := Lib.hid hN6
      clear c1 c6 hx hN6 hb6
      have c1 := rowcell hl6
      have c2 := HT6.out.tp.c1
      clear hl6
      refine wp_region_still_tail 6 (by kernel_rfl) (by kernel_rfl) ?_
      simp only [List.take_succ_cons, List.take_zero, List.drop_succ_cons, List.drop_zero]
      change wpStill _ _ (World.drew w6) _ _ _
      iterate 6 still_step
      refine wpStill_nil ?_
      change wpList _ _ _ _ _ (World.drew w6)
      refine wpList_update_mk (by kernel_rfl) rfl (HT6.out.keep (drewb w6)).tp.mp keyedPid markV_inj Try.underlying101 _ _ _ rfl (by go_simp) (k, m) (by go_simp; try rfl) HK.out x (by go_simp; rfl) ?_
      intro w7 hmk ho7
      have HT7 := Lib.hid ((HT6.out.tp.keep (drewb w6)).setMap ho7 hmk)
      have HO7 := Lib.hid ho7
      clear hmk ho7 c1 c2
      have c2 := HT7.out.cu (l := k) (by omega)
      have c3 := HT7.out.frz
      have c6 : IntKind.i64.wrap ((usT T k : Int) + 1) = ((usT T k + 1 : Nat) : Int) := by simp [IntKind.wrap, IntKind.bits, IntKind.signed]; omega
      go_wp2_with fail
      refine wp_region_still_tail 10 (by kernel_rfl) (by kernel_rfl) ?_
      simp only [List.take_succ_cons, List.take_zero, List.drop_succ_cons, List.drop_zero]
      change wpStill _ _ (World.drew w7) _ _ _
      iterate 10 still_step
      refine wpStill_nil ?_
      change wpList _ _ _ _ _ (World.drew w7)
      go_wp2_with fail
      have hA := HT7.out.setUs k (usT T k + 1) (by omega)
      rw [show ((usT T k + 1 : Nat) : Int) = (usT T k : Int) + 1 by omega] at hA
      have oA := one_setCell w7 g (2 + k) (.int .i64 ((usT T k : Int) + 1))
      clear c2 c3
      generalize w7.setCell ⟨g, 2 + k, none⟩ (.int .i64 ((usT T k : Int) + 1)) = wA at *
      have hsz : w.heap.size ≤ w5.heap.size := Nat.le_trans HB4.out.size HO5.out.size
      have hx5 := HXE.out
      have hGX := HX.out
      have hno := tF_none HN.out
      have hD : Duo w6 wA.drew g gm := (((Duo.of_below (drewb w6)).trans (Duo.of_one' HO7.out)).trans (Duo.of_one oA)).trans (Duo.of_below (drewb wA))
      have hTA : TT B wA.drew g gm a (setT T k (insE (T k) ⟨x, newP k m par cl⟩)) := by
        refine ⟨?_, fun j t ht => ?_, ?_⟩
        · rw [usT_setT, tF_ins _ _ _ hno, len_insE]
          exact hA.keep (drewb wA)
        · have old : ∀ i, ∀ t ∈ T i, wA.drew.rowIs t.blk 63 57 (prF t.pr) := fun i t ht => by
            have hne := HT6.out.ne ht
            exact (HT6.out.pr i t ht).of_block (hD.block _ (HT6.out.pr i t ht).lt hne.1 hne.2)
          have new : wA.drew.rowIs x 63 57 (prF (newP k m par cl)) := rowIs_of_arr (by
            have := hD.blk HN6.out (by omega) (by omega)
            rw [HXX.out] at this
            exact this)
          rcases mem_setT ht with ⟨_, h6⟩ | ⟨_, h6⟩
          · rcases mem_insE.1 h6 with rfl | h7
            · exact new
            · exact old _ _ h7
          · exact old _ _ h6
        · exact HT6.out.ok.ins (by omega) rfl ⟨hm1, hn⟩ hno (by show B ≤ x; omega)
      have hDW : Duo w wA.drew g gm := (((Duo.of_below HB4.out).of_one_new HO6.out (by have := HGL.out; omega)).trans hD)
      have hxw : w.heap.size ≤ x := by omega
      clear hD hA oA hno
      go_ret2
      exact ⟨x, rfl, hxw, hTA, hDW⟩
end
end Go.Proofs.Ytpjfnmmgfmfcfaa
