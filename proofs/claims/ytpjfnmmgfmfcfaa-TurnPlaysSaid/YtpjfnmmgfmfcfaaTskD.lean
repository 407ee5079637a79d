/- Processes: a list of them, walked; labels, Tick. -/
import Derived.Test.YtpjfnmmgfmfcfaaTskC
set_option linter.unusedVariables false
set_option linter.unusedSimpArgs false
namespace Go.Proofs.Ytpjfnmmgfmfcfaa
open Go.RowKit
open Go.Maps (Keyed)

theorem own_chg {S : Nat → Prop} {w w' : World} {base : Nat} {e : TypeId} {size n : Nat} {v : Value} {xs : List Value} (h : w.ownsRow base e size v n xs) (c : Chg S w w') (h2 : ∀ x, v.ownBlock = some x → ¬ S x) : w'.ownsRow base e size v n xs :=
  own_keep h (fun x hx => c.block x (by obtain ⟨_, cur, hb⟩ := own_blk h hx; exact rowlt hb) (h2 x hx))
/-- A list of processes, as List gives it. -/
def LV (w : World) (base : Nat) (v : Value) (L : List TE) : Prop := w.ownsRow base 36 1 v L.length (L.map fun t => ptrV t.blk)
theorem LV.cell {w : World} {base : Nat} {v : Value} {L : List TE} (h : LV w base v L) {j : Nat} (hj : j < L.length) : ∃ q off c, v = .slice (some ⟨q, off, none⟩) L.length c ∧ q < w.heap.size ∧ w.cell? ⟨q, off + j, none⟩ = some (.pointer (some ⟨L[j].blk, 0, none⟩)) := by
  rcases (SR.of_own h).cases with ⟨h0, _⟩ | ⟨_, q, off, c, h1, _, _, h2, h3⟩
  · omega
  · refine ⟨q, off, c, h1, h2, ?_⟩
    rw [h3 j (by omega)]
    simp [ptrV, hj]
theorem LV.form {w : World} {base : Nat} {v : Value} {L : List TE} (h : LV w base v L) : ∃ ad c, v = .slice ad L.length c := own_form h
theorem LV.keep {w w' : World} {base : Nat} {v : Value} {L : List TE} (h : LV w base v L) (hb : Below w.heap.size w w') : LV w' base v L := own_below h hb
theorem LV.chg {w w' : World} {base : Nat} {v : Value} {L : List TE} {S : Nat → Prop} (h : LV w base v L) (c : Chg S w w') (hS : ∀ k, S k → k < base) : LV w' base v L := own_chg h c (fun x hx hk => by
  have := (h.lt x hx).1
  have := hS x hk
  omega)
/-- Those of a list up to a place are turned, the others are not. -/
def partL (f : TE → TE) (L : List TE) (j : Nat) : List TE := (L.take j).map f ++ L.drop j
theorem partL_zero (f : TE → TE) (L : List TE) : partL f L 0 = L := by simp [partL]
theorem partL_all (f : TE → TE) (L : List TE) : partL f L L.length = L.map f := by simp [partL]
theorem partL_len (f : TE → TE) (L : List TE) (j : Nat) : (partL f L j).length = L.length := by simp [partL]; omega
theorem partL_at (f : TE → TE) (L : List TE) {j : Nat} (hj : j < L.length) : (partL f L j)[j]'(by rw [partL_len]; exact hj) = L[j] := by
  unfold partL
  rw [List.getElem_append_right (by simp; omega)]
  simp [Nat.min_eq_left (Nat.le_of_lt hj)]
theorem partL_next (f : TE → TE) (L : List TE) {j : Nat} (hj : j < L.length) : (partL f L j).set j (f L[j]) = partL f L (j + 1) := by
  unfold partL
  rw [List.set_append_right _ _ (by simp; omega)]
  rw [List.take_succ_eq_append_getElem hj, List.map_append, List.append_assoc]
  congr 1
  simp only [List.length_map, List.length_take, Nat.min_eq_left (Nat.le_of_lt hj), Nat.sub_self, List.map_cons, List.map_nil]
  rw [List.drop_eq_getElem_cons hj]
  rfl
theorem partL_same (f : TE → TE) (L : List TE) {j : Nat} (hj : j < L.length) (h : f L[j] = L[j]) : partL f L (j + 1) = partL f L j := by
  rw [← partL_next f L hj, h]
  have := partL_at f L hj
  conv => lhs; rw [← this]
  exact List.set_getElem_self _

section
variable {B : Nat} {w0 w w' : World} {g gm : Nat} {a : Option Addr} {rs : List RegL} {T : Nat → List TE}
theorem TT.setAt' (h : TT B w g gm a T) {l j : Nat} {L : List TE} (hL : T l = L) (hj : j < L.length) {t : TE} (ht : L[j] = t) {p' : PrL} (hl : p'.lab = t.pr.lab) (hn : p'.num = t.pr.num) (o : One w w' (some t.blk)) (hr : w'.rowIs t.blk 63 57 (prF p')) :
    TT B w' g gm a (setT T l (L.set j ⟨t.blk, p'⟩)) := by
  subst hL
  subst ht
  exact h.setAt hj hl hn o hr
theorem TT.lt (h : TT B w g gm a T) {k : Nat} (hk : tS g gm T k) : k < w.heap.size := by
  rcases hk with rfl | rfl | ⟨l, t, ht, rfl⟩
  · exact h.tp.row.lt
  · exact h.tp.mp.lt
  · exact (h.pr l t ht).lt
theorem TT.mem (h : TT B w g gm a T) {l : Nat} {t : TE} (ht : t ∈ T l) : tS g gm T t.blk := .inr (.inr ⟨l, t, ht, rfl⟩)
theorem Chg.of_proc {x : Nat} {S : Nat → Prop} (o : One w w' (some x)) (h : S x) : Chg S w w' := Chg.of_one o h

def wakeE (b : PrL → Bool) (t : TE) : TE := if b t.pr then ⟨t.blk, wakeP t.pr⟩ else t
def cntB (b : PrL → Bool) (L : List TE) : Nat := (L.filter fun t => b t.pr).length
def tickB (now : Nat) (p : PrL) : Bool := decide (p.st = 2) && decide (p.cau = 2) && decide (p.til ≤ now)
def wakeT (b : PrL → Bool) (T : Nat → List TE) (m : Nat) : Nat → List TE := fun l => if l < m then (T l).map (wakeE b) else T l
def cntT (b : PrL → Bool) (T : Nat → List TE) : Nat → Nat
  | 0 => 0
  | m + 1 => cntT b T m + cntB b (T m)
theorem cntB_take (b : PrL → Bool) (L : List TE) {j : Nat} (hj : j < L.length) : cntB b (L.take (j + 1)) = cntB b (L.take j) + if b L[j].pr then 1 else 0 := by
  unfold cntB
  rw [List.take_succ_eq_append_getElem hj, List.filter_append, List.length_append]
  congr 1
  by_cases h : b L[j].pr <;> simp [h]
theorem cntB_le (b : PrL → Bool) (L : List TE) : cntB b L ≤ L.length := List.length_filter_le _ _
theorem cntT_le (b : PrL → Bool) (T : Nat → List TE) (h : ∀ l, (T l).length ≤ 1000) : ∀ m, cntT b T m ≤ 1000 * m
  | 0 => Nat.le_refl _
  | m + 1 => by
    have := cntT_le b T h m
    have h1 := cntB_le b (T m)
    have h2 := h m
    simp only [cntT]
    omega
theorem wakeE_key (b : PrL → Bool) (t : TE) : keyE (wakeE b t) = keyE t := by
  unfold wakeE; split <;> rfl
theorem partL_keys (b : PrL → Bool) (L : List TE) (j : Nat) : (partL (wakeE b) L j).map keyE = L.map keyE := by
  unfold partL
  rw [List.map_append, List.map_map]
  have : (keyE ∘ wakeE b) = keyE := by funext t; exact wakeE_key b t
  rw [this, ← List.map_append, List.take_append_drop]
theorem wakeT_at (b : PrL → Bool) (T : Nat → List TE) (m : Nat) : wakeT b T m m = T m := if_neg (Nat.lt_irrefl m)
theorem wakeT_zero (b : PrL → Bool) (T : Nat → List TE) : wakeT b T 0 = T := by funext l; unfold wakeT; rw [if_neg (Nat.not_lt_zero l)]
theorem wakeT_next (b : PrL → Bool) (T : Nat → List TE) (m : Nat) : setT (wakeT b T m) m (partL (wakeE b) (T m) (T m).length) = wakeT b T (m + 1) := by
  funext l
  unfold setT wakeT
  by_cases h : l = m
  · subst h; rw [if_pos rfl, if_pos (Nat.lt_succ_self l), partL_all]
  · rw [if_neg h]
    by_cases h2 : l < m
    · rw [if_pos h2, if_pos (by omega)]
    · rw [if_neg h2, if_neg (by omega)]
theorem wakeT_keys (b : PrL → Bool) (T : Nat → List TE) (m l : Nat) : (wakeT b T m l).map keyE = (T l).map keyE := by
  unfold wakeT
  split
  · have := partL_keys b (T l) (T l).length
    rwa [partL_all] at this
  · rfl
theorem TT.len (h : TT B w g gm a T) (l : Nat) : (T l).length ≤ 1000 := asc_len _ (h.ok.asc l) (h.ok.num l)

theorem taskLabels_in (hp : ConfP w0 a rs) (hb : Below w0.heap.size w0 w) (h : TT B w g gm a T) : Calls Try.prog 57 #[.pointer (some ⟨g, 0, none⟩)] w fun e w' => e = .returned (.int .i64 rs.length) ∧ w = w' := by
  have c0 := h.tp.c0
  have HL := Lib.hid (hp.len w hb)
  clear h hp hb
  go_enter Try.func57, Try.ntmps57
  go_wp2_with fail
  refine HL.out.mono ?_
  rintro e w2 ⟨rfl, rfl⟩
  go_wp2_with fail
  go_ret
  exact ⟨rfl, rfl⟩
set_option maxRecDepth 20000 in
set_option maxHeartbeats 16000000 in
theorem taskTick_in (hp : ConfP w0 a rs) (hb : Below w0.heap.size w0 w) (h : TT B w g gm a T) (h0 : w0.heap.size ≤ B) (hg : B ≤ g) (hgm : B ≤ gm) (hB : B ≤ w.heap.size) (h64 : rs.length ≤ 64) (now : Nat) :
    Calls Try.prog 47 #[.pointer (some ⟨g, 0, none⟩), .int .u64 now] w fun e w' => e = .returned (.int .i64 (cntT (tickB now) T rs.length)) ∧ TT B w' g gm a (wakeT (tickB now) T rs.length) ∧ Chg (tS g gm T) w w' := by
  have HP := Lib.hid hp
  have HB := Lib.hid hb
  have HT := Lib.hid h
  have HX := Lib.hid (show ∀ k, tS g gm T k → k < w.heap.size from fun k hk => h.lt hk)
  have HG := Lib.hid (show ∀ k, tS g gm T k → B ≤ k from fun k hk => by
    rcases hk with rfl | rfl | ⟨l, t, ht, rfl⟩
    · exact hg
    · exact hgm
    · exact h.ok.base _ _ ht)
  clear h hp hb
  go_enter Try.func47, Try.ntmps47
  go_wp2_with fail
  refine (taskLabels_in HP.out HB.out HT.out).mono ?_
  rintro e w2 ⟨rfl, rfl⟩
  go_wp2_with fail
  go_loopw [5, 11] (fun r5 r wx => ∃ m : Nat, m ≤ rs.length ∧ r = .int .i64 m ∧ r5 = .int .i64 (cntT (tickB now) T m) ∧ TT B wx g gm a (wakeT (tickB now) T m) ∧ Chg (tS g gm T) w wx) (fun _ r _ => rs.length - (intOf r).toNat)
  case atStart => exact ⟨0, Nat.zero_le _, rfl, rfl, by rw [wakeT_zero]; exact HT.out, Chg.refl _ _⟩
  case round =>
    obtain ⟨m, hm, rfl, rfl, htm, hcm⟩ := hrel
    have HTM := Lib.hid htm
    have HCM := Lib.hid hcm
    obtain ⟨c0, hc0⟩ : ∃ c, c = cntT (tickB now) T m := ⟨_, rfl⟩
    have HC0 := Lib.hid hc0
    have hc64 : c0 ≤ 1000 * m := by rw [hc0]; exact cntT_le _ _ HT.out.len m
    rw [← hc0]
    clear htm hcm hc0
    by_cases hmr : m < rs.length
    · have f1 : (m : Int) < rs.length := by omega
      go_wp2_with fail
      refine (taskList_in HTM.out m (by omega)).mono ?_
      rintro e w3 ⟨v, rfl, hlv, hb3⟩
      rw [wakeT_at] at hlv
      obtain ⟨ad, cv, hv⟩ := LV.form (L := T m) hlv
      have HLV := Lib.hid (show LV w3 wr.heap.size v (T m) from hlv)
      have HT3 := Lib.hid (HTM.out.keep hb3)
      have HC3 := Lib.hid (HCM.out.trans (Chg.of_below (tS g gm T) hb3) (fun _ _ h => h))
      have HW := Lib.hid (show w.heap.size ≤ wr.heap.size from HCM.out.size)
      obtain ⟨n, hn⟩ : ∃ n, n = (T m).length := ⟨_, rfl⟩
      have hn1000 : n ≤ 1000 := by rw [hn]; exact HT.out.len m
      rw [← hn] at hv
      have HN := Lib.hid hn
      subst hv
      clear hlv hb3 hn
      go_wp2_with fail
      obtain ⟨wo, hwo⟩ : ∃ wo, wo = wr := ⟨_, rfl⟩
      subst hwo
      go_loopw [5, 18] (fun r5 r wx => ∃ j cc : Nat, j ≤ n ∧ r = .int .i64 j ∧ r5 = .int .i64 cc ∧ cc = c0 + cntB (tickB now) ((T m).take j) ∧ TT B wx g gm a (setT (wakeT (tickB now) T m) m (partL (wakeE (tickB now)) (T m) j)) ∧ Chg (tS g gm T) w wx ∧ LV wx wo.heap.size (.slice ad n cv) (T m)) (fun _ r _ => n - (intOf r).toNat)
      case atStart =>
        refine ⟨0, c0, Nat.zero_le _, rfl, rfl, rfl, ?_, HC3.out, HLV.out⟩
        rw [partL_zero]
        have := HT3.out
        rw [← wakeT_at (tickB now) T m, setT_self]
        exact this
      case round =>
        obtain ⟨j, cc, hj, rfl, rfl, hcc, htj, hcj, hlj⟩ := hrel
        have HCC := Lib.hid hcc
        have HTJ := Lib.hid htj
        have HCJ := Lib.hid hcj
        have HLJ := Lib.hid hlj
        have hcl := cntB_le (tickB now) ((T m).take j)
        have hcl2 : ((T m).take j).length ≤ 1000 := by rw [List.length_take]; have := HN.out; omega
        have hccb : cc ≤ 100000 := by omega
        clear htj hcj hlj hcc
        by_cases hjn : j < n
        · have f2 : (j : Int) < n := by omega
          have hjT : j < (T m).length := by rw [← HN.out]; exact hjn
          obtain ⟨q, off, c2, hs, hq, hcell⟩ := HLJ.out.cell hjT
          have hcc : ad = some ⟨q, off, none⟩ := by
            simp only [Value.slice.injEq] at hs
            exact hs.1
          subst hcc
          obtain ⟨t, ht⟩ : ∃ t, t = (T m)[j] := ⟨_, rfl⟩
          rw [← ht] at hcell
          have hL : setT (wakeT (tickB now) T m) m (partL (wakeE (tickB now)) (T m) j) m = partL (wakeE (tickB now)) (T m) j := setT_same _ _ _
          have hat : (partL (wakeE (tickB now)) (T m) j)[j]'(by rw [partL_len]; exact hjT) = t := by rw [partL_at _ _ hjT, ht]
          have hmem : t ∈ setT (wakeT (tickB now) T m) m (partL (wakeE (tickB now)) (T m) j) m := by rw [hL, ← hat]; exact List.getElem_mem _
          have hrow := HTJ.out.pr _ _ hmem
          have e5 : wr.cell? ⟨t.blk, 5, none⟩ = some (.int .u8 t.pr.st) := hrow.cell (i := 5) (by omega)
          have e6 : wr.cell? ⟨t.blk, 6, none⟩ = some (.int .u8 t.pr.cau) := hrow.cell (i := 6) (by omega)
          have e11 : wr.cell? ⟨t.blk, 11, none⟩ = some (.int .u64 t.pr.til) := hrow.cell (i := 11) (by omega)
          have hnx := cntB_take (tickB now) (T m) hjT
          rw [← ht] at hnx
          have HNX := Lib.hid hnx
          have HR := Lib.hid hrow
          have HTT := Lib.hid ht
          have HAT := Lib.hid hat
          have HTS := Lib.hid (show tS g gm T t.blk from .inr (.inr ⟨m, t, by rw [ht]; exact List.getElem_mem hjT, rfl⟩))
          clear hs hq hnx hrow hat hmem hL ht
          cases hb : tickB now t.pr
          · have HBB := Lib.hid hb
            have hsame : wakeE (tickB now) (T m)[j] = (T m)[j] := by rw [← HTT.out]; unfold wakeE; rw [hb]; rfl
            have HSM := Lib.hid (partL_same _ _ hjT hsame)
            clear hsame
            have done : ∀ wx, wx = wr → ∃ j' cc' : Nat, j' ≤ n ∧ (Value.int .i64 ((j : Int) + 1)) = .int .i64 (j' : Nat) ∧ (Value.int .i64 (cc : Nat)) = .int .i64 (cc' : Nat) ∧ cc' = c0 + cntB (tickB now) ((T m).take j') ∧ TT B wx g gm a (setT (wakeT (tickB now) T m) m (partL (wakeE (tickB now)) (T m) j')) ∧ Chg (tS g gm T) w wx ∧ LV wx wo.heap.size (.slice (some ⟨q, off, none⟩) n cv) (T m) := fun wx e => by
              subst e
              refine ⟨j + 1, cc, by omega, by go_num, rfl, ?_, ?_, HCJ.out, HLJ.out⟩
              · rw [HNX.out, HBB.out, HCC.out]; rfl
              · rw [HSM.out]; exact HTJ.out
            have HD := Lib.hid done
            clear done
            unfold tickB at hb
            rcases (show ¬ t.pr.st = 2 ∨ (t.pr.st = 2 ∧ ¬ t.pr.cau = 2) ∨ (t.pr.st = 2 ∧ t.pr.cau = 2 ∧ ¬ t.pr.til ≤ now) by
              simp only [Bool.and_eq_false_iff, decide_eq_false_iff_not] at hb
              by_cases h1 : t.pr.st = 2 <;> by_cases h2 : t.pr.cau = 2 <;> simp_all) with h1 | ⟨h1, h2⟩ | ⟨h1, h2, h3⟩
            · have g1 : ((t.pr.st : Int) == 2) = false := by rw [beq_eq_false_iff_ne]; omega
              have hud : undef = Value.tuple #[] := rfl
              clear hb h1
              go_wp2_with fail
              go_roundw
              case rel => exact HD.out _ rfl
              case measure => simp [intOf]; omega
            · have g1 : ((t.pr.st : Int) == 2) = true := by rw [beq_iff_eq]; omega
              have g2 : ((t.pr.cau : Int) == 2) = false := by rw [beq_eq_false_iff_ne]; omega
              have hud : undef = Value.tuple #[] := rfl
              clear hb h1 h2
              go_wp2_with fail
              go_roundw
              case rel => exact HD.out _ rfl
              case measure => simp [intOf]; omega
            · have g1 : ((t.pr.st : Int) == 2) = true := by rw [beq_iff_eq]; omega
              have g2 : ((t.pr.cau : Int) == 2) = true := by rw [beq_iff_eq]; omega
              have g3 : ¬ ((t.pr.til : Int) ≤ now) := by omega
              clear hb h1 h2 h3
              go_wp2_with fail
              go_roundw
              case rel => exact HD.out _ rfl
              case measure => simp [intOf]; omega
          · have HBB := Lib.hid hb
            have hturn : wakeE (tickB now) (T m)[j] = ⟨t.blk, wakeP t.pr⟩ := by rw [← HTT.out]; unfold wakeE; rw [hb]; rfl
            have HSM := Lib.hid (partL_next (wakeE (tickB now)) (T m) hjT)
            have HTU := Lib.hid hturn
            unfold tickB at hb
            simp only [Bool.and_eq_true, decide_eq_true_eq] at hb
            obtain ⟨⟨h1, h2⟩, h3⟩ := hb
            have g1 : ((t.pr.st : Int) == 2) = true := by rw [beq_iff_eq]; omega
            have g2 : ((t.pr.cau : Int) == 2) = true := by rw [beq_iff_eq]; omega
            have g3 : ((t.pr.til : Int) ≤ now) := by omega
            have g4 : IntKind.i64.wrap ((cc : Int) + 1) = (cc : Int) + 1 := by rw [IntKind.wrap_i64]; omega
            clear h1 h2 h3 hturn
            go_wp2_with fail
            refine (procWake_in HR.out).mono ?_
            rintro e w5 ⟨rfl, hr5, ho5⟩
            have HT5 := Lib.hid (HTJ.out.setAt' (setT_same _ _ _) (by rw [partL_len]; exact hjT) HAT.out (p' := wakeP t.pr) rfl rfl ho5 hr5)
            have HC5 := Lib.hid (Chg.of_one ho5 (S := tS g gm T) HTS.out)
            clear hr5 ho5 e5 e6 e11 hcell
            go_wp2_with fail
            go_roundw
            case rel =>
              refine ⟨j + 1, cc + 1, by omega, by go_num, by go_num, ?_, ?_, HCJ.out.trans HC5.out (fun _ _ h => h), HLJ.out.chg HC5.out (fun k hk => Nat.lt_of_lt_of_le (HX.out k hk) HW.out)⟩
              · rw [HNX.out, HBB.out, if_pos rfl, HCC.out, Nat.add_assoc]
              · have := HT5.out
                rw [setT_set] at this
                rw [← HSM.out, HTU.out]
                exact this
            case measure => simp [intOf]; omega
        · obtain rfl : j = n := by omega
          have f2 : ¬ ((j : Int) < j) := by omega
          go_wp2_with fail
          go_roundw
          case rel =>
            refine ⟨m + 1, by omega, by go_num, ?_, ?_, HCJ.out⟩
            · simp only [cntT]
              rw [← HC0.out]
              have := HN.out
              have h2 := HCC.out
              rw [this, List.take_length] at h2
              rw [h2]
            · rw [← wakeT_next]
              have := HTJ.out
              rw [HN.out] at this
              exact this
          case measure => simp [intOf]; omega
    · obtain rfl : m = rs.length := by omega
      have f1 : ¬ ((rs.length : Int) < rs.length) := by omega
      go_wp2_with fail
      go_ret
      exact ⟨congrArg (fun c : Nat => Ending.returned (.int .i64 c)) HC0.out, HTM.out, HCM.out⟩
end
end Go.Proofs.Ytpjfnmmgfmfcfaa
