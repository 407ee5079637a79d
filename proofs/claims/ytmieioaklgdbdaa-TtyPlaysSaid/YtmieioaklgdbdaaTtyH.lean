/- The document's console: its object, Type. -/
import Derived.Test.YtmieioaklgdbdaaTtzD
import Derived.Test.YtmieioaklgdbdaaChg
import Derived.Test.YtmieioaklgdbdaaMapG
set_option linter.unusedVariables false
set_option linter.unusedSimpArgs false
namespace Go.Proofs.Ytmieioaklgdbdaa
open Go.RowKit

theorem Chg.mono' {S S' : Nat → Prop} {w w' : World} (c : Chg S w w') (h : ∀ k, S k → S' k) : Chg S' w w' := ⟨c.os, c.tape, c.output, c.size, fun k hk hS => c.block k hk (fun e => hS (h k e))⟩
theorem Chg.oneX {S : Nat → Prop} {w w1 w2 : World} {x : Nat} (a : Chg S w w1) (o : One w1 w2 (some x)) (h : S x ∨ w.heap.size ≤ x) : Chg S w w2 :=
  ⟨o.os.trans a.os, o.tape.trans a.tape, o.output.trans a.output, Nat.le_trans a.size o.size, fun k hk hS => (o.block k (Nat.lt_of_lt_of_le hk a.size) (fun e => by
    cases e
    rcases h with h | h
    · exact hS h
    · omega)).trans (a.block k hk hS)⟩
/-- Four consoles in one variable. -/
def rmCell (ms : Nat → Value) (lost out : Nat → Int) (j : Nat) : Value := if j % 3 = 0 then ms (j / 3) else if j % 3 = 1 then .int .i64 (lost (j / 3)) else .int .i64 (out (j / 3))
structure RM (w : World) (base gm : Nat) (ms : Nat → Value) (ins : Nat → List Int) (lost out : Nat → Int) : Prop where
  row : w.rowIs gm 29 12 (rmCell ms lost out)
  own : ∀ l, l < 4 → w.ownsRow base 5 1 (ms l) (ins l).length ((ins l).map (.int .u8))
  ap : ∀ i j k, i < 4 → j < 4 → i ≠ j → (ms i).ownBlock = some k → (ms j).ownBlock ≠ some k
  lt : gm < base ∧ base ≤ w.heap.size
  wf : ∀ i, i < 4 → ∀ z ∈ ins i, 0 ≤ z ∧ z ≤ 255
section
variable {w w' : World} {base gm : Nat} {ms : Nat → Value} {ins : Nat → List Int} {lost out : Nat → Int}
theorem RM.keep (h : RM w base gm ms ins lost out) (hb : Below w.heap.size w w') : RM w' base gm ms ins lost out :=
  ⟨h.row.of_block (hb.block _ h.row.lt), fun l hl => own_below (h.own l hl) hb, h.ap, ⟨h.lt.1, Nat.le_trans h.lt.2 hb.size⟩, h.wf⟩
theorem RM.c0 (h : RM w base gm ms ins lost out) {l : Nat} (hl : l < 4) : w.cell? ⟨gm, l * 3, none⟩ = some (ms l) := by
  rw [h.row.cell (by omega)]
  unfold rmCell
  rw [if_pos (by omega), show l * 3 / 3 = l by omega]
theorem RM.c1 (h : RM w base gm ms ins lost out) {l : Nat} (hl : l < 4) : w.cell? ⟨gm, l * 3 + 1, none⟩ = some (.int .i64 (lost l)) := by
  rw [h.row.cell (by omega)]
  unfold rmCell
  rw [if_neg (by omega), if_pos (by omega), show (l * 3 + 1) / 3 = l by omega]
theorem RM.c2 (h : RM w base gm ms ins lost out) {l : Nat} (hl : l < 4) : w.cell? ⟨gm, l * 3 + 2, none⟩ = some (.int .i64 (out l)) := by
  rw [h.row.cell (by omega)]
  unfold rmCell
  rw [if_neg (by omega), if_neg (by omega), show (l * 3 + 2) / 3 = l by omega]
theorem RM.setLost (h : RM w base gm ms ins lost out) {l : Nat} (hl : l < 4) (x : Int) : RM (w.setCell ⟨gm, l * 3 + 1, none⟩ (.int .i64 x)) base gm ms ins (upd lost l x) out := by
  have o := one_setCell w gm (l * 3 + 1) (.int .i64 x)
  refine ⟨(h.row.set _ _).congr (fun i hi => ?_), fun j hj => own_one (h.own j hj) o (fun k hk e => by have := ((h.own j hj).lt k hk).1; have := h.lt.1; cases e; omega), h.ap, ⟨h.lt.1, Nat.le_trans h.lt.2 o.size⟩, h.wf⟩
  unfold rmCell upd
  by_cases e : i = l * 3 + 1
  · rw [if_pos e, if_neg (by omega), if_pos (by omega), if_pos (by omega)]
  · rw [if_neg e]
    by_cases h1 : i % 3 = 0
    · rw [if_pos h1, if_pos h1]
    · rw [if_neg h1, if_neg h1]
      by_cases h2 : i % 3 = 1
      · rw [if_pos h2, if_pos h2, if_neg (by omega)]
      · rw [if_neg h2, if_neg h2]
theorem RM.setOut (h : RM w base gm ms ins lost out) {l : Nat} (hl : l < 4) (x : Int) : RM (w.setCell ⟨gm, l * 3 + 2, none⟩ (.int .i64 x)) base gm ms ins lost (upd out l x) := by
  have o := one_setCell w gm (l * 3 + 2) (.int .i64 x)
  refine ⟨(h.row.set _ _).congr (fun i hi => ?_), fun j hj => own_one (h.own j hj) o (fun k hk e => by have := ((h.own j hj).lt k hk).1; have := h.lt.1; cases e; omega), h.ap, ⟨h.lt.1, Nat.le_trans h.lt.2 o.size⟩, h.wf⟩
  unfold rmCell upd
  by_cases e : i = l * 3 + 2
  · rw [if_pos e, if_neg (by omega), if_neg (by omega), if_pos (by omega)]
  · rw [if_neg e]
    by_cases h1 : i % 3 = 0
    · rw [if_pos h1, if_pos h1]
    · rw [if_neg h1, if_neg h1]
      by_cases h2 : i % 3 = 1
      · rw [if_pos h2, if_pos h2]
      · rw [if_neg h2, if_neg h2, if_neg (by omega)]
/-- A console's list becomes another one of the call's own. -/
theorem RM.setIn {w1 : World} (h : RM w base gm ms ins lost out) {l : Nat} (hl : l < 4) {u : Value} {news : List Int} {S : Nat → Prop} (c : Chg S w w1) (hS : ∀ k, S k → k ≠ gm ∧ ∀ j, j < 4 → j ≠ l → (ms j).ownBlock ≠ some k)
    (hown : w1.ownsRow base 5 1 u news.length (news.map (.int .u8))) (hu : ∀ k, u.ownBlock = some k → (ms l).ownBlock = some k ∨ w.heap.size ≤ k) (hwf : ∀ z ∈ news, 0 ≤ z ∧ z ≤ 255) {w2 : World} (hrow : w2.rowIs gm 29 12 (fun i => if i = l * 3 then u else rmCell ms lost out i)) (o : One w1 w2 (some gm)) :
    RM w2 base gm (upd ms l u) (upd ins l news) lost out := by
  have hlt := h.lt
  refine ⟨hrow.congr (fun i hi => ?_), fun j hj => ?_, fun i j k hi hj hij hk => ?_, ⟨hlt.1, Nat.le_trans hlt.2 (Nat.le_trans c.size o.size)⟩, fun i hi z hz => ?_⟩
  · unfold rmCell upd
    by_cases e : i = l * 3
    · rw [if_pos e, if_pos (by omega), if_pos (by omega)]
    · rw [if_neg e]
      by_cases h1 : i % 3 = 0
      · rw [if_pos h1, if_pos h1, if_neg (by omega)]
      · rw [if_neg h1, if_neg h1]
  · by_cases e : j = l
    · subst e
      simp only [upd, if_true]
      exact own_one hown o (fun k hk e => by have := (hown.lt k hk).1; cases e; omega)
    · simp only [upd, if_neg e]
      refine own_one (own_keep (h.own j hj) (fun k hk => c.block k ((h.own j hj).lt k hk).2 (fun hs => (hS k hs).2 j hj e hk))) o (fun k hk e => by have := ((h.own j hj).lt k hk).1; cases e; omega)
  · have key : ∀ i, i < 4 → i ≠ l → ∀ k, (ms i).ownBlock = some k → u.ownBlock ≠ some k := fun i hi hil k hk hu2 => by
      rcases hu k hu2 with e | e
      · exact h.ap i l k hi hl hil hk e
      · have := ((h.own i hi).lt k hk).2
        omega
    by_cases hi' : i = l
    · subst hi'
      simp only [upd, if_true, if_neg (Ne.symm hij)] at hk ⊢
      exact fun h' => key j hj (Ne.symm hij) k h' hk
    · by_cases hj' : j = l
      · subst hj'
        simp only [upd, if_true, if_neg hi'] at hk ⊢
        exact key i hi hi' k hk
      · simp only [upd, if_neg hi', if_neg hj'] at hk ⊢
        exact h.ap i j k hi hj hij hk
  · by_cases e : i = l
    · subst e
      simp only [upd, if_true] at hz
      exact hwf z hz
    · simp only [upd, if_neg e] at hz
      exact h.wf i hi z hz
def rmset (gm : Nat) (v : Value) (k : Nat) : Prop := k = gm ∨ v.ownBlock = some k
theorem upd_upd {α : Type} (f : Nat → α) (l : Nat) (a b : α) : upd (upd f l a) l b = upd f l b := by
  funext j
  unfold upd
  split <;> rfl
theorem upd_at {α : Type} (f : Nat → α) (l : Nat) (a : α) : upd f l a l = a := if_pos rfl
set_option maxRecDepth 20000 in
set_option maxHeartbeats 4000000 in
theorem refType_in (h : RM w base gm ms ins lost out) (l : Nat) (hl : l < 4) {v : Value} {zs : List Int} (hv : SI w .u8 v zs) (hz : zs.length ≤ 300) (hs : (ins l).length ≤ 128) (hlo : 0 ≤ lost l ∧ lost l ≤ 1000000000000) (hvb : 0 < zs.length → ∀ k, v.ownBlock = some k → k < base ∧ k ≠ gm) :
    Calls Try.prog 10 #[.pointer (some ⟨gm, l * 3, none⟩), v] w fun e w' => e = .returned (.int .i64 (min zs.length (128 - (ins l).length) : Nat)) ∧
      (∃ u, RM w' base gm (upd ms l u) (upd ins l (ins l ++ zs.take (128 - (ins l).length))) (upd lost l (lost l + (zs.length - min zs.length (128 - (ins l).length) : Nat))) out ∧ ∀ k, u.ownBlock = some k → (ms l).ownBlock = some k ∨ w.heap.size ≤ k) ∧ Chg (rmset gm (ms l)) w w' := by
  obtain ⟨A, cap, rfl, hlc, hcm⟩ := hv.sr.form
  obtain ⟨room, hroom⟩ : ∃ room, room = 128 - (ins l).length := ⟨_, rfl⟩
  rw [← hroom]
  obtain ⟨o, ho⟩ : ∃ o, o = l * 3 := ⟨_, rfl⟩
  rw [← ho]
  have H := Lib.hid h
  have HV := Lib.hid hv
  have HVB := Lib.hid hvb
  have HO := Lib.hid ho
  have hlo0 := hlo.1
  have hlo1 := hlo.2
  obtain ⟨b0, hb0⟩ : ∃ b0, b0 = ins l := ⟨_, rfl⟩
  obtain ⟨lo, hlo'⟩ : ∃ lo, lo = lost l := ⟨_, rfl⟩
  rw [← hb0] at hs hroom ⊢
  rw [← hlo'] at hlo0 hlo1 ⊢
  have HB0 := Lib.hid hb0
  have HLO := Lib.hid hlo'
  have HR := Lib.hid hroom
  have HRM := Lib.hid (show b0.length + room = 128 by omega)
  clear h hv hvb hlo ho hb0 hlo' hroom
  go_enter Try.func10, Try.ntmps10
  go_wp2_with fail
  go_loopw [5, 6] (fun r5 r6 wx => ∃ (i m : Nat) (u : Value), i ≤ zs.length ∧ m = min i room ∧ r6 = .int .i64 i ∧ r5 = .int .i64 m ∧ RM wx base gm (upd ms l u) (upd ins l (b0 ++ zs.take m)) (upd lost l (lo + (i - m : Nat))) out ∧ (∀ k, u.ownBlock = some k → (ms l).ownBlock = some k ∨ w.heap.size ≤ k) ∧ Chg (rmset gm (ms l)) w wx) (fun _ r6 _ => zs.length - (intOf r6).toNat)
  case atStart =>
    refine ⟨0, 0, ms l, by omega, by omega, rfl, rfl, ?_, fun k hk => .inl hk, Chg.of_below _ (Below.refl _ _)⟩
    rw [List.take_zero, List.append_nil, HB0.out, HLO.out, Nat.sub_zero]
    rw [show lost l + ((0 : Nat) : Int) = lost l by omega, upd_self, upd_self, upd_self]
    exact H.out
  case round =>
    obtain ⟨i, m, u, hi, hm, rfl, rfl, hrm, hu, hcg⟩ := hrel
    have HM := Lib.hid hrm
    have HU := Lib.hid hu
    have HCG := Lib.hid hcg
    have hml : m ≤ zs.length := by omega
    have hown := hrm.own l hl
    rw [upd_at, upd_at] at hown
    have hlen : (b0 ++ zs.take m).length = b0.length + m := by rw [List.length_append, List.length_take]; omega
    rw [hlen] at hown
    obtain ⟨nm, hnm⟩ : ∃ nm, nm = b0.length + m := ⟨_, rfl⟩
    obtain ⟨lv, hlv⟩ : ∃ lv : Int, lv = lo + (i - m : Nat) := ⟨_, rfl⟩
    rw [← hnm] at hown
    have hlv0 : 0 ≤ lv := by omega
    have hlv1 : lv ≤ 1000000000301 := by omega
    have hnm428 : nm ≤ 428 := by omega
    obtain ⟨A2, c2, hform⟩ := own_form hown
    have c0 : wr.cell? ⟨gm, o, none⟩ = some (.slice A2 nm c2) := by
      have := hrm.c0 hl
      rw [upd_at, hform, ← HO.out] at this
      exact this
    have c1 : wr.cell? ⟨gm, o + 1, none⟩ = some (.int .i64 lv) := by
      have := hrm.c1 hl
      rw [upd_at, ← HO.out, ← hlv] at this
      exact this
    have df := hrm.row.frozen
    have HOWN := Lib.hid hown
    have HFM := Lib.hid hform
    have HNM := Lib.hid hnm
    have HLV := Lib.hid hlv
    have HMI := Lib.hid hm
    clear hrm hu hcg hown hform hlen hnm hlv hm
    by_cases hil : i < zs.length
    · have g1 : (i : Int) < zs.length := by omega
      by_cases hir : i < room
      · obtain rfl : m = i := by have := HMI.out; omega
        have g2 : (nm : Int) < 128 := by have := HNM.out; have := HRM.out; omega
        have g2n : nm < 128 := by omega
        have HNG := Lib.hid (show ∀ k, (Value.slice A2 nm c2).ownBlock = some k → base ≤ k from fun k hk => (HOWN.out.lt k (by rw [HFM.out]; exact hk)).1)
        obtain ⟨gz, off, z, hA, hz255, hcz⟩ : ∃ gz off z, A = some ⟨gz, off, none⟩ ∧ (0 ≤ z ∧ z ≤ 255 ∧ z = zs.getD m 0) ∧ ∀ w', Chg (fun k => (Value.slice A2 nm c2).ownBlock = some k) wr w' → w'.cell? ⟨gz, off + m, none⟩ = some (.int .u8 z) := by
          rcases HV.out.cases with ⟨h, _⟩ | ⟨_, gz, off, cz, hs, _, _, hg, hc⟩
          · rw [h] at hil; simp at hil
          injection hs with e1 _ _
          have hwf := wf_u8 (HV.out.wf (zs.getD m 0) (by rw [List.getD_eq_getElem?_getD, List.getElem?_eq_getElem hil]; exact List.getElem_mem hil))
          refine ⟨gz, off, zs.getD m 0, e1, ⟨hwf.1, hwf.2, rfl⟩, fun w' hb => ?_⟩
          have hvb := HVB.out (by omega) gz (by rw [e1]; rfl)
          rw [World.cell?_of_block (hb.block gz (Nat.lt_of_lt_of_le hg HCG.out.size) (fun e => by have := HNG.out gz e; omega)), World.cell?_of_block (HCG.out.block gz hg (fun e => by
            rcases e with e | e
            · exact hvb.2 e
            · have := ((H.out.own l hl).lt gz e).1
              omega)), hc m hil]
        subst hA
        have HCZ := Lib.hid hcz
        have HC0 := Lib.hid (show ∀ w', Chg (fun k => (Value.slice A2 nm c2).ownBlock = some k) wr w' → w'.cell? ⟨gm, o, none⟩ = some (.slice A2 nm c2) from fun w' hb => (World.cell?_of_block (a := ⟨gm, o, none⟩) (hb.block gm HM.out.row.lt (fun e => by have h1 := HNG.out gm e; have h2 := HM.out.lt.1; omega))).trans c0)
        obtain ⟨hz0, hz1, hzd⟩ := hz255
        have HZD := Lib.hid hzd
        clear hcz hzd
        go_upto_region 6 with fail
        have hS0 : ∀ l, Stage (fun _ => True) [(13, fun w' : World => Chg (fun k => (Value.slice A2 nm c2).ownBlock = some k) wr w')] l (World.drew wr) := fun l => Stage.one trivial (fun _ => Chg.of_below _ (drewb wr))
        refine wp_region_gen (S := Stage (fun _ => True) [(13, fun w' : World => Chg (fun k => (Value.slice A2 nm c2).ownBlock = some k) wr w')]) (by kernel_rfl) ?_
        change wpAnyG _ _ _ _ _ _ _ _ (World.drew _)
        refine takeG 0 (.pointer (some ⟨gm, o, none⟩)) (some 19) rfl rfl (by kernel_rfl) (by kernel_rfl) (by kernel_rfl) (by kernel_rfl) (fun _ _ _ h => h) (.inl ⟨by kernel_rfl, fun w _ => by go_simp⟩) (hS0 _) ?_
        refine takeG 1 (.pointer (some ⟨gm, o, none⟩)) (some 20) rfl rfl (by kernel_rfl) (by kernel_rfl) (by kernel_rfl) (by kernel_rfl) (fun _ _ _ h => h) (.inl ⟨by kernel_rfl, fun w _ => by go_simp⟩) (hS0 _) ?_
        refine takeG 2 (.pointer (some ⟨gm, o, none⟩)) (some 21) rfl rfl (by kernel_rfl) (by kernel_rfl) (by kernel_rfl) (by kernel_rfl) (fun _ _ _ h => h) (.inl ⟨by kernel_rfl, fun w _ => by go_simp⟩) (hS0 _) ?_
        refine takeG 3 (.pointer (some ⟨gm, o, none⟩)) (some 22) rfl rfl (by kernel_rfl) (by kernel_rfl) (by kernel_rfl) (by kernel_rfl) (fun _ _ _ h => h) (.inl ⟨by kernel_rfl, fun w _ => by go_simp⟩) (hS0 _) ?_
        refine takeUntil 4 13 List.mem_cons_self (by kernel_rfl) (by kernel_rfl) (.slice A2 nm c2) (some 23) rfl rfl (by kernel_rfl) (by kernel_rfl) (by kernel_rfl) (by kernel_rfl) (fun _ _ _ h => h) (.inl ⟨by kernel_rfl, fun w hw => by have hc := HC0.out w (And.right hw); go_simp⟩) (hS0 _) ?_
        go_simp
        refine takeG 5 (.slice (some ⟨gz, off, none⟩) zs.length cap) (some 24) rfl rfl (by kernel_rfl) (by kernel_rfl) (by kernel_rfl) (by kernel_rfl) (fun _ _ _ h => h) (.inl ⟨by kernel_rfl, fun w _ => by go_simp⟩) (hS0 _) ?_
        refine takeG 6 (.int .i64 m) (some 25) rfl rfl (by kernel_rfl) (by kernel_rfl) (by kernel_rfl) (by kernel_rfl) (fun _ _ _ h => h) (.inl ⟨by kernel_rfl, fun w _ => by go_simp⟩) (hS0 _) ?_
        refine takeG 7 (.pointer (some ⟨gz, off + m, none⟩)) (some 26) rfl rfl (by kernel_rfl) (by kernel_rfl) (by kernel_rfl) (by kernel_rfl) (fun _ _ _ h => h) (.inl ⟨by kernel_rfl, fun w _ => by go_simp⟩) (hS0 _) ?_
        refine takeUntil 8 13 List.mem_cons_self (by kernel_rfl) (by kernel_rfl) (.int .u8 z) (some 27) rfl rfl (by kernel_rfl) (by kernel_rfl) (by kernel_rfl) (by kernel_rfl) (fun _ _ _ h => h) (.inl ⟨by kernel_rfl, fun w hw => by have hc := HCZ.out w (And.right hw); go_simp⟩) (hS0 _) ?_
        go_simp
        have hb8 : Below wr.heap.size wr ((World.drew wr).alloc (.cells #[.int .u8 z] 5)) := bnewAfter (drewb wr) _
        have hl8 := heap_alloc_last (World.drew wr) (.cells #[.int .u8 z] 5)
        refine runG 9 (.slice (some ⟨wr.heap.size, 0, none⟩) 1 1) (some 28) rfl (by kernel_rfl) (by kernel_rfl) rfl (w' := (World.drew wr).alloc (.cells #[.int .u8 z] 5)) (by go_simp) (Stage.one trivial (fun _ => Chg.of_below _ hb8)) ?_
        refine appendG1 10 rfl (by kernel_rfl) (by kernel_rfl) (some 29) rfl (.tmp 23) (.tmp 28) 26 rfl base 5 (.int .u8 0) 1 1 Try.underlying26 u8_row rfl (by omega) (.slice A2 nm c2) (.slice (some ⟨wr.heap.size, 0, none⟩) 1 1) nm 1 ((b0 ++ zs.take m).map (.int .u8)) (#[.int .u8 z]).toList (by go_simp; try rfl) (own_below (by rw [← HFM.out]; exact HOWN.out) hb8) (by go_simp; try rfl) (SR.lit (show ((World.drew wr).alloc (.cells #[.int .u8 z] 5)).heap[wr.heap.size]? = some (.cells #[.int .u8 z] 5 (0, 0)) from hl8) rfl) (fun v hv => by simp at hv; subst hv; rfl) (by simp [maxLen]; omega) (by omega) (Nat.le_trans HM.out.lt.2 hb8.size) ?_
        intro v5 w5 hown5 hgr5 hat5
        obtain ⟨A5, c5, hform5⟩ := own_form hown5
        subst hform5
        have hg5 : Chg (fun k => (Value.slice A2 nm c2).ownBlock = some k) wr w5 := (Chg.of_below _ hb8).trans (S := fun k => (Value.slice A2 nm c2).ownBlock = some k) ⟨hgr5.os, hgr5.tape, hgr5.output, hgr5.size, fun k hk hS => hgr5.block k hk (fun e => hS e.symm)⟩ (fun _ _ h => h)
        have hgm5 : w5.rowIs gm 29 12 _ := HM.out.row.of_block (hg5.block gm HM.out.row.lt (fun e => by
          have h1 := (HOWN.out.lt gm (by rw [HFM.out]; exact e)).1
          have h2 := HM.out.lt.1
          omega))
        have hnews : (b0 ++ zs.take (m + 1)) = (b0 ++ zs.take m) ++ [z] := by
          rw [List.append_assoc, List.take_add_one, List.getElem?_eq_getElem hil, HZD.out]
          congr 2
          simp [List.getD_eq_getElem?_getD, hil]
        have hnl : (b0 ++ zs.take (m + 1)).length = nm + 1 := by
          rw [hnews, List.length_append, List.length_append, List.length_take, HNM.out]
          simp
          omega
        have hown6 : w5.ownsRow base 5 1 (.slice A5 (nm + 1) c5) (b0 ++ zs.take (m + 1)).length ((b0 ++ zs.take (m + 1)).map (.int .u8)) := by
          rw [hnl, hnews, List.map_append]
          exact hown5
        obtain ⟨cur, hcb, hcs, hcf⟩ := hgm5
        have HS5 := Lib.hid hg5
        refine ⟨Stage.one trivial (fun _ => hg5), ?_⟩
        go_simp
        refine takeG 11 (.pointer (some ⟨gm, o, none⟩)) (some 30) rfl rfl (by kernel_rfl) (by kernel_rfl) (by kernel_rfl) (by kernel_rfl) (fun _ _ _ h => h) (.inl ⟨by kernel_rfl, fun w _ => by go_simp⟩) (Stage.one trivial (fun _ => HS5.out)) ?_
        refine takeG 12 (.pointer (some ⟨gm, o, none⟩)) (some 31) rfl rfl (by kernel_rfl) (by kernel_rfl) (by kernel_rfl) (by kernel_rfl) (fun _ _ _ h => h) (.inl ⟨by kernel_rfl, fun w _ => by go_simp⟩) (Stage.one trivial (fun _ => HS5.out)) ?_
        refine storeCellG (g := gm) 13 rfl (by kernel_rfl) (by kernel_rfl) rfl 26 (.tmp 31) (.tmp 29) rfl o (.slice A5 (nm + 1) c5) cur 29 (by go_simp; try rfl) (by go_simp; try rfl) (by kernel_rfl) (by kernel_rfl) rfl hcb (by have := HO.out; omega) (fun w6 hq6 o6 => ?_)
        refine ⟨Stage.late trivial (by kernel_rfl), ?_⟩
        refine wpAnyG_done (by kernel_rfl) ?_ _
        go_simp
        have hrow6 : w6.rowIs gm 29 12 (fun i => if i = l * 3 then (.slice A5 (nm + 1) c5) else rmCell (upd ms l u) (upd lost l (lo + (m - m : Nat))) out i) := ⟨_, hq6, by simp [hcs], fun j hj => by
          show _ = some (if j = l * 3 then (.slice A5 (nm + 1) c5) else rmCell (upd ms l u) (upd lost l (lo + (m - m : Nat))) out j)
          by_cases e : j = l * 3
          · rw [if_pos e, e, ← HO.out, Array.getElem?_setIfInBounds_self_of_lt (by have := HO.out; omega)]
          · rw [if_neg e, Array.getElem?_setIfInBounds_ne (by have := HO.out; omega)]
            exact hcf j hj⟩
        have hrm6 := HM.out.setIn hl HS5.out (fun k hk => ⟨fun e => by have h1 := HNG.out k hk; have h2 := HM.out.lt.1; omega, fun j hj hjl e => HM.out.ap j l k hj hl hjl e (by rw [upd_at, HFM.out]; exact hk)⟩) hown6 (fun k hk => by
          rcases hat5 with e | e
          · left
            rw [upd_at, HFM.out, ← e]
            exact hk
          · right
            rw [e] at hk
            have h1 : ((World.drew wr).alloc (.cells #[.int .u8 z] 5)).heap.size = wr.heap.size + 1 := by simp
            injection hk with hk
            omega) (fun y hy => by
          rw [hnews] at hy
          rcases List.mem_append.1 hy with h | h
          · exact HM.out.wf l hl y (by rw [upd_at]; exact h)
          · obtain rfl : y = z := by simpa using h
            exact ⟨hz0, hz1⟩) hrow6 o6
        rw [upd_upd, upd_upd] at hrm6
        have HM6 := Lib.hid (show RM w6 base gm (upd ms l (.slice A5 (nm + 1) c5)) (upd ins l (b0 ++ zs.take (m + 1))) (upd lost l (lo + (m + 1 - (m + 1) : Nat))) out from by
          rw [show m + 1 - (m + 1) = m - m by omega]
          exact hrm6)
        have HU6 := Lib.hid (show ∀ k, (Value.slice A5 (nm + 1) c5).ownBlock = some k → (ms l).ownBlock = some k ∨ w.heap.size ≤ k from fun k hk => by
          rcases hat5 with e | e
          · rw [e] at hk
            exact HU.out k (by rw [HFM.out]; exact hk)
          · right
            rw [e] at hk
            injection hk with hk
            have h1 : ((World.drew wr).alloc (.cells #[.int .u8 z] 5)).heap.size = wr.heap.size + 1 := by simp
            have h2 := HCG.out.size
            omega)
        have HCG6 := Lib.hid (show Chg (rmset gm (ms l)) w w6 from (HCG.out.trans HS5.out (fun k hk e => by
          rcases HU.out k (by rw [HFM.out]; exact e) with h | h
          · exact .inr h
          · omega)).oneX o6 (.inl (.inl rfl)))
        have HMI6 := Lib.hid (show m + 1 = min (m + 1) room by omega)
        clear hq6 o6 hrow6 hrm6 hown6 hown5 hgr5 hat5 hg5 hnews hnl hcb hcs hcf hb8 hl8 hS0 c0 c1
        go_wp2_with fail
        go_roundw
        case rel =>
          first
            | exact ⟨m + 1, m + 1, _, by omega, HMI6.out, by go_num, by go_num, HM6.out, HU6.out, HCG6.out⟩
            | (repeat apply Exists.intro
               exact ⟨⟨m + 1, m + 1, _, by omega, HMI6.out, by go_num, by go_num, HM6.out, HU6.out, HCG6.out⟩, rfl⟩)
        case measure => simp [intOf]; omega
      · obtain rfl : m = room := by have := HMI.out; omega
        have hnm128 : nm = 128 := by have := HNM.out; have := HRM.out; omega
        have g2 : decide ((nm : Int) < 128) = false := by rw [decide_eq_false_iff_not]; omega
        have g2n : decide (nm < 128) = false := by rw [decide_eq_false_iff_not]; omega
        have o6 := one_setCell wr gm (o + 1) (.int .i64 (lv + 1))
        have HM6 := Lib.hid (show RM (wr.setCell ⟨gm, o + 1, none⟩ (.int .i64 (lv + 1))) base gm (upd ms l u) (upd ins l (b0 ++ zs.take m)) (upd lost l (lo + (i + 1 - m : Nat))) out from by
          have := HM.out.setLost hl (lv + 1)
          rw [upd_upd, ← HO.out] at this
          rw [show lo + ((i + 1 - m : Nat) : Int) = lv + 1 by rw [HLV.out]; omega]
          exact this)
        have HCG6 := Lib.hid (show Chg (rmset gm (ms l)) w (wr.setCell ⟨gm, o + 1, none⟩ (.int .i64 (lv + 1))) from HCG.out.oneX o6 (.inl (.inl rfl)))
        have HMI6 := Lib.hid (show m = min (i + 1) m by omega)
        clear o6 hnm128
        go_wp2_with fail
        go_roundw
        case rel =>
          first
            | exact ⟨i + 1, m, _, by omega, HMI6.out, by go_num, rfl, HM6.out, HU.out, HCG6.out⟩
            | (repeat apply Exists.intro
               exact ⟨⟨i + 1, m, _, by omega, HMI6.out, by go_num, rfl, HM6.out, HU.out, HCG6.out⟩, rfl⟩)
        case measure => simp [intOf]; omega
    · obtain rfl : i = zs.length := by omega
      have HFIN := Lib.hid (show RM wr base gm (upd ms l u) (upd ins l (b0 ++ zs.take room)) (upd lost l (lo + (zs.length - min zs.length room : Nat))) out from by
        have h1 := HM.out
        rw [HMI.out] at h1
        rw [show zs.take room = zs.take (min zs.length room) from by
          rcases Nat.le_total zs.length room with h | h
          · rw [Nat.min_eq_left h, List.take_of_length_le h, List.take_length]
          · rw [Nat.min_eq_right h]]
        exact h1)
      have HM2 := Lib.hid HMI.out
      go_wp2_with fail
      go_ret
      exact ⟨by rw [← HM2.out]; rfl, ⟨_, HFIN.out, HU.out⟩, HCG.out⟩

end
end Go.Proofs.Ytmieioaklgdbdaa
