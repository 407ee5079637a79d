/- Bits: List. -/
import Derived.Test.YtonfnlohbgbffaaBitD
import Derived.Test.YtonfnlohbgbffaaInts
set_option linter.unusedVariables false
set_option linter.unusedSimpArgs false
namespace Go.Proofs.Ytonfnlohbgbffaa
open Go.RowKit
open Go.Maps (Keyed)

/-- Those of the first n that are set. -/
def setL (B : Nat → Bool) (n : Nat) : List Nat := (List.range n).filter B
theorem setL_next (B : Nat → Bool) (n : Nat) : setL B (n + 1) = setL B n ++ (if B n then [n] else []) := by
  unfold setL
  rw [List.range_succ, List.filter_append]
  cases h : B n <;> simp [List.filter_cons, h]
theorem setL_len (B : Nat → Bool) (n : Nat) : (setL B n).length ≤ n := Nat.le_trans (List.length_filter_le _ _) (by simp)
theorem setL_lt (B : Nat → Bool) (n : Nat) : ∀ c ∈ setL B n, c < n := fun c hc => List.mem_range.1 (List.mem_filter.1 hc).1
section
variable {W w w' : World} {gd gb gl gt gm n lf first many g : Nat} {F : Int → Option (Nat → Nat)} {bad : Int} {D : Nat → Nat → Nat} {left : Int} {dead : Bool}
def ListPost (w : World) (gd gb gl gt gm g n lf first many : Nat) (F : Int → Option (Nat → Nat)) (bad : Int) (D : Nat → Nat → Nat) (left : Int) (dead : Bool) (e : Ending) (w' : World) : Prop :=
  ∃ v, e = .returned (.tuple #[v, .int .i64 0]) ∧ OwnN w' w.heap.size v (setL (bitV (viewB F D) first) many) ∧ BX w' gd gb gl gt gm g n lf first many F bad D left dead ∧ Chg (dset gd gb) w w'
set_option maxRecDepth 100000 in
set_option maxHeartbeats 4000000 in
theorem bitsList_ok (h : BX w gd gb gl gt gm g n lf first many F bad D left dead) (hn : ∀ i, i < many → first + i / 512 < n) :
    Calls Try.prog 31 #[.pointer (some ⟨g, 0, none⟩)] w (ListPost w gd gb gl gt gm g n lf first many F bad D left dead) := by
  have H := Lib.hid h
  have HN := Lib.hid hn
  have hm := h.h2
  have c2 := h.c2
  obtain ⟨sl, hsl⟩ : ∃ c, c = setL (bitV (viewB F D) first) := ⟨_, rfl⟩
  have HSL := Lib.hid hsl
  have HLN := Lib.hid (show ∀ k, (sl k).length ≤ k from fun k => by rw [hsl]; exact setL_len _ _)
  have HLO := Lib.hid h.tx.lt
  clear h hn hsl
  go_enter Try.func31, Try.ntmps31
  go_wp2_with fail
  go_loopw [4, 14] (fun v r wx => ∃ i : Nat, i ≤ many ∧ r = .int .i64 i ∧ OwnN wx w.heap.size v (sl i) ∧ BX wx gd gb gl gt gm g n lf first many F bad D left dead ∧ Chg (dset gd gb) w wx) (fun _ r _ => many - (intOf r).toNat)
  case atStart => exact ⟨0, by omega, rfl, by rw [HSL.out]; exact OwnN.nil _ _, H.out, Chg.refl _ _⟩
  case round =>
    obtain ⟨i, hi, rfl, hown, hbx, hcg⟩ := hrel
    obtain ⟨A, c0, hform⟩ := hown.form
    subst hform
    have HOWN := Lib.hid hown
    have HBX := Lib.hid hbx
    have HCG := Lib.hid hcg
    clear hown hbx hcg c2
    by_cases him : i < many
    · have f1 : (i : Int) < many := by omega
      have hnx := setL_next (bitV (viewB F D) first) i
      rw [← HSL.out] at hnx
      have hln := HLN.out i
      obtain ⟨l0, hl0⟩ : ∃ l, l = sl i := ⟨_, rfl⟩
      rw [← hl0] at hnx hln HOWN ⊢
      have HL0 := Lib.hid hl0
      clear hl0
      go_wp2_with fail
      refine (bitsHas_ok HBX.out i him (HN.out i him)).mono ?_
      rintro e w2 ⟨rfl, hbx2, hc2⟩
      have HBX2 := Lib.hid hbx2
      have HCG2 := Lib.hid (HCG.out.trans hc2 (fun _ _ h => h))
      have HOWN2 := Lib.hid (HOWN.out.chg hc2 (fun k hk e => by have := HLO.out; rcases e with e | e <;> omega))
      clear hbx2 hc2
      cases hb : bitV (viewB F D) first i
      · rw [hb] at hnx
        simp only [Bool.false_eq_true, if_false, List.append_nil] at hnx
        have HNX := Lib.hid hnx
        clear hnx hb
        go_wp2_with fail
        go_roundw
        case rel => exact ⟨i + 1, by omega, by go_num, by rw [HNX.out]; exact HOWN2.out, HBX2.out, HCG2.out⟩
        case measure => simp [intOf]; omega
      · rw [hb] at hnx
        simp only [if_true] at hnx
        have HNX := Lib.hid hnx
        clear hnx hb
        go_wp2_with (with_reducible refine wpList_stop (some 29) rfl ?_)
        refine Lib.hid ?_
        refine wpList_lit_int rfl (.tmp 28) rfl (some 29) rfl (i : Int) (by go_simp) ?_
        intro w3 u hu hb3
        have HBX3 := Lib.hid (HBX2.out.keep hb3)
        have HCG3 := Lib.hid (HCG2.out.next hb3)
        have HOWN3 := Lib.hid (HOWN2.out.keep hb3)
        refine wpList_add_int rfl (.tmp 27) (.tmp 29) rfl (some 30) rfl w.heap.size (.slice A l0.length c0) u l0 i (by go_simp) (by go_simp) HOWN3.out hu (by omega) HCG3.out.size ?_
        intro v4 w4 ho4 o4
        obtain ⟨A4, c4, hform4⟩ := ho4.form
        subst hform4
        rw [show (l0 ++ [i]).length = l0.length + 1 by simp] at ho4 ⊢
        have HOWN4 := Lib.hid ho4
        have HOB := Lib.hid (show ∀ x, (Value.slice A l0.length c0).ownBlock = some x → w.heap.size ≤ x from fun x hx => (HOWN3.out.lt x hx).1)
        have HCG4 := Lib.hid (HCG3.out.oneO o4 (fun x hx => .inr (HOB.out x hx)))
        have hbx4 : BX w4 gd gb gl gt gm g n lf first many F bad D left dead := by
          have h3 := HBX3.out
          have hl := HLO.out
          have hg := H.out.lt
          have hk : ∀ b, b < w.heap.size → w4.heap[b]? = w3.heap[b]? := fun b hb => o4.block b (Nat.lt_of_lt_of_le hb HCG3.out.size) (fun e => by have := HOB.out b e; omega)
          exact ⟨⟨⟨h3.tx.lx.dx.keepAt (hk _ hl.1) (hk _ hl.2.1), h3.tx.lx.lg.of_block (hk _ hl.2.2.1), h3.tx.lx.fit⟩, h3.tx.tx.of_block (hk _ hl.2.2.2.1), h3.tx.mp.keepAt (hk _ hl.2.2.2.2), h3.tx.ok⟩, h3.bm.of_block (hk _ hg), h3.h1, h3.h2⟩
        have HBX4 := Lib.hid hbx4
        clear hu hb3 ho4 o4 hbx4
        go_wp2_with fail
        go_roundw
        case rel => exact ⟨i + 1, by omega, by go_num, by rw [HNX.out]; exact HOWN4.out, HBX4.out, HCG4.out⟩
        case measure => simp [intOf]; omega
    · obtain rfl : i = many := by omega
      go_wp2_with fail
      go_ret2
      exact ⟨_, rfl, by rw [← HSL.out]; exact HOWN.out, HBX.out, HCG.out⟩
end
end Go.Proofs.Ytonfnlohbgbffaa
