/- Bits: a map on a fresh log, as a function of its bits; Awake. -/
import Derived.Test.YtonfnlohbgbffaaBitE
set_option linter.unusedVariables false
set_option linter.unusedSimpArgs false
namespace Go.Proofs.Ytonfnlohbgbffaa
open Go.RowKit
open Go.Maps (Keyed)

/-- What a formatted disk of noughts holds. -/
def freshD (first : Nat) : Nat → Nat → Nat := setBlk (fun _ _ => 0) first (headB [])
/-- A transaction of a fresh disk of 40 blocks. -/
structure FT (W w : World) (gd gb gl gt gm : Nat) (F : Int → Option (Nat → Nat)) : Prop where
  tx : TX w gd gb gl gt gm 40 0 F 0 (freshD 0) (-1) false
  bl : Below W.heap.size W w
  lo : W.heap.size ≤ gd ∧ W.heap.size ≤ gb ∧ W.heap.size ≤ gl ∧ W.heap.size ≤ gt ∧ W.heap.size ≤ gm
theorem FT.keep {W w w' : World} {gd gb gl gt gm : Nat} {F : Int → Option (Nat → Nat)} (h : FT W w gd gb gl gt gm F) (hb : Below w.heap.size w w') : FT W w' gd gb gl gt gm F := ⟨h.tx.keep hb, h.bl.trans (hb.mono h.bl.size), h.lo⟩
def BegunPost (w : World) (e : Ending) (w' : World) : Prop := ∃ gd gb gl gt gm, e = .returned (.tuple #[.pointer (some ⟨gd, 0, none⟩), .pointer (some ⟨gt, 0, none⟩)]) ∧ FT w w' gd gb gl gt gm (fun _ => none)
set_option maxRecDepth 10000 in
set_option maxHeartbeats 1000000 in
theorem begun_in (w : World) : Calls Try.prog 23 #[.int .i64 40] w (BegunPost w) := by
  go_enter Try.func23, Try.ntmps23
  go_wp2_with fail
  refine (dxNew 40 (by omega) w).mono ?_
  rintro e w1 ⟨gd, gb, rfl, hd1, hl1, hl2, hb1⟩
  go_wp2_with fail
  refine (walOpen_ok hd1 0 (by omega)).mono ?_
  rintro e w2 ⟨gl, rfl, hx2, hl3, hb2⟩
  go_wp2_with fail
  refine (walFormat_ok hx2 rfl (by omega)).mono ?_
  rintro e w3 ⟨rfl, hx3, hc3⟩
  rw [show (if (0 : Int) < -1 then (-1 : Int) - 1 else -1) = -1 by decide] at hx3
  go_wp2_with fail
  refine (walBegin_ok hx3).mono ?_
  rintro e w4 ⟨gt, gm, rfl, ht4, hl4, hl5, hb4⟩
  go_wp2_with fail
  go_ret2
  have e2 : Below w.heap.size w w2 := hb1.trans (hb2.mono hb1.size)
  have e3 : Below w.heap.size w w3 := Chg.go e2 hc3 (fun k hk => by rcases hk with rfl | rfl <;> assumption) e2.size
  have e4 : Below w.heap.size w w4 := e3.trans (hb4.mono e3.size)
  exact ⟨gd, gb, gl, gt, gm, rfl, ht4, e4, hl1, hl2, Nat.le_trans hb1.size hl3, Nat.le_trans e3.size hl4, Nat.le_trans e3.size hl5⟩

/-- A map of bits on it: just those of B are set. -/
structure BK (W w : World) (gd gb gl gt gm g first many : Nat) (B : Nat → Bool) : Prop where
  ex : ∃ F, BX w gd gb gl gt gm g 40 0 first many F 0 (freshD 0) (-1) false ∧ (∀ i, bitV (viewB F (freshD 0)) first i = B i) ∧ ∀ k, F k ≠ none → (first : Int) ≤ k ∧ k < first + 3
  bl : Below W.heap.size W w
  lo : W.heap.size ≤ gd ∧ W.heap.size ≤ gb ∧ W.heap.size ≤ gl ∧ W.heap.size ≤ gt ∧ W.heap.size ≤ gm ∧ W.heap.size ≤ g
  h3 : 31 ≤ first
  hm : many ≤ 1536
  hf : ∀ i, i < many → first + i / 512 < 40
section
variable {W w w' : World} {gd gb gl gt gm g first many : Nat} {B : Nat → Bool}
theorem BK.keep (h : BK W w gd gb gl gt gm g first many B) (hb : Below w.heap.size w w') : BK W w' gd gb gl gt gm g first many B := by
  obtain ⟨F, h1, h2, h3⟩ := h.ex
  exact ⟨⟨F, h1.keep hb, h2, h3⟩, h.bl.trans (hb.mono h.bl.size), h.lo, h.h3, h.hm, h.hf⟩
theorem BK.lt (h : BK W w gd gb gl gt gm g first many B) : gd < w.heap.size ∧ gb < w.heap.size ∧ gl < w.heap.size ∧ gt < w.heap.size ∧ gm < w.heap.size ∧ g < w.heap.size := by
  obtain ⟨F, h1, _⟩ := h.ex
  have := h1.tx.lt
  exact ⟨this.1, this.2.1, this.2.2.1, this.2.2.2.1, this.2.2.2.2, h1.lt⟩
theorem BK.congr (h : BK W w gd gb gl gt gm g first many B) {C : Nat → Bool} (hc : ∀ i, B i = C i) : BK W w gd gb gl gt gm g first many C := by rw [← funext hc]; exact h
theorem freshD_zero (k : Nat) (h : 0 < k) : freshD 0 k = fun _ => 0 := by
  unfold freshD setBlk; rw [if_neg (by omega)]
theorem bit_fresh (first : Nat) (h : 31 ≤ first) (i : Nat) : bitV (viewB (fun _ => none) (freshD 0)) first i = false := by
  unfold bitV viewB
  simp only [Option.getD_none]
  rw [freshD_zero _ (by omega)]
  simp
theorem few_keys {F : Int → Option (Nat → Nat)} {P : Program} {t : TypeId} {kv : Int → Value} {vv : (Nat → Nat) → Value} (h : MK w P t gm kv vv F) (hk : ∀ k, F k ≠ none → (first : Int) ≤ k ∧ k < first + 3) : mapN w gm ≠ 30 := by
  have := h.len_le [(first : Int), first + 1, first + 2] (fun a ha => by
    have := hk a ha
    simp only [List.mem_cons, List.not_mem_nil, or_false]
    omega)
  simp at this
  omega
def BkNew (W : World) (gd gb gl gt gm first many : Nat) (e : Ending) (w' : World) : Prop := ∃ g, e = .returned (.tuple #[.pointer (some ⟨g, 0, none⟩), .int .i64 0]) ∧ BK W w' gd gb gl gt gm g first many (fun _ => false)
theorem bkNew (h : FT W w gd gb gl gt gm (fun _ => none)) (first many : Nat) (h3 : 31 ≤ first) (hm : many ≤ 1536) (hf : ∀ i, i < many → first + i / 512 < 40) (hf2 : first ≤ 65536) :
    Calls Try.prog 24 #[.pointer (some ⟨gt, 0, none⟩), .int .i64 first, .int .i64 many] w (BkNew W gd gb gl gt gm first many) := by
  refine (bitsNew_ok gt first many hf2 (by omega) w).mono ?_
  rintro e w' ⟨g, rfl, hr, hl, hb⟩
  exact ⟨g, rfl, ⟨⟨_, ⟨h.tx.keep hb, hr, hf2, by omega⟩, bit_fresh first h3, fun k hk => absurd rfl hk⟩, h.bl.trans (hb.mono h.bl.size), ⟨h.lo.1, h.lo.2.1, h.lo.2.2.1, h.lo.2.2.2.1, h.lo.2.2.2.2, Nat.le_trans h.bl.size hl⟩, h3, hm, hf⟩⟩
def setBit (B : Nat → Bool) (i : Nat) (on : Bool) : Nat → Bool := fun j => if j = i then on else B j
theorem bkSet (h : BK W w gd gb gl gt gm g first many B) (i : Nat) (hi : i < many) (on : Bool) :
    Calls Try.prog 25 #[.pointer (some ⟨g, 0, none⟩), .int .i64 i, .bool on] w fun e w' => e = .returned (.int .i64 0) ∧ BK W w' gd gb gl gt gm g first many (setBit B i on) ∧ Chg (sset gd gb gm) w w' := by
  obtain ⟨F, h1, h2, h3⟩ := h.ex
  have hm := h.hm
  have h31 := h.h3
  refine (bitsSet_ok h1 i hi (h.hf i hi) (.inr (by omega)) (.inr (few_keys h1.tx.mp.mp h3)) on).mono ?_
  rintro e w' ⟨rfl, hx, hc⟩
  refine ⟨rfl, ⟨⟨_, hx, fun j => ?_, fun k hk => ?_⟩, Chg.go h.bl hc (fun k hk => by rcases hk with (rfl | rfl) | rfl; exact h.lo.1; exact h.lo.2.1; exact h.lo.2.2.2.2.1) h.bl.size, h.lo, h.h3, h.hm, h.hf⟩, hc⟩
  · rw [bitV_set]
    unfold setBit
    rw [h2]
  · unfold setFn at hk
    split at hk
    · exact h3 k hk
    · unfold putF at hk
      split at hk
      · rename_i e; omega
      · exact h3 k hk
theorem BK.chg (h : BK W w gd gb gl gt gm g first many B) {F : Int → Option (Nat → Nat)} (hx : BX w' gd gb gl gt gm g 40 0 first many F 0 (freshD 0) (-1) false) (hc : Chg (dset gd gb) w w')
    (h2 : ∀ i, bitV (viewB F (freshD 0)) first i = B i) (h3 : ∀ k, F k ≠ none → (first : Int) ≤ k ∧ k < first + 3) : BK W w' gd gb gl gt gm g first many B :=
  ⟨⟨F, hx, h2, h3⟩, Chg.go h.bl hc (fun k hk => by rcases hk with rfl | rfl; exact h.lo.1; exact h.lo.2.1) h.bl.size, h.lo, h.h3, h.hm, h.hf⟩
theorem bkHas (h : BK W w gd gb gl gt gm g first many B) (i : Nat) (hi : i < many) :
    Calls Try.prog 30 #[.pointer (some ⟨g, 0, none⟩), .int .i64 i] w fun e w' => e = .returned (.tuple #[.bool (B i), .int .i64 0]) ∧ BK W w' gd gb gl gt gm g first many B ∧ Chg (sset gd gb gm) w w' := by
  obtain ⟨F, h1, h2, h3⟩ := h.ex
  refine (bitsHas_ok h1 i hi (h.hf i hi)).mono ?_
  rintro e w' ⟨rfl, hx, hc⟩
  rw [h2]
  exact ⟨rfl, h.chg hx hc h2 h3, hc.mono (fun _ _ h => .inl h)⟩
theorem bkHas_range (h : BK W w gd gb gl gt gm g first many B) (x : Int) (hx : x < 0 ∨ (many : Int) ≤ x) :
    Calls Try.prog 30 #[.pointer (some ⟨g, 0, none⟩), .int .i64 x] w fun e w' => e = .returned (.tuple #[.bool false, .int .i64 27]) ∧ w' = w := by
  obtain ⟨F, h1, h2, h3⟩ := h.ex
  exact bitsHas_range h1 x hx
theorem bkSet_range (h : BK W w gd gb gl gt gm g first many B) (x : Int) (hx : x < 0 ∨ (many : Int) ≤ x) (on : Bool) :
    Calls Try.prog 25 #[.pointer (some ⟨g, 0, none⟩), .int .i64 x, .bool on] w fun e w' => e = .returned (.int .i64 27) ∧ w' = w := by
  obtain ⟨F, h1, h2, h3⟩ := h.ex
  exact bitsSet_range h1 x hx on
def BkFree (W w : World) (gd gb gl gt gm g first many : Nat) (B : Nat → Bool) (e : Ending) (w' : World) : Prop := ∃ r : Int, FreeR B many r ∧ e = .returned (.tuple #[.int .i64 r, .int .i64 0]) ∧ BK W w' gd gb gl gt gm g first many B ∧ Chg (sset gd gb gm) w w'
theorem bkFree (h : BK W w gd gb gl gt gm g first many B) : Calls Try.prog 28 #[.pointer (some ⟨g, 0, none⟩)] w (BkFree W w gd gb gl gt gm g first many B) := by
  obtain ⟨F, h1, h2, h3⟩ := h.ex
  refine (bitsFree_ok h1 (fun k hk => by have := h.hf (512 * k) hk; omega)).mono ?_
  rintro e w' ⟨r, hr, rfl, hx, hc⟩
  rw [show bitV (viewB F (freshD 0)) first = B from funext h2] at hr
  exact ⟨r, hr, rfl, h.chg hx hc h2 h3, hc.mono (fun _ _ h => .inl h)⟩
theorem bkCount (h : BK W w gd gb gl gt gm g first many B) : Calls Try.prog 29 #[.pointer (some ⟨g, 0, none⟩)] w fun e w' => e = .returned (.tuple #[.int .i64 (cntB B many : Nat), .int .i64 0]) ∧ BK W w' gd gb gl gt gm g first many B ∧ Chg (sset gd gb gm) w w' := by
  obtain ⟨F, h1, h2, h3⟩ := h.ex
  refine (bitsCount_ok h1 (fun k hk => by have := h.hf (512 * k) hk; omega)).mono ?_
  rintro e w' ⟨rfl, hx, hc⟩
  rw [show bitV (viewB F (freshD 0)) first = B from funext h2]
  exact ⟨rfl, h.chg hx hc h2 h3, hc.mono (fun _ _ h => .inl h)⟩
def BkList (W w : World) (base : Nat) (gd gb gl gt gm g first many : Nat) (B : Nat → Bool) (e : Ending) (w' : World) : Prop := ∃ v, e = .returned (.tuple #[v, .int .i64 0]) ∧ OwnN w' base v (setL B many) ∧ BK W w' gd gb gl gt gm g first many B ∧ Chg (sset gd gb gm) w w'
theorem bkList (h : BK W w gd gb gl gt gm g first many B) : Calls Try.prog 31 #[.pointer (some ⟨g, 0, none⟩)] w (BkList W w w.heap.size gd gb gl gt gm g first many B) := by
  obtain ⟨F, h1, h2, h3⟩ := h.ex
  refine (bitsList_ok h1 h.hf).mono ?_
  rintro e w' ⟨v, rfl, ho, hx, hc⟩
  rw [show bitV (viewB F (freshD 0)) first = B from funext h2] at ho
  exact ⟨v, rfl, ho, h.chg hx hc h2 h3, hc.mono (fun _ _ h => .inl h)⟩
end
set_option maxRecDepth 10000 in
set_option maxHeartbeats 2000000 in
theorem bitsAwake_in (w : World) : Calls Try.prog 22 #[] w fun e w' => e = .returned (.bool true) ∧ Below w.heap.size w w' := by
  go_enter Try.func22, Try.ntmps22
  go_wp2_with fail
  refine (begun_in w).mono ?_
  rintro e w1 ⟨gd, gb, gl, gt, gm, rfl, ht1⟩
  go_wp2_with fail
  refine (bkNew ht1 35 8 (by omega) (by omega) (fun i hi => by omega) (by omega)).mono ?_
  rintro e w2 ⟨g, rfl, hk2⟩
  have HK2 := Lib.hid hk2
  clear hk2 ht1
  go_wp2_with fail
  go_loopw [22] (fun r wx => ∃ k : Nat, k ≤ 3 ∧ r = .int .i64 k ∧ BK w wx gd gb gl gt gm g 35 8 (fun j => decide ((j = 0 ∧ 0 < k) ∨ (j = 1 ∧ 1 < k) ∨ (j = 3 ∧ 2 < k))) ∧ wx.heap[w2.heap.size]? = some (.cells #[.int .i64 0, .int .i64 1, .int .i64 3] 3 (0, 0))) (fun r _ => 3 - (intOf r).toNat)
  case atStart => exact ⟨0, by omega, rfl, (HK2.out.keep (bnew _ _)).congr (fun i => by simp), heap_alloc_last w2 _⟩
  case round =>
    obtain ⟨k, hk, rfl, hbk, hlit⟩ := hrel
    have HBK := Lib.hid hbk
    have HLIT := Lib.hid hlit
    have HLT := Lib.hid HK2.out.lt
    have hc := rowcell hlit
    clear hbk hlit
    have hk3 : k = 0 ∨ k = 1 ∨ k = 2 ∨ k = 3 := by omega
    rcases hk3 with rfl | rfl | rfl | rfl
    case inr.inr.inr =>
      go_wp2_with fail
      refine (bkFree HBK.out).mono ?_
      rintro e w3 ⟨r, hr, rfl, hk4, hc4⟩
      have HK4 := Lib.hid hk4
      have hr2 : r = 2 := by
        rcases hr with ⟨rfl, h⟩ | ⟨i, rfl, h1, h2, h3⟩
        · have := h 2 (by omega); simp at this
        · have e : i = 2 := by
            rcases Nat.lt_trichotomy i 2 with h | h | h
            · have h4 : i = 0 ∨ i = 1 := by omega
              rcases h4 with rfl | rfl <;> simp at h2
            · exact h
            · have := h3 2 h; simp at this
          rw [e]; rfl
      subst hr2
      clear hr hk4 hc4 hc
      go_wp2_with fail
      refine (bkCount HK4.out).mono ?_
      rintro e w5 ⟨rfl, hk5, hc5⟩
      rw [show cntB (fun j => decide ((j = 0 ∧ 0 < 3) ∨ (j = 1 ∧ 1 < 3) ∨ (j = 3 ∧ 2 < 3))) 8 = 3 by decide]
      have HK5 := Lib.hid hk5
      clear hk5 hc5
      go_wp2_with fail
      go_ret
      exact ⟨rfl, HK5.out.bl⟩
    case inl =>
      go_wp2_with fail
      refine (bkSet HBK.out 0 (by omega) true).mono ?_
      rintro e w3 ⟨rfl, hk4, hc4⟩
      have HK4 := Lib.hid hk4
      have HL4 := Lib.hid (hc4.blk HLIT.out (fun e => by have := HLT.out; rcases e with (e | e) | e <;> omega))
      clear hk4 hc4 hc
      go_wp2_with fail
      go_roundw
      case rel => exact ⟨1, by omega, rfl, HK4.out.congr (fun i => by
        unfold setBit
        by_cases h0 : i = 0
        · subst h0; simp
        by_cases h1 : i = 1
        · subst h1; simp
        by_cases h3 : i = 3
        · subst h3; simp
        simp [h0, h1, h3]), HL4.out⟩
      case measure => simp [intOf]
    case inr.inl =>
      go_wp2_with fail
      refine (bkSet HBK.out 1 (by omega) true).mono ?_
      rintro e w3 ⟨rfl, hk4, hc4⟩
      have HK4 := Lib.hid hk4
      have HL4 := Lib.hid (hc4.blk HLIT.out (fun e => by have := HLT.out; rcases e with (e | e) | e <;> omega))
      clear hk4 hc4 hc
      go_wp2_with fail
      go_roundw
      case rel => exact ⟨2, by omega, rfl, HK4.out.congr (fun i => by
        unfold setBit
        by_cases h0 : i = 0
        · subst h0; simp
        by_cases h1 : i = 1
        · subst h1; simp
        by_cases h3 : i = 3
        · subst h3; simp
        simp [h0, h1, h3]), HL4.out⟩
      case measure => simp [intOf]
    case inr.inr.inl =>
      go_wp2_with fail
      refine (bkSet HBK.out 3 (by omega) true).mono ?_
      rintro e w3 ⟨rfl, hk4, hc4⟩
      have HK4 := Lib.hid hk4
      have HL4 := Lib.hid (hc4.blk HLIT.out (fun e => by have := HLT.out; rcases e with (e | e) | e <;> omega))
      clear hk4 hc4 hc
      go_wp2_with fail
      go_roundw
      case rel => exact ⟨3, by omega, rfl, HK4.out.congr (fun i => by
        unfold setBit
        by_cases h0 : i = 0
        · subst h0; simp
        by_cases h1 : i = 1
        · subst h1; simp
        by_cases h3 : i = 3
        · subst h3; simp
        simp [h0, h1, h3]), HL4.out⟩
      case measure => simp [intOf]
end Go.Proofs.Ytonfnlohbgbffaa
