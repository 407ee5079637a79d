/- Bits: BitsFill. -/
import Derived.Test.YtonfnlohbgbffaaBitF
set_option linter.unusedVariables false
set_option linter.unusedSimpArgs false
namespace Go.Proofs.Ytonfnlohbgbffaa
open Go.RowKit
open Go.Maps (Keyed)

def boolV (b : Bool) : Value := .bool b
theorem bool_z : (Try.prog.info? 4).bind (·.zero) = some (.bool false) := by kernel_rfl
/-- The map of what is taken. -/
def takenF (n : Nat) (B : Nat → Bool) (x : Int) : Option Bool := if 0 ≤ x ∧ x < n ∧ B x.toNat = true then some true else none
theorem takenF_put (n : Nat) (B : Nat → Bool) (i : Nat) (hi : i < n) (x : Int) : putF (takenF n B) (i : Int) true x = takenF n (setBit B i true) x := by
  unfold putF takenF setBit
  by_cases h : x = i
  · subst h
    rw [if_pos rfl, if_pos ⟨by omega, by omega, by simp⟩]
  · rw [if_neg h]
    by_cases h2 : 0 ≤ x
    · rw [if_neg (show ¬ x.toNat = i by omega)]
    · rw [if_neg (fun e => h2 e.1), if_neg (fun e => h2 e.1)]
theorem taken_yes {n : Nat} {B : Nat → Bool} (i : Nat) (hi : i < n) (h : B i = true) : takenF n B i = some true := if_pos ⟨by omega, by omega, by simpa using h⟩
theorem taken_no {n : Nat} {B : Nat → Bool} (i : Nat) (h : B i = false) : takenF n B i = none := if_neg (fun e => by have := e.2.2; simp [h] at this)
theorem MB.congr {κ α : Type} {P : Program} {k : TypeId} {w : World} {g : Nat} {kv : κ → Value} {vv : α → Value} {F G : κ → Option α} (h : MB w P k g kv vv F) (he : ∀ a, F a = G a) : MB w P k g kv vv G := by rw [← funext he]; exact h
theorem MB.one {κ α : Type} {P : Program} {k : TypeId} {w w' : World} {g : Nat} {kv : κ → Value} {vv : α → Value} {F : κ → Option α} (h : MB w P k g kv vv F) {x : Nat} (o : One w w' (some x)) (hx : x ≠ g) : MB w' P k g kv vv F := h.keepAt (o.block g h.mp.lt (fun e => hx (by cases e; rfl)))
theorem MB.chg {κ α : Type} {P : Program} {k : TypeId} {w w' : World} {g : Nat} {kv : κ → Value} {vv : α → Value} {F : κ → Option α} (h : MB w P k g kv vv F) {S : Nat → Prop} (c : Chg S w w') (hx : ¬ S g) : MB w' P k g kv vv F := h.keepAt (c.block g h.mp.lt hx)
theorem MB.made {κ α : Type} {P : Program} {k : TypeId} {kv : κ → Value} {vv : α → Value} (w : World) : MB (w.alloc (.map #[] 0)) P k w.heap.size kv vv (fun _ : κ => (none : Option α)) := ⟨MK.made w, BN.made w⟩
theorem BK.one {W w w' : World} {gd gb gl gt gm g first many : Nat} {B : Nat → Bool} (h : BK W w gd gb gl gt gm g first many B) {x : Nat} (o : One w w' (some x)) (hx : x ≠ gd ∧ x ≠ gb ∧ x ≠ gl ∧ x ≠ gt ∧ x ≠ gm ∧ x ≠ g) (hW : W.heap.size ≤ x) : BK W w' gd gb gl gt gm g first many B := by
  obtain ⟨F, h1, h2, h3⟩ := h.ex
  exact ⟨⟨F, ⟨h1.tx.one o ⟨hx.1, hx.2.1, hx.2.2.1, hx.2.2.2.1, hx.2.2.2.2.1⟩, rowIs_one h1.bm o hx.2.2.2.2.2.symm, h1.h1, h1.h2⟩, h2, h3⟩, bone h.bl o hW h.bl.size, h.lo, h.h3, h.hm, h.hf⟩
theorem BK.notMap {W w : World} {gd gb gl gt gm g first many : Nat} {B : Nat → Bool} (h : BK W w gd gb gl gt gm g first many B) {κ α : Type} {P : Program} {k : TypeId} {q : Nat} {kv : κ → Value} {vv : α → Value} {F : κ → Option α} (hm : MB w P k q kv vv F) (hne : q ≠ gm) :
    (q ≠ gd ∧ q ≠ gb ∧ q ≠ gl ∧ q ≠ gt ∧ q ≠ gm ∧ q ≠ g) ∧ ¬ sset gd gb gm q := by
  obtain ⟨F, h1, h2, h3⟩ := h.ex
  obtain ⟨f, hf⟩ := h1.tx.lx.dx.blk
  obtain ⟨g', hg'⟩ := h1.tx.lx.dx.obj
  have e1 := (hm.notCells hg').symm
  have e2 := (hm.notCells hf).symm
  exact ⟨⟨e1, e2, (hm.notCells h1.tx.lx.lg).symm, (hm.notCells h1.tx.tx).symm, hne, (hm.notCells h1.bm).symm⟩, fun e => by rcases e with (e | e) | e; exact e1 e; exact e2 e; exact hne e⟩
theorem taken_len {w : World} {P : Program} {k : TypeId} {q n : Nat} {B : Nat → Bool} (h : MB w P k q kvI boolV (takenF n B)) : mapN w q = cntB B n := by
  have hk : ∀ a, takenF n B a ≠ none ↔ a ∈ (setL B n).map (fun (j : Nat) => (j : Int)) := fun a => by
    unfold takenF setL
    by_cases ha : 0 ≤ a ∧ a < n ∧ B a.toNat = true
    · rw [if_pos ha]
      refine ⟨fun _ => List.mem_map.2 ⟨a.toNat, List.mem_filter.2 ⟨List.mem_range.2 (by omega), ha.2.2⟩, by omega⟩, fun _ => by simp⟩
    · rw [if_neg ha]
      refine ⟨fun e => absurd rfl e, fun e => ?_⟩
      obtain ⟨j, hj, rfl⟩ := List.mem_map.1 e
      obtain ⟨h1, h2⟩ := List.mem_filter.1 hj
      exact absurd ⟨by omega, by have := List.mem_range.1 h1; omega, by simpa using h2⟩ ha
  have h1 := h.mp.len_le ((setL B n).map (fun (j : Nat) => (j : Int))) (fun a ha => (hk a).1 ha)
  have h2 := h.mp.len_ge kvI_inj ((setL B n).map (fun (j : Nat) => (j : Int))) (by
    unfold List.Nodup
    rw [List.pairwise_map]
    have : (setL B n).Nodup := List.Nodup.sublist List.filter_sublist List.nodup_range
    exact this.imp (fun h e => h (by omega))) (fun a ha => (hk a).2 ha)
  rw [List.length_map] at h1 h2
  unfold cntB
  unfold setL at h1 h2
  omega
theorem cntB_all {B : Nat → Bool} {n : Nat} (h : ∀ i, i < n → B i = true) : cntB B n = n := by
  unfold cntB
  rw [List.filter_eq_self.2 (fun a ha => h a (List.mem_range.1 ha))]
  simp
/-- Bits, and a map of those that are taken. -/
structure FB (W w : World) (gd gb gl gt gm g first n q : Nat) (B C : Nat → Bool) : Prop where
  bk : BK W w gd gb gl gt gm g first n B
  mp : MB w Try.prog 3 q kvI boolV (takenF n C)
  ne : q ≠ gm
  lo : W.heap.size ≤ q
section
variable {W w w' : World} {gd gb gl gt gm g first n q : Nat} {B C : Nat → Bool}
theorem FB.keep (h : FB W w gd gb gl gt gm g first n q B C) (hb : Below w.heap.size w w') : FB W w' gd gb gl gt gm g first n q B C := ⟨h.bk.keep hb, h.mp.keep hb, h.ne, h.lo⟩
theorem FB.setB (h : FB W w gd gb gl gt gm g first n q B C) {B' : Nat → Bool} (hb : BK W w' gd gb gl gt gm g first n B') (c : Chg (sset gd gb gm) w w') : FB W w' gd gb gl gt gm g first n q B' C :=
  ⟨hb, h.mp.chg c (h.bk.notMap h.mp h.ne).2, h.ne, h.lo⟩
theorem FB.setC (h : FB W w gd gb gl gt gm g first n q B C) {C' : Nat → Bool} (o : One w w' (some q)) (hm : MB w' Try.prog 3 q kvI boolV (takenF n C')) : FB W w' gd gb gl gt gm g first n q B C' :=
  ⟨h.bk.one o (h.bk.notMap h.mp h.ne).1 h.lo, hm, h.ne, h.lo⟩
end
set_option maxRecDepth 100000 in
set_option maxHeartbeats 16000000 in
theorem bitsFill_walk (W : World) (v0 v1 : Value) (o0 : Arg Try.prog W 23 v0) (o1 : Arg Try.prog W 40 v1) :
    Calls Try.prog 5 #[v0, v1] W fun e w' => e = .returned (.bool true) ∧ Below W.heap.size W w' := by
  obtain ⟨x, rfl, hx⟩ := Arg.int Try.underlying23 o0
  obtain ⟨zs, hzs⟩ := SI.of_arg Try.underlying40 Try.underlying23 (by kernel_rfl) o1
  have hx2 := wf_u16 hx
  obtain ⟨n, hn⟩ : ∃ n : Nat, (n : Int) = x % 600 := ⟨(x % 600).toNat, by omega⟩
  have hn600 : n < 600 := by omega
  obtain ⟨A, cap, hform, hlc, hcm⟩ := hzs.sr.form
  subst hform
  have HZS := Lib.hid hzs
  have f1 : x % 600 = (n : Int) := hn.symm
  have f2 : x.tmod 600 = (n : Int) := by rw [Int.tmod_eq_emod_of_nonneg (by omega)]; omega
  have hx0 := hx2.1
  have hx1 := hx2.2
  unfold maxLen at hcm
  clear o0 o1 hzs hx hx2 hn
  go_enter Try.func5, Try.ntmps5
  go_wp2_with fail
  refine (bitsAwake_in W).mono ?_
  rintro e w1 ⟨rfl, hb1⟩
  have hmm := @run_makeMap Try.prog
  go_wp2_with fail
  refine (begun_in w1).mono ?_
  rintro e w2 ⟨gd, gb, gl, gt, gm, rfl, ht2⟩
  go_wp2_with fail
  refine (bkNew ht2 33 n (by omega) (by omega) (fun i hi => by omega) (by omega)).mono ?_
  rintro e w3 ⟨g, rfl, hk3⟩
  have hk3' : BK W w3 gd gb gl gt gm g 33 n (fun _ => false) := ⟨hk3.ex, hb1.trans (hk3.bl.mono hb1.size), ⟨Nat.le_trans hb1.size hk3.lo.1, Nat.le_trans hb1.size hk3.lo.2.1, Nat.le_trans hb1.size hk3.lo.2.2.1, Nat.le_trans hb1.size hk3.lo.2.2.2.1, Nat.le_trans hb1.size hk3.lo.2.2.2.2.1, Nat.le_trans hb1.size hk3.lo.2.2.2.2.2⟩, hk3.h3, hk3.hm, hk3.hf⟩
  have hfb : FB W (w3.alloc (.map #[] 0)) gd gb gl gt gm g 33 n w3.heap.size (fun _ => false) (fun _ => false) :=
    ⟨hk3'.keep (bnew _ _), (MB.made w3).congr (fun a => by unfold takenF; simp), (Nat.ne_of_lt hk3'.lt.2.2.2.2.1).symm, hk3'.bl.size⟩
  have HFB := Lib.hid hfb
  clear hk3 hk3' ht2 hb1 hfb
  go_wp2_with fail
  generalize w3.heap.size = q at *
  generalize w3.alloc (.map #[] 0) = w4 at *
  go_loopw [37] (fun r wx => ∃ (k : Nat) (B : Nat → Bool), k ≤ zs.length ∧ r = .int .i64 k ∧ FB W wx gd gb gl gt gm g 33 n q B B) (fun r _ => zs.length - (intOf r).toNat)
  case atStart => exact ⟨0, _, by omega, rfl, HFB.out⟩
  case round =>
    obtain ⟨k, B, hk, rfl, hfb⟩ := hrel
    have HF := Lib.hid hfb
    clear hfb HFB
    by_cases hkl : k < zs.length
    · have g1 : (k : Int) < zs.length := by omega
      rcases (HZS.out.keep HF.out.bk.bl).cases with ⟨h, _⟩ | ⟨_, gz, off, c1, hs, _, _, hg, hc⟩
      · rw [h] at hkl; simp at hkl
      cases hs
      have hcz := hc k hkl
      have hwf := wf_u16 (HZS.out.wf (zs.getD k 0) (by rw [List.getD_eq_getElem?_getD, List.getElem?_eq_getElem hkl]; exact List.getElem_mem hkl))
      obtain ⟨z, hz⟩ : ∃ z : Nat, (z : Int) = zs.getD k 0 := ⟨(zs.getD k 0).toNat, by omega⟩
      rw [← hz] at hcz hwf
      have hz1 := hwf.2
      clear hc hz hwf
      by_cases hput : k < 20 ∧ z < n
      · have g2 : (k : Int) < 20 := by omega
        have g3 : (z : Int) < n := by omega
        have hzn := hput.2
        clear hput
        go_wp2_with fail
        refine (bkSet HF.out.bk z hzn true).mono ?_
        rintro e w5 ⟨rfl, hk5, hc5⟩
        have HF5 := Lib.hid (HF.out.setB hk5 hc5)
        clear hk5 hc5 hcz
        obtain ⟨l, hl⟩ := key_int z (by omega)
        have HK := Lib.hid hl
        clear hl
        go_wp2_with (refine wpList_update_mb (by kernel_rfl) rfl HF5.out.mp keyedInt kvI_inj Try.underlying48 _ _ _ rfl (by go_simp) (z : Int) (by go_simp; rfl) HK.out true (by go_simp; rfl) ?_; intro w6 hm6 o6; have HF6 := Lib.hid (HF5.out.setC o6 (hm6.congr (fun a => takenF_put n B z hzn a))); clear hm6 o6)
        go_roundw
        case rel => exact ⟨k + 1, _, by omega, by go_num, HF6.out⟩
        case measure => simp [intOf]; omega
      · by_cases hk20 : k < 20
        · have g2 : (k : Int) < 20 := by omega
          have g3 : ¬ (z : Int) < n := by omega
          clear hput
          go_wp2_with fail
          go_roundw
          case rel => exact ⟨k + 1, _, by omega, by go_num, HF.out⟩
          case measure => simp [intOf]; omega
        · have g2 : ¬ (k : Int) < 20 := by omega
          clear hput
          go_wp2_with fail
          go_roundw
          case rel => exact ⟨k + 1, _, by omega, by go_num, HF.out⟩
          case measure => simp [intOf]; omega
    · obtain rfl : k = zs.length := by omega
      go_wp2_with fail
      clear HZS
      obtain ⟨wo, hwo⟩ : ∃ wo, wo = wr := ⟨_, rfl⟩
      subst hwo
      go_loopw [13] (fun r wx => ∃ (l : Int) (B : Nat → Bool), -1 ≤ l ∧ l < n ∧ r = .int .i64 l ∧ (∀ j : Nat, (j : Int) ≤ l → B j = true) ∧ FB W wx gd gb gl gt gm g 33 n q B B) (fun r _ => ((n : Int) - intOf r).toNat)
      case atStart => exact ⟨-1, B, by omega, by omega, rfl, fun j hj => by omega, HF.out⟩
      case round =>
        obtain ⟨l, B, hl0, hl1, rfl, hall, hfb⟩ := hrel
        have HF2 := Lib.hid hfb
        have HALL := Lib.hid hall
        clear hfb hall HF
        go_wp2_with fail
        refine (bkFree HF2.out.bk).mono ?_
        rintro e w5 ⟨r, hr, rfl, hk5, hc5⟩
        have HF5 := Lib.hid (HF2.out.setB hk5 hc5)
        clear hk5 hc5
        rcases hr with ⟨rfl, hset⟩ | ⟨i, rfl, hin, hBi, hbef⟩
        · have HCN := Lib.hid (cntB_all hset)
          clear hset
          go_wp2_with fail
          refine (bkCount HF5.out.bk).mono ?_
          rintro e w6 ⟨rfl, hk6, hc6⟩
          rw [HCN.out]
          have HF6 := Lib.hid (HF5.out.setB hk6 hc6)
          have HLN := Lib.hid ((taken_len HF6.out.mp).trans HCN.out)
          clear hk6 hc6
          go_wp2_with (refine wpList_by (v := .int .i64 (n : Nat)) (by kernel_rfl) (some 113) rfl (by rw [← HLN.out]; exact HF6.out.mp.mp.exec_len Try.underlying48 (.tmp 112) rfl (by go_simp)) ?_)
          go_ret
          exact ⟨rfl, HF6.out.bk.bl⟩
        · have g5' : ¬ (i : Int) ≤ l := fun e => by rw [HALL.out i e] at hBi; cases hBi
          have g5 : decide ((i : Int) ≤ l) = false := decide_eq_false g5'
          have HLK := Lib.hid (show lkV boolV (.bool false) false (takenF n B (i : Int)) = .bool false by rw [taken_no i hBi]; rfl)
          have HBEF := Lib.hid hbef
          obtain ⟨ly, hly⟩ := key_int i (by omega)
          have HKY := Lib.hid hly
          obtain ⟨k0, hk0⟩ : ∃ k0 : Nat, (k0 : Int) = l + 1 := ⟨(l + 1).toNat, by omega⟩
          have g6 : l + 1 = (k0 : Int) := hk0.symm
          have hk0i : k0 ≤ i := by omega
          clear hBi hbef hly hk0 g5'
          go_wp2_with (first
            | (refine wpList_lookup_mk (by kernel_rfl) (some 73) rfl HF5.out.mp.mp keyedInt kvI_inj Try.underlying48 bool_z _ _ false rfl (by go_simp) (i : Int) (by go_simp; rfl) HKY.out _ HLK.out ?_)
            | (go_at_call 25; refine (bkSet HF5.out.bk i hin true).mono ?_; rintro e w6 ⟨rfl, hk6, hc6⟩; have HF6 := Lib.hid (HF5.out.setB hk6 hc6); clear hk6 hc6))
          clear g6
          go_loopw [16] (fun r wx => ∃ k : Nat, k ≤ i ∧ r = .int .i64 k ∧ wx = w6) (fun r _ => i - (intOf r).toNat)
          case atStart => exact ⟨k0, hk0i, rfl, rfl⟩
          case round =>
            obtain ⟨k, hki, rfl, rfl⟩ := hrel
            by_cases hk : k < i
            · have g7 : (k : Int) < i := by omega
              have HL2 := Lib.hid (show lkV boolV (.bool false) false (takenF n B (k : Int)) = .bool true by rw [taken_yes k (by omega) (HBEF.out k hk)]; rfl)
              obtain ⟨lz, hlz⟩ := key_int k (by omega)
              have HKZ := Lib.hid hlz
              clear hlz
              go_wp2_with (first
                | (refine wpList_lookup_mk (by kernel_rfl) (some 90) rfl HF6.out.mp.mp keyedInt kvI_inj Try.underlying48 bool_z _ _ false rfl (by go_simp) (k : Int) (by go_simp; rfl) HKZ.out _ HL2.out ?_))
              go_roundw
              case rel => exact ⟨k + 1, by omega, by go_num, trivial⟩
              case measure => simp [intOf]; omega
            · obtain rfl : k = i := by omega
              go_wp2_with (first
                | (refine wpList_update_mb (by kernel_rfl) rfl HF6.out.mp keyedInt kvI_inj Try.underlying48 _ _ _ rfl (by go_simp) (k : Int) (by go_simp; rfl) HKY.out true (by go_simp; rfl) ?_; intro w7 hm7 o7; have HF7 := Lib.hid (HF6.out.setC o7 (hm7.congr (fun a => takenF_put n B k hin a))); clear hm7 o7))
              go_roundw
              case rel => exact ⟨(k : Int), _, by omega, by omega, rfl, fun j hj => by
                unfold setBit
                by_cases e : j = k
                · rw [if_pos e]
                · rw [if_neg e]; exact HBEF.out j (by omega), HF7.out⟩
              case measure => have g8 := of_decide_eq_false g5; simp [intOf]; omega
end Go.Proofs.Ytonfnlohbgbffaa
