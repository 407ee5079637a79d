/- The contract of (*tty.Ttys).Read for a label that there is. -/
import Derived.Test.YtmieioaklgdbdaaTtzA
import Derived.Deep.DeepCutAuto
set_option linter.unusedVariables false
set_option linter.unusedSimpArgs false
namespace Go.Proofs.Ytmieioaklgdbdaa
open Go.RowKit

/-- Does a read end behind byte number i? -/
def ttyStop (n : Int) (b : List Int) (i : Nat) : Prop := b.getD i 0 = 10 ∨ (i : Int) + 1 = n ∨ i + 1 = 128

instance (n : Int) (b : List Int) (i : Nat) : Decidable (ttyStop n b i) := by unfold ttyStop; infer_instance

set_option maxHeartbeats 1000000 in
theorem ttyRead_zero (g : Nat) (l : Int) (hl : 0 ≤ l ∧ l < 64) (w : World) : Calls Try.prog 6 #[.pointer (some ⟨g, 0, none⟩), .int .i64 l, .int .i64 0] w fun e w' => e = .returned (.tuple #[.slice none 0 0, .int .i64 0]) ∧ w' = w := by
  go_enter Try.func6, Try.ntmps6
  go_wp2_with (go_at_call 12; refine (ttyHas_any _ _).mono ?_; rintro e w1 ⟨rfl, rfl⟩; rw [decide_eq_true hl])
  go_ret2
  exact ⟨rfl, rfl⟩

theorem own_cell {w : World} {base : Nat} {v : Value} {zs : List Int} (h : w.ownsRow base 5 1 v zs.length (zs.map (.int .u8))) : ∃ ad c, v = .slice ad zs.length c ∧ zs.length ≤ c ∧ c ≤ maxLen ∧ (0 < zs.length → ∃ b, ad = some ⟨b, 0, none⟩ ∧ b < w.heap.size) ∧
    ∀ b, ad = some ⟨b, 0, none⟩ → ∀ i, i < zs.length → w.cell? ⟨b, i, none⟩ = some (.int .u8 (zs.getD i 0)) := by
  rcases h.2 with ⟨h1, h2⟩ | ⟨g0, c0, cur, rfl, h1, h2, h3, h4, h5, h6⟩
  · refine ⟨none, 0, by rw [h1, h2], by omega, by simp [maxLen], by omega, by intro b h; cases h⟩
  · refine ⟨_, c0, rfl, h3, h4, fun _ => ⟨g0, rfl, rowlt h2⟩, ?_⟩
    intro b hb i hi
    cases hb
    have := h.cells (g := g0) rfl i (.int .u8 (zs.getD i 0)) (by simp [List.getElem?_map, List.getElem?_eq_getElem hi, List.getD_eq_getElem?_getD])
    have e4 : (⟨g0, 0, none⟩ : Addr).add i = ⟨g0, i, none⟩ := by unfold Addr.add; split <;> simp_all
    rwa [e4] at this

set_option maxHeartbeats 4000000 in
theorem ttyRead_wait (l : Nat) (hl : l < 64) (n : Int) (hn : 0 < n) (base g : Nat) (vs : Nat → Value) (ins : Nat → List Int) (lost out : Nat → Int) (w : World)
    (ht : TT w base g vs ins lost out) (hs : ∀ i, i < (ins l).length → ¬ ttyStop n (ins l) i) :
    Calls Try.prog 6 #[.pointer (some ⟨g, 0, none⟩), .int .i64 l, .int .i64 n] w fun e w' =>
      e = .returned (.tuple #[.slice none 0 0, .int .i64 33]) ∧ w' = w := by
  have hl' : (l : Int) < 64 := by omega
  have hn0 : (n == 0) = false := by rw [beq_eq_false_iff_ne]; omega
  have hA := ht.own l hl
  have h8 := ht.small l hl
  obtain ⟨ad, c0, hform, hc1, hc2, hc3, hc4⟩ := own_cell hA
  have c1 : w.cell? ⟨g, l, none⟩ = some (.slice ad (ins l).length c0) := by rw [ht.row.cell (by omega)]; simp [ttyCell, hl, hform]
  generalize hb : ins l = b at *
  clear hb hA hform ht
  go_enter Try.func6, Try.ntmps6
  go_wp2_with (go_at_call 12; refine (ttyHas_any _ _).mono ?_; rintro e w1 ⟨rfl, rfl⟩; rw [decide_eq_true (p := 0 ≤ (l:Int) ∧ (l:Int) < 64) (by omega)])
  go_loop [33] (fun v => ∃ k : Nat, k ≤ b.length ∧ v = .int .i64 k) (fun v => ((b.length : Int) - intOf v).toNat)
  case atStart => exact ⟨0, by omega, rfl⟩
  case round =>
    obtain ⟨k, hk, rfl⟩ := hrel
    by_cases hlt : k < b.length
    · obtain ⟨bb, rfl, hbb⟩ := hc3 (by omega)
      have hcell := hc4 bb rfl k hlt
      clear hc3 hc4
      have hns := hs k hlt
      unfold ttyStop at hns
      generalize b.getD k 0 = z at hcell hns
      have q1 : z ≠ 10 := by omega
      have q2 : (k : Int) + 1 ≠ n := by omega
      have q3 : (k : Int) + 1 ≠ 128 := by omega
      have t1 : (z == 10) = false := by rw [beq_eq_false_iff_ne]; omega
      have t2 : ((k : Int) + 1 == n) = false := by rw [beq_eq_false_iff_ne]; omega
      have t3 : ((k : Int) + 1 == 128) = false := by rw [beq_eq_false_iff_ne]; omega
      go_wp2_with fail
      go_round
      case rel => exact ⟨k + 1, by omega, by go_num⟩
      case measure => simp [intOf]; omega
    · go_wp2_with fail
      go_ret2
      exact ⟨rfl, rfl⟩

theorem SR.drop {w : World} {B : Option Addr} {n cap cap' : Nat} {xs : List Value} {b : Nat} (h : SR w (.slice (some ⟨b, 0, none⟩) n cap) n 1 xs) (i : Nat) (hi : i ≤ n) (hc : n - i ≤ cap') (hc' : cap' ≤ maxLen) (hB : i < n → B = some ⟨b, i, none⟩) (hB0 : i = n → ∃ a, B = some a) :
    SR w (.slice B (n - i) cap') (n - i) 1 (xs.drop i) := by
  have hl : xs.length = n := by simpa using h.1
  refine ⟨by simp [hl], ?_⟩
  rcases h.2 with ⟨h1, h2⟩ | ⟨a, c, h1, h2, h3, h4⟩
  · cases h1
  · cases h1
    by_cases hlt : i < n
    · refine .inr ⟨_, cap', by rw [hB hlt], hc, hc', fun h0 => ?_⟩
      obtain ⟨e1, e2, e3⟩ := h4 (by omega)
      refine ⟨rfl, e2, fun j hj => ?_⟩
      rw [List.getElem?_drop]
      have := e3 (i + j) (by omega)
      simpa using this
    · obtain ⟨a, ha⟩ := hB0 (by omega)
      exact .inr ⟨a, cap', by rw [ha], hc, hc', fun h0 => by omega⟩

theorem TT.put {w : World} {base g : Nat} {vs : Nat → Value} {ins : Nat → List Int} {lost out : Nat → Int} (h : TT w base g vs ins lost out) {l : Nat} (hl : l < 64) {u : Value} {news : List Int}
    (hown : w.ownsRow base 5 1 u news.length (news.map (.int .u8))) (hne : u.ownBlock ≠ some g) (hap : ∀ j k, j < 64 → j ≠ l → (vs j).ownBlock = some k → u.ownBlock ≠ some k)
    (h8 : news.length ≤ 128) (hwf : ∀ z ∈ news, 0 ≤ z ∧ z ≤ 255) : TT (w.setCell ⟨g, l, none⟩ u) base g (upd vs l u) (upd ins l news) lost out := by
  refine ⟨?_, h.le, ?_, ?_, ?_, ?_, ?_⟩
  · refine (h.row.set l u).congr (fun i hi => ?_)
    by_cases hi' : i = l
    · subst hi'; simp [ttyCell, hl, upd]
    · simp only [if_neg hi', ttyCell, upd]
  · intro i hi
    by_cases hi' : i = l
    · subst hi'
      simp only [upd, if_true]
      exact ownsRow_setCell_other hown hne u
    · simp only [upd, if_neg hi']
      exact ownsRow_setCell_other (h.own i hi) (h.far i hi) u
  · intro i hi z hz
    by_cases hi' : i = l
    · subst hi'
      simp only [upd, if_true] at hz
      exact hwf z hz
    · simp only [upd, if_neg hi'] at hz; exact h.wf i hi z hz
  · intro i hi
    by_cases hi' : i = l
    · subst hi'; simp only [upd, if_true]; exact h8
    · simp only [upd, if_neg hi']; exact h.small i hi
  · intro i j k hi hj hij hk
    by_cases hi' : i = l
    · subst hi'
      simp only [upd, if_true, if_neg (Ne.symm hij)] at hk ⊢
      exact fun h' => hap j k hj (Ne.symm hij) h' hk
    · by_cases hj' : j = l
      · subst hj'
        simp only [upd, if_true, if_neg hi'] at hk ⊢
        exact hap i k hi hi' hk
      · simp only [upd, if_neg hi', if_neg hj'] at hk ⊢
        exact h.apart i j k hi hj hij hk
  · intro i hi
    by_cases hi' : i = l
    · subst hi'; simp only [upd, if_true]; exact hne
    · simp only [upd, if_neg hi']; exact h.far i hi

set_option maxHeartbeats 8000000 in
theorem ttyRead_line (l : Nat) (hl : l < 64) (n : Int) (hn : 0 < n) (base g : Nat) (vs : Nat → Value) (ins : Nat → List Int) (lost out : Nat → Int) (w : World)
    (ht : TT w base g vs ins lost out) (hbase : base ≤ w.heap.size) (i : Nat) (hi : i < (ins l).length) (hst : ttyStop n (ins l) i) (hs : ∀ j, j < i → ¬ ttyStop n (ins l) j) :
    Calls Try.prog 6 #[.pointer (some ⟨g, 0, none⟩), .int .i64 l, .int .i64 n] w fun e w' =>
      ∃ u v, e = .returned (.tuple #[v, .int .i64 0]) ∧ w'.ownsRow w.heap.size 5 1 v ((ins l).take (i + 1)).length (((ins l).take (i + 1)).map (.int .u8)) ∧ TT w' base g (upd vs l u) (upd ins l ((ins l).drop (i + 1))) lost out ∧ Below base w w' ∧ Foot w w' g none ∧ ∀ q, u.ownBlock = some q → w.heap.size ≤ q := by
  have hl' : (l : Int) < 64 := by omega
  have hn0 : (n == 0) = false := by rw [beq_eq_false_iff_ne]; omega
  have hA := ht.own l hl
  have h8 := ht.small l hl
  obtain ⟨ad, c0, hform, hc1, hc2, hc3, hc4⟩ := own_cell hA
  obtain ⟨bb, rfl, hbb⟩ := hc3 (by omega)
  have hcell := hc4 bb rfl
  have c1 : w.cell? ⟨g, l, none⟩ = some (.slice (some ⟨bb, 0, none⟩) (ins l).length c0) := by rw [ht.row.cell (by omega)]; simp [ttyCell, hl, hform]
  obtain ⟨b, hb⟩ : ∃ b, b = ins l := ⟨_, rfl⟩
  have HF := Lib.hid hform
  have HC := Lib.hid hcell
  clear hc3 hc4 hform hcell
  rw [← hb] at c1 hc1 hi hst hs h8
  have HB := Lib.hid hb
  clear hb
  go_enter Try.func6, Try.ntmps6
  go_wp2_with (go_at_call 12; refine (ttyHas_any _ _).mono ?_; rintro e w1 ⟨rfl, rfl⟩; rw [decide_eq_true (p := 0 ≤ (l:Int) ∧ (l:Int) < 64) (by omega)])
  go_loop [33] (fun v => ∃ k : Nat, k ≤ i ∧ v = .int .i64 k) (fun v => ((i : Int) - intOf v).toNat)
  case atStart => exact ⟨0, by omega, rfl⟩
  case round =>
    obtain ⟨k, hk, rfl⟩ := hrel
    have hcell := HC.out k (by rw [← HB.out]; omega)
    rw [← HB.out] at hcell
    by_cases hlt : k < i
    · have hns := hs k hlt
      unfold ttyStop at hns
      generalize b.getD k 0 = z at hcell hns
      have q1 : z ≠ 10 := by omega
      have q2 : (k : Int) + 1 ≠ n := by omega
      have q3 : (k : Int) + 1 ≠ 128 := by omega
      have t1 : (z == 10) = false := by rw [beq_eq_false_iff_ne]; omega
      have t2 : ((k : Int) + 1 == n) = false := by rw [beq_eq_false_iff_ne]; omega
      have t3 : ((k : Int) + 1 == 128) = false := by rw [beq_eq_false_iff_ne]; omega
      go_wp2_with fail
      go_round
      case rel => exact ⟨k + 1, by omega, by go_num⟩
      case measure => simp [intOf]; omega
    · obtain rfl : k = i := by omega
      unfold ttyStop at hst
      generalize b.getD k 0 = z at hcell hst
      go_upto_region 11 with fail
      go_cut [50] (fun s50 wx => s50 = .bool true ∧ wx = w1)
      case first =>
        cases t1 : (z == 10)
        · cases t2 : ((k : Int) + 1 == n)
          · have t3 : ((k : Int) + 1 == 128) = true := by
              rw [beq_eq_false_iff_ne] at t1 t2
              rw [beq_iff_eq]; omega
            go_wp2_with fail
            go_meet
            exact ⟨rfl, rfl⟩
          · go_wp2_with fail
            go_meet
            exact ⟨rfl, rfl⟩
        · go_wp2_with fail
          go_meet
          exact ⟨rfl, rfl⟩
      case rest =>
        obtain ⟨rfl, rfl⟩ := hcut
        go_wp2_with fail
        have hb := HB.out
        have hsr : SR wc (.slice (some ⟨bb, 0, none⟩) b.length c0) b.length 1 (b.map (.int .u8)) := by
          have := SR.of_own hA
          rw [HF.out, ← hb] at this
          exact this
        clear hb
        obtain ⟨B, hB, hsr2⟩ : ∃ B : Addr, (if c0 = k + 1 then some (⟨bb, 0, none⟩ : Addr) else some ⟨bb, k + 1, none⟩) = some B ∧ Hid (SR wc (.slice (some B) (b.length - (k + 1)) (c0 - (k + 1))) (b.length - (k + 1)) 1 ((b.map (Value.int .u8)).drop (k + 1))) := by
          by_cases h : c0 = k + 1
          · exact ⟨⟨bb, 0, none⟩, by simp [h], hsr.drop (k + 1) (by omega) (by omega) (by omega) (fun h' => by omega) (fun _ => ⟨_, rfl⟩)⟩
          · exact ⟨⟨bb, k + 1, none⟩, by simp [h], hsr.drop (k + 1) (by omega) (by omega) (by omega) (fun h' => rfl) (fun _ => ⟨_, rfl⟩)⟩
        have HS := Lib.hid hsr
        clear hsr
        have hic : k ≤ c0 := by omega
        have hwr : IntKind.i64.wrap ((k : Int) + 1) = (k : Int) + 1 := by rw [IntKind.wrap_i64]; omega
        have hp0 : (0 : Int) ≤ (k : Int) + 1 := by omega
        have hp1 : (k : Int) + 1 ≤ (b.length : Int) := by omega
        have hp2 : ((k : Int) + 1).toNat = k + 1 := by omega
        have d1 : wc.drew.cell? ⟨g, l, none⟩ = some (.slice (some ⟨bb, 0, none⟩) b.length c0) := c1
        have hgl := ht.row.lt
        go_region_law (refine step_append_sr rfl (.tmp 53) (.tmp 57) 26 rfl base 5 (.int .u8 0) 1 1 Try.underlying26 u8_row rfl (by omega) (.slice (some ⟨wc.heap.size, 0, none⟩) 0 0) (.slice (some B) (b.length - (k + 1)) (c0 - (k + 1))) 0 (b.length - (k + 1)) [] ((b.map (Value.int .u8)).drop (k + 1)) (by simp [Act.eval, Act.put]) (World.ownsRow_lit wc.drew #[] 0 hbase (by simp [maxLen]) rfl) (by simp [Act.eval, Act.put]) (SR.alloc (w := wc.drew) hsr2.out _) (fun u hu => ints_one _ _ u (List.mem_of_mem_drop hu)) (by simp [maxLen]; omega) (by omega) (by simp; omega) ?_; intro u w2 hown hg hat; obtain ⟨ad2, k2, c2, rfl⟩ := own_form' hown; have r2 := (ht.row.drew.alloc _).of_block (hg.block g (by simp; omega) (by intro h; simp [Value.ownBlock] at h; omega)); have g2 := r2.frozen l; have e2 : w2.cell? ⟨g, l, none⟩ = some (.slice (some ⟨bb, 0, none⟩) b.length c0) := (r2.cell (by omega)).trans (((ht.row.cell (by omega)).symm).trans c1))
        have BA : Below wc.heap.size wc w2 := ((bdrewN (Below.refl wc.heap.size wc) 1).alloc (Nat.le_refl _) (.cells #[] 5)).grown hg (by simp) (fun j hj => by simp [Value.ownBlock] at hj; omega)
        have hT := (ht.kept BA).put hl (u := .slice ad2 k2 c2) (news := (ins l).drop (k + 1)) (by rw [List.length_drop, ← HB.out, List.map_drop]; simpa using hown)
          (by rcases hat with h | h <;> rw [h] <;> intro h' <;> simp [Value.ownBlock] at h' <;> omega)
          (fun j q hj hjl hq => by
            have := ((ht.own j hj).lt q hq).2
            rcases hat with h | h <;> rw [h] <;> intro h' <;> simp [Value.ownBlock] at h' <;> omega)
          (by rw [List.length_drop, ← HB.out]; omega) (fun z hz => ht.wf l hl z (List.mem_of_mem_drop hz))
        have hsr3 : SR (w2.setCell ⟨g, l, none⟩ (.slice ad2 k2 c2)) (.slice (some ⟨bb, 0, none⟩) b.length c0) b.length 1 (b.map (.int .u8)) := by
          refine (HS.out.keep BA).keepAt (by simp) (fun a cap ha _ _ => ?_)
          cases ha
          exact Below.heap_setCell _ _ _ _ (fun h' => ht.far l hl (by rw [HF.out]; exact congrArg some h'))
        have FF : Foot wc (w2.setCell ⟨g, l, none⟩ (.slice ad2 k2 c2)) g none := ((Foot.refl wc g none).below BA).set l _
        have HU : ∀ q, (Value.slice ad2 k2 c2).ownBlock = some q → wc.heap.size ≤ q := by
          intro q hq
          rcases hat with h | h <;> rw [h] at hq <;> simp [Value.ownBlock] at hq <;> omega
        have BB : Below base wc (w2.setCell ⟨g, l, none⟩ (.slice ad2 k2 c2)) := Below.setCell ⟨BA.os, BA.tape, BA.output, BA.size, fun j hj => BA.block j (by omega)⟩ ht.le _
        generalize w2.setCell ⟨g, l, none⟩ (.slice ad2 k2 c2) = w3 at hT hsr3 BB FF ⊢
        have hbase3 : base ≤ w3.heap.size := Nat.le_trans hbase BB.size
        have hsr4 := Lib.hid (hsr3.take (k + 1) (by omega))
        clear hsr3 BA hsr2 HS r2 g2 e2 hown hg hat d1 c1 hcell
        go_wp2_with (first
          | (refine wpList_append_sr rfl (.tmp 62) (.tmp 66) 26 rfl (some 67) rfl wc.heap.size 5 (.int .u8 0) 1 1 Try.underlying26 u8_row rfl (by omega) (.slice (some ⟨w3.heap.size, 0, none⟩) 0 0) (.slice (some ⟨bb, 0, none⟩) (k + 1) c0) 0 (k + 1)
              [] ((b.map (Value.int .u8)).take (k + 1)) (by simp [Act.eval, Act.put]) (World.ownsRow_lit w3 #[] 0 FF.size (by simp [maxLen]) rfl) (by simp [Act.eval, Act.put]) (hsr4.out.alloc _) (fun u hu => ints_one _ _ u (List.mem_of_mem_take hu)) (by simp [maxLen]; omega) (by omega) (by have := FF.size; simp; omega) ?_
             intro u w4 hown hg hat))
        go_ret2
        have BC : Below w3.heap.size w3 w4 := (bnew w3 (.cells #[] 5)).grown hg (by simp) (fun j hj => by simp [Value.ownBlock] at hj; omega)
        refine ⟨_, u, rfl, ?_, hT.kept BC, BB.trans ⟨BC.os, BC.tape, BC.output, BC.size, fun j hj => BC.block j (by omega)⟩, FF.below BC, HU⟩
        rw [← HB.out, List.length_take, List.map_take, Nat.min_eq_left (by omega)]
        simpa using hown
end Go.Proofs.Ytmieioaklgdbdaa
