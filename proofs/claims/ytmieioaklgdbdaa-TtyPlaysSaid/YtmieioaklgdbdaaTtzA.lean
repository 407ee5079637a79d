/- Contracts of package tty. -/
import Derived.Test.YtmieioaklgdbdaaSl
import Derived.Test.YtmieioaklgdbdaaBlk
import Derived.Deep.OwnRows
import Derived.Deep.RegionLaw
import Derived.Deep.AppendLies
import Derived.BigRegion
set_option linter.unusedVariables false
set_option linter.unusedSimpArgs false
namespace Go.Proofs.Ytmieioaklgdbdaa
open Go.RowKit

/-- The consoles' object: for each label its bytes, how many were lost, how many went. -/
def ttyCell (vs : Nat → Value) (lost out : Nat → Int) (k : Nat) : Value :=
  if k < 64 then vs k else if k < 128 then .int .i64 (lost (k - 64)) else .int .i64 (out (k - 128))

/-- What a call may turn: the block g, the row r, and what it makes. -/
structure Foot (w w' : World) (g : Nat) (r : Option Nat) : Prop where
  os : w'.os = w.os
  tape : w'.tape = w.tape
  output : w'.output = w.output
  size : w.heap.size ≤ w'.heap.size
  block : ∀ k, k < w.heap.size → k ≠ g → some k ≠ r → w'.heap[k]? = w.heap[k]?

theorem Foot.refl (w : World) (g : Nat) (r : Option Nat) : Foot w w g r := ⟨rfl, rfl, rfl, Nat.le_refl _, fun _ _ _ _ => rfl⟩
theorem Foot.grown {w w1 w2 : World} {g : Nat} {r r' : Option Nat} (h : Foot w w1 g r) (hg : w1.grownBy w2 r') (hr : ∀ k, r' = some k → some k = r ∨ w.heap.size ≤ k) : Foot w w2 g r :=
  ⟨hg.os.trans h.os, hg.tape.trans h.tape, hg.output.trans h.output, Nat.le_trans h.size hg.size, fun k hk hkg hkr => by
    rw [hg.block k (Nat.lt_of_lt_of_le hk h.size) (fun e => by rcases hr k e.symm with e' | e'; exact hkr e'; omega)]
    exact h.block k hk hkg hkr⟩
theorem Foot.set {w w1 : World} {g : Nat} {r : Option Nat} (h : Foot w w1 g r) (i : Nat) (v : Value) : Foot w (w1.setCell ⟨g, i, none⟩ v) g r :=
  ⟨h.os, h.tape, h.output, by simpa using h.size, fun k hk hkg hkr => by rw [Below.heap_setCell _ _ _ _ (by exact hkg)]; exact h.block k hk hkg hkr⟩
theorem Foot.drew {w w1 : World} {g : Nat} {r : Option Nat} (h : Foot w w1 g r) : Foot w w1.drew g r := ⟨h.os, h.tape, h.output, h.size, h.block⟩
theorem Foot.below {w w1 w2 : World} {g : Nat} {r : Option Nat} (h : Foot w w1 g r) (hb : Below w1.heap.size w1 w2) : Foot w w2 g r :=
  ⟨hb.os.trans h.os, hb.tape.trans h.tape, hb.output.trans h.output, Nat.le_trans h.size hb.size, fun k hk hkg hkr => by rw [hb.block k (Nat.lt_of_lt_of_le hk h.size)]; exact h.block k hk hkg hkr⟩

structure TT (w : World) (base g : Nat) (vs : Nat → Value) (ins : Nat → List Int) (lost out : Nat → Int) : Prop where
  row : w.rowIs g 49 192 (ttyCell vs lost out)
  le : base ≤ g
  own : ∀ i, i < 64 → w.ownsRow base 5 1 (vs i) (ins i).length ((ins i).map (.int .u8))
  wf : ∀ i, i < 64 → ∀ z ∈ ins i, 0 ≤ z ∧ z ≤ 255
  small : ∀ i, i < 64 → (ins i).length ≤ 128
  apart : ∀ i j k, i < 64 → j < 64 → i ≠ j → (vs i).ownBlock = some k → (vs j).ownBlock ≠ some k
  far : ∀ i, i < 64 → (vs i).ownBlock ≠ some g

theorem ttyHas_any (l : Int) (w : World) : Calls Try.prog 12 #[.int .i64 l] w fun e w' => e = .returned (.bool (decide (0 ≤ l ∧ l < 64))) ∧ w' = w := by
  by_cases h : 0 ≤ l
  · go_enter Try.func12, Try.ntmps12
    go_wp2
    go_ret
    exact ⟨ret_bool (by simp [h]), rfl⟩
  · go_enter Try.func12, Try.ntmps12
    go_wp2
    go_ret
    exact ⟨ret_bool (by simp; omega), rfl⟩

def ttyZero : Array Value := ((List.range 192).map (ttyCell (fun _ => .slice none 0 0) (fun _ => 0) (fun _ => 0))).toArray
theorem ttyZero_get (i : Nat) (h : i < ttyZero.size) : ttyZero[i]? = some (ttyCell (fun _ => .slice none 0 0) (fun _ => 0) (fun _ => 0) i) := by
  have h' : i < 192 := by simpa [ttyZero] using h
  simp [ttyZero, h']

theorem ttyZero_run (w : World) : (zeroValue 49).run Try.prog w = .ok (.agg ttyZero) w := run_zero (by kernel_rfl) w

set_option maxHeartbeats 1000000 in
theorem ttyNew_any (w : World) : Calls Try.prog 5 #[] w fun e w' => e = .returned (.pointer (some ⟨w.heap.size, 0, none⟩)) ∧
    TT w' w.heap.size w.heap.size (fun _ => .slice none 0 0) (fun _ => []) (fun _ => 0) (fun _ => 0) ∧ Below w.heap.size w w' := by
  have hz := ttyZero_run
  go_enter Try.func5, Try.ntmps5
  go_wp2
  go_ret
  refine ⟨rfl, ?_, bnew _ _⟩
  constructor
  · exact World.rowIs_alloc w ttyZero 49 _ ttyZero_get
  · exact Nat.le_refl _
  · intro i _; exact World.ownsRow_nil _ _ _ _
  · intro i _ z hz; exact absurd hz (List.not_mem_nil)
  · intro i _; show 0 ≤ 128; omega
  · intro i j k _ _ _ h; cases h
  · intro i _ h; cases h

/-! ### Type -/

theorem u8_row : (Try.prog.info? 5).map (fun i => (i.zero, i.size, i.bytes)) = some (some (.int .u8 0), 1, 1) := by kernel_rfl

theorem SI.byte {w : World} {v : Value} {zs : List Int} (h : SI w .u8 v zs) (z : Int) (hz : z ∈ zs) : 0 ≤ z ∧ z ≤ 255 := wf_u8 (h.wf z hz)

theorem SR.take {w : World} {A : Option Addr} {n cap : Nat} {xs : List Value} (h : SR w (.slice A n cap) n 1 xs) (m : Nat) (hm : m ≤ n) : SR w (.slice A m cap) m 1 (xs.take m) := by
  have hl : xs.length = n := by simpa using h.1
  refine ⟨by simp [hl]; omega, ?_⟩
  rcases h.2 with ⟨h1, h2⟩ | ⟨a, c, h1, h2, h3, h4⟩
  · subst h2
    obtain rfl : m = 0 := by omega
    simp only [Value.slice.injEq] at h1
    obtain ⟨rfl, _, rfl⟩ := h1
    exact .inl ⟨rfl, rfl⟩
  · simp only [Value.slice.injEq] at h1
    obtain ⟨rfl, _, rfl⟩ := h1
    refine .inr ⟨a, cap, rfl, by omega, h3, fun h0 => ?_⟩
    obtain ⟨e1, e2, e3⟩ := h4 (by omega)
    refine ⟨e1, e2, fun i hi => ?_⟩
    rw [e3 i (by omega), List.getElem?_take_of_lt (by omega)]

set_option maxHeartbeats 1000000 in
theorem ttyType_nil (l : Int) (v : Value) (w : World) : Calls Try.prog 9 #[.pointer none, .int .i64 l, v] w fun e w' => e = .returned (.int .i64 0) ∧ Below w.heap.size w w' := by
  go_enter Try.func9, Try.ntmps9
  go_wp2_with fail
  go_ret
  exact ⟨rfl, Below.refl _ _⟩

set_option maxHeartbeats 1000000 in
theorem ttyType_out (g : Nat) (l : Int) (hl : ¬ (0 ≤ l ∧ l < 64)) (v : Value) (w : World) : Calls Try.prog 9 #[.pointer (some ⟨g, 0, none⟩), .int .i64 l, v] w fun e w' => e = .returned (.int .i64 0) ∧ Below w.heap.size w w' := by
  go_enter Try.func9, Try.ntmps9
  go_wp2_with (go_at_call 12; refine (ttyHas_any _ _).mono ?_; rintro e w1 ⟨rfl, rfl⟩; rw [decide_eq_false hl])
  go_ret
  exact ⟨rfl, Below.refl _ _⟩

/-- The function with another value at one place. -/
def upd {α : Type} (f : Nat → α) (i : Nat) (x : α) : Nat → α := fun j => if j = i then x else f j

theorem TT.drew {w : World} {base g : Nat} {vs : Nat → Value} {ins : Nat → List Int} {lost out : Nat → Int} (h : TT w base g vs ins lost out) : TT w.drew base g vs ins lost out :=
  ⟨h.row.drew, h.le, fun i hi => (h.own i hi).drew, h.wf, h.small, h.apart, h.far⟩

/-- What grows elsewhere leaves it as it is. -/
theorem TT.kept {w w' : World} {base g : Nat} {vs : Nat → Value} {ins : Nat → List Int} {lost out : Nat → Int} (h : TT w base g vs ins lost out) (hb : Below w.heap.size w w') : TT w' base g vs ins lost out := by
  have hg : w.grownBy w' none := ⟨hb.os, hb.tape, hb.output, hb.size, fun k hk _ => hb.block k hk⟩
  exact ⟨h.row.of_block (hb.block g h.row.lt), h.le, fun i hi => (h.own i hi).kept hg (by cases h : (vs i).ownBlock <;> simp), h.wf, h.small, h.apart, h.far⟩

theorem TT.typed {w w2 : World} {base g : Nat} {vs : Nat → Value} {ins : Nat → List Int} {lost out : Nat → Int} (h : TT w base g vs ins lost out) {l : Nat} (hl : l < 64) {u : Value} {news : List Int}
    (hown : w2.ownsRow base 5 1 u ((ins l).length + news.length) ((ins l).map (.int .u8) ++ news.map (.int .u8))) (hg : w.grownBy w2 (vs l).ownBlock) (hat : u.ownBlock = (vs l).ownBlock ∨ u.ownBlock = some w.heap.size)
    (h8 : (ins l).length + news.length ≤ 128) (hwf : ∀ z ∈ news, 0 ≤ z ∧ z ≤ 255) : TT (w2.setCell ⟨g, l, none⟩ u) base g (upd vs l u) (upd ins l (ins l ++ news)) lost out := by
  have hgl := h.row.lt
  have hne : u.ownBlock ≠ some g := by
    rcases hat with e | e <;> rw [e]
    · exact h.far l hl
    · intro h; simp only [Option.some.injEq] at h; omega
  have hap : ∀ j k, j < 64 → j ≠ l → (vs j).ownBlock = some k → u.ownBlock ≠ some k := by
    intro j k hj hjl hk
    rcases hat with e | e <;> rw [e]
    · exact fun h' => h.apart j l k hj hl hjl hk h'
    · have := ((h.own j hj).lt k hk).2
      intro h; simp only [Option.some.injEq] at h; omega
  refine ⟨?_, h.le, ?_, ?_, ?_, ?_, ?_⟩
  · refine ((h.row.of_block (hg.block g hgl (fun h' => h.far l hl h'.symm))).set l u).congr (fun i hi => ?_)
    by_cases hi' : i = l
    · subst hi'; simp [ttyCell, hl, upd]
    · simp only [if_neg hi', ttyCell, upd]
  · intro i hi
    by_cases hi' : i = l
    · subst hi'
      simp only [upd, if_true, List.length_append, List.map_append]
      exact ownsRow_setCell_other hown hne u
    · simp only [upd, if_neg hi']
      refine ownsRow_setCell_other ((h.own i hi).kept hg ?_) (h.far i hi) u
      cases hk : (vs i).ownBlock with
      | none => exact .inl rfl
      | some k => exact .inr (fun h' => h.apart i l k hi hl hi' hk h'.symm)
  · intro i hi z hz
    by_cases hi' : i = l
    · subst hi'
      simp only [upd, if_true, List.mem_append] at hz
      rcases hz with hz | hz
      · exact h.wf i hi z hz
      · exact hwf z hz
    · simp only [upd, if_neg hi'] at hz; exact h.wf i hi z hz
  · intro i hi
    by_cases hi' : i = l
    · subst hi'; simp only [upd, if_true, List.length_append]; exact h8
    · simp only [upd, if_neg hi']; exact h.small i hi
  · intro i j k hi hj hij hk
    by_cases hi' : i = l
    · subst hi'
      simp only [upd, if_true, if_neg (Ne.symm hij)] at hk ⊢
      exact fun h' => hap j k hj (Ne.symm hij) h' hk
    · by_cases hj' : j = l
      · subst hj'
        simp only [upd, if_true, if_neg hi'] at hk ⊢
        exact hap i k hi hi' hk
      · simp only [upd, if_neg hi', if_neg hj'] at hk ⊢
        exact h.apart i j k hi hj hij hk
  · intro i hi
    by_cases hi' : i = l
    · subst hi'; simp only [upd, if_true]; exact hne
    · simp only [upd, if_neg hi']; exact h.far i hi

theorem TT.lostSet {w : World} {base g : Nat} {vs : Nat → Value} {ins : Nat → List Int} {lost out : Nat → Int} (h : TT w base g vs ins lost out) {l : Nat} (hl : l < 64) (x : Int) :
    TT (w.setCell ⟨g, 64 + l, none⟩ (.int .i64 x)) base g vs ins (upd lost l x) out := by
  refine ⟨(h.row.set (64 + l) _).congr (fun i hi => ?_), h.le, fun i hi => ownsRow_setCell_other (h.own i hi) (h.far i hi) _, h.wf, h.small, h.apart, h.far⟩
  unfold ttyCell upd
  by_cases h1 : i < 64
  · rw [if_neg (by omega), if_pos h1, if_pos h1]
  · by_cases h2 : i < 128
    · rw [if_neg h1, if_pos h2, if_neg h1, if_pos h2]
      by_cases h3 : i = 64 + l
      · rw [if_pos h3, if_pos (by omega)]
      · rw [if_neg h3, if_neg (by omega)]
    · rw [if_neg (by omega), if_neg h1, if_neg h2, if_neg h1, if_neg h2]

theorem TT.outSet {w : World} {base g : Nat} {vs : Nat → Value} {ins : Nat → List Int} {lost out : Nat → Int} (h : TT w base g vs ins lost out) {l : Nat} (hl : l < 64) (x : Int) :
    TT (w.setCell ⟨g, 128 + l, none⟩ (.int .i64 x)) base g vs ins lost (upd out l x) := by
  refine ⟨(h.row.set (128 + l) _).congr (fun i hi => ?_), h.le, fun i hi => ownsRow_setCell_other (h.own i hi) (h.far i hi) _, h.wf, h.small, h.apart, h.far⟩
  unfold ttyCell upd
  by_cases h1 : i < 64
  · rw [if_neg (by omega), if_pos h1, if_pos h1]
  · by_cases h2 : i < 128
    · rw [if_neg (by omega), if_neg h1, if_pos h2, if_neg h1, if_pos h2]
    · rw [if_neg h1, if_neg h2, if_neg h1, if_neg h2]
      by_cases h3 : i = 128 + l
      · rw [if_pos h3, if_pos (by omega)]
      · rw [if_neg h3, if_neg (by omega)]

set_option maxHeartbeats 2000000 in
theorem ttyType_in (l : Nat) (hl : l < 64) (base g : Nat) (vs : Nat → Value) (ins : Nat → List Int) (lost out : Nat → Int) (v : Value) (zs : List Int) (w : World)
    (ht : TT w base g vs ins lost out) (hv : SI w .u8 v zs) (hz : zs.length ≤ 100000) (hlo : 0 ≤ lost l ∧ lost l ≤ 1000000000000) (hb : base ≤ w.heap.size) :
    Calls Try.prog 9 #[.pointer (some ⟨g, 0, none⟩), .int .i64 l, v] w fun e w' =>
      e = .returned (.int .i64 (min zs.length (128 - (ins l).length) : Nat)) ∧
      (∃ u, TT w' base g (upd vs l u) (upd ins l (ins l ++ zs.take (128 - (ins l).length))) (upd lost l (lost l + (zs.length - min zs.length (128 - (ins l).length) : Nat))) out ∧ ∀ k, u.ownBlock = some k → (vs l).ownBlock = some k ∨ w.heap.size ≤ k) ∧
      Below base w w' ∧ Foot w w' g (vs l).ownBlock := by
  obtain ⟨A, cap, rfl, hlc, hcm⟩ := hv.sr.form
  have hA := (ht.own l hl)
  have hs := ht.small l hl
  have c1 : w.cell? ⟨g, l, none⟩ = some (vs l) := by rw [ht.row.cell (by omega)]; simp [ttyCell, hl]
  have f1 := ht.row.frozen
  have hgl := ht.row.lt
  obtain ⟨v0, hv0⟩ : ∃ u, u = vs l := ⟨_, rfl⟩
  obtain ⟨n0, hn0⟩ : ∃ n, n = (ins l).length := ⟨_, rfl⟩
  obtain ⟨ad, c0, hform⟩ := own_form hA
  rw [hform] at c1
  have hl' : (l : Int) < 64 := by omega
  have hfar : some g ≠ (Value.slice ad (ins l).length c0).ownBlock := by rw [← hform]; exact fun h => ht.far l hl h.symm
  go_enter Try.func9, Try.ntmps9
  go_wp2_with (go_at_call 12; refine (ttyHas_any _ _).mono ?_; rintro e w1 ⟨rfl, rfl⟩; rw [decide_eq_true (p := 0 ≤ (l:Int) ∧ (l:Int) < 64) (by omega)])
  · rw [show (128 : Int) - ((ins l).length : Int) = ((128 - (ins l).length : Nat) : Int) by omega]
    have hr := (hv.sr.take (128 - (ins l).length) (by omega))
    have hm1 : (((128 - (ins l).length : Nat)) : Int) ≤ (cap : Int) := by omega
    have d1 : w1.drew.cell? ⟨g, l, none⟩ = some (Value.slice ad (ins l).length c0) := c1
    have f2 : ∀ i, w1.drew.frozen? ⟨g, i, none⟩ = false := f1
    go_region_law (refine step_append_sr rfl (.tmp 33) (.tmp 36) 26 rfl base 5 (.int .u8 0) 1 1 Try.underlying26 u8_row rfl (by omega) (.slice ad (ins l).length c0) (.slice A (128 - (ins l).length) cap) (ins l).length (128 - (ins l).length) ((ins l).map (.int .u8)) ((zs.map (Value.int .u8)).take (128 - (ins l).length)) (by simp [Act.eval, Act.put]) (by rw [← hform]; exact hA) (by simp [Act.eval, Act.put]) (show SR w1.drew _ _ 1 _ from hr) (fun u hu => ints_one _ _ u (List.mem_of_mem_take hu)) (by simp [maxLen]; omega) (by omega) (by simpa using hb) ?_; intro u w2 hown hg hat; obtain ⟨ad2, k2, c2, rfl⟩ := own_form' hown; have r2 := ht.row.of_block (hg.block g hgl hfar); have g2 := r2.frozen l; have e2 : w2.cell? ⟨g, l, none⟩ = some (Value.slice ad (ins l).length c0) := (r2.cell (by omega)).trans (((ht.row.cell (by omega)).symm).trans c1))
    have r3 := r2.set l (.slice ad2 k2 c2)
    have B3 : ∃ w3, w3 = w2.setCell ⟨g, l, none⟩ (.slice ad2 k2 c2) := ⟨_, rfl⟩
    obtain ⟨w3, hw3⟩ := B3
    rw [← hw3] at r3 ⊢
    have HW3 := Lib.hid hw3
    clear hw3
    have e3 : w3.drew.cell? ⟨g, 64 + l, none⟩ = some (.int .i64 (lost l)) := (r3.cell (i := 64 + l) (by omega)).trans (by rw [if_neg (by omega)]; unfold ttyCell; rw [if_neg (by omega), if_pos (by omega), Nat.add_sub_cancel_left])
    have e4 : w3.cell? ⟨g, 64 + l, none⟩ = some (.int .i64 (lost l)) := e3
    have f4 : ∀ i, w3.frozen? ⟨g, i, none⟩ = false := r3.frozen
    have f3 : ∀ i, w3.drew.frozen? ⟨g, i, none⟩ = false := r3.frozen
    go_wp2_with fail
    go_region
    go_wp2_with fail
    go_ret
    have hM : min zs.length (128 - (ins l).length) = 128 - (ins l).length := by omega
    rw [hM]
    have hT := ht.drew.typed hl (news := zs.take (128 - (ins l).length)) (by rw [List.length_take, Nat.min_eq_left (by omega), List.map_take]; exact hown) (by rw [hform]; exact hg) (by rw [hform]; exact hat) (by rw [List.length_take]; omega) (fun z hz => hv.byte z (List.mem_of_mem_take hz))
    have hw3 := HW3.out
    have hB : Below base w1 w3 := by
      rw [hw3]
      refine Below.setCell ?_ ht.le _
      exact (show Below base w1 w1.drew from bdrewN (Below.refl base w1) 1).grown hg (by simpa using hb) (fun k hk => ((ht.own l hl).lt k (by rw [hform]; exact hk)).1)
    rw [← hw3] at hT
    have hF : Foot w1 w3 g (vs l).ownBlock := by
      rw [hw3, hform]
      exact ((Foot.refl w1 g _).drew.grown hg (fun k hk => .inl hk.symm)).set l _
    refine ⟨rfl, ⟨.slice ad2 k2 c2, ?_, fun k hk => ?_⟩, ?_, hF.drew.set _ _⟩
    · have hx : lost l + ((zs.length - (128 - (ins l).length) : Nat) : Int) = lost l + ((zs.length : Int) - ((128 - (ins l).length : Nat) : Int)) := by omega
      rw [hx]
      exact hT.drew.lostSet hl _
    · rw [hform]
      rcases hat with h | h
      · exact .inl (h.symm.trans hk)
      · right
        rw [h] at hk
        simp only [Option.some.injEq] at hk
        have : w1.drew.heap.size = w1.heap.size := rfl
        omega
    · exact Below.setCell (show Below base w1 w3.drew from bdrewN hB 1) ht.le _
  · have hr := (hv.sr.take (zs.length) (by omega))
    have hm1 : (((zs.length : Nat)) : Int) ≤ (cap : Int) := by omega
    have d1 : w1.drew.cell? ⟨g, l, none⟩ = some (Value.slice ad (ins l).length c0) := c1
    have f2 : ∀ i, w1.drew.frozen? ⟨g, i, none⟩ = false := f1
    go_region_law (refine step_append_sr rfl (.tmp 33) (.tmp 36) 26 rfl base 5 (.int .u8 0) 1 1 Try.underlying26 u8_row rfl (by omega) (.slice ad (ins l).length c0) (.slice A (zs.length) cap) (ins l).length (zs.length) ((ins l).map (.int .u8)) ((zs.map (Value.int .u8)).take (zs.length)) (by simp [Act.eval, Act.put]) (by rw [← hform]; exact hA) (by simp [Act.eval, Act.put]) (show SR w1.drew _ _ 1 _ from hr) (fun u hu => ints_one _ _ u (List.mem_of_mem_take hu)) (by simp [maxLen]; omega) (by omega) (by simpa using hb) ?_; intro u w2 hown hg hat; obtain ⟨ad2, k2, c2, rfl⟩ := own_form' hown; have r2 := ht.row.of_block (hg.block g hgl hfar); have g2 := r2.frozen l; have e2 : w2.cell? ⟨g, l, none⟩ = some (Value.slice ad (ins l).length c0) := (r2.cell (by omega)).trans (((ht.row.cell (by omega)).symm).trans c1))
    have r3 := r2.set l (.slice ad2 k2 c2)
    have B3 : ∃ w3, w3 = w2.setCell ⟨g, l, none⟩ (.slice ad2 k2 c2) := ⟨_, rfl⟩
    obtain ⟨w3, hw3⟩ := B3
    rw [← hw3] at r3 ⊢
    have HW3 := Lib.hid hw3
    clear hw3
    have e3 : w3.drew.cell? ⟨g, 64 + l, none⟩ = some (.int .i64 (lost l)) := (r3.cell (i := 64 + l) (by omega)).trans (by rw [if_neg (by omega)]; unfold ttyCell; rw [if_neg (by omega), if_pos (by omega), Nat.add_sub_cancel_left])
    have e4 : w3.cell? ⟨g, 64 + l, none⟩ = some (.int .i64 (lost l)) := e3
    have f4 : ∀ i, w3.frozen? ⟨g, i, none⟩ = false := r3.frozen
    have f3 : ∀ i, w3.drew.frozen? ⟨g, i, none⟩ = false := r3.frozen
    go_wp2_with fail
    go_region
    go_wp2_with fail
    go_ret
    have hM : min zs.length (128 - (ins l).length) = zs.length := by omega
    rw [hM]
    have hT := ht.drew.typed hl (news := zs.take (zs.length)) (by rw [List.length_take, Nat.min_eq_left (by omega), List.map_take]; exact hown) (by rw [hform]; exact hg) (by rw [hform]; exact hat) (by rw [List.length_take]; omega) (fun z hz => hv.byte z (List.mem_of_mem_take hz))
    have hw3 := HW3.out
    have hB : Below base w1 w3 := by
      rw [hw3]
      refine Below.setCell ?_ ht.le _
      exact (show Below base w1 w1.drew from bdrewN (Below.refl base w1) 1).grown hg (by simpa using hb) (fun k hk => ((ht.own l hl).lt k (by rw [hform]; exact hk)).1)
    rw [← hw3] at hT
    have hF : Foot w1 w3 g (vs l).ownBlock := by
      rw [hw3, hform]
      exact ((Foot.refl w1 g _).drew.grown hg (fun k hk => .inl hk.symm)).set l _
    refine ⟨rfl, ⟨.slice ad2 k2 c2, ?_, fun k hk => ?_⟩, ?_, hF.drew.set _ _⟩
    · have hx : lost l + ((zs.length - (zs.length) : Nat) : Int) = lost l + 0 := by omega
      have ht0 : zs.take (128 - (ins l).length) = zs.take zs.length := by rw [List.take_of_length_le (by omega), List.take_of_length_le (Nat.le_refl _)]
      rw [hx, ht0, Int.add_zero]
      exact hT.drew.lostSet hl _
    · rw [hform]
      rcases hat with h | h
      · exact .inl (h.symm.trans hk)
      · right
        rw [h] at hk
        simp only [Option.some.injEq] at hk
        have : w1.drew.heap.size = w1.heap.size := rfl
        omega
    · exact Below.setCell (show Below base w1 w3.drew from bdrewN hB 1) ht.le _

/-! ### Write -/

set_option maxHeartbeats 1000000 in
theorem ttyWrite_nil (l : Int) (v : Value) (w : World) : Calls Try.prog 8 #[.pointer none, .int .i64 l, v] w fun e w' => e = .returned (.tuple #[.int .i64 0, .int .i64 1]) ∧ w' = w := by
  go_enter Try.func8, Try.ntmps8
  go_wp2_with fail
  go_ret2
  exact ⟨rfl, rfl⟩

set_option maxHeartbeats 1000000 in
theorem ttyWrite_out (g : Nat) (l : Int) (hl : ¬ (0 ≤ l ∧ l < 64)) (v : Value) (w : World) : Calls Try.prog 8 #[.pointer (some ⟨g, 0, none⟩), .int .i64 l, v] w fun e w' => e = .returned (.tuple #[.int .i64 0, .int .i64 27]) ∧ w' = w := by
  go_enter Try.func8, Try.ntmps8
  go_wp2_with (go_at_call 12; refine (ttyHas_any _ _).mono ?_; rintro e w1 ⟨rfl, rfl⟩; rw [decide_eq_false hl])
  go_ret2
  exact ⟨rfl, rfl⟩

set_option maxHeartbeats 2000000 in
theorem ttyWrite_in (l : Nat) (hl : l < 64) (base g : Nat) (vs : Nat → Value) (ins : Nat → List Int) (lost out : Nat → Int) (A : Option Addr) (n cap : Nat) (w : World)
    (ht : TT w base g vs ins lost out) (hn : n ≤ 100000) (hlo : 0 ≤ out l ∧ out l ≤ 1000000000000) :
    Calls Try.prog 8 #[.pointer (some ⟨g, 0, none⟩), .int .i64 l, .slice A n cap] w fun e w' =>
      e = .returned (.tuple #[.int .i64 n, .int .i64 0]) ∧ TT w' base g vs ins lost (upd out l (out l + n)) ∧ Below base w w' ∧ Foot w w' g none := by
  have hl' : (l : Int) < 64 := by omega
  have e3 : w.drew.cell? ⟨g, 128 + l, none⟩ = some (.int .i64 (out l)) := (ht.row.cell (i := 128 + l) (by omega)).trans (by unfold ttyCell; rw [if_neg (by omega), if_neg (by omega), Nat.add_sub_cancel_left])
  have e4 : w.cell? ⟨g, 128 + l, none⟩ = some (.int .i64 (out l)) := e3
  have f4 : ∀ i, w.frozen? ⟨g, i, none⟩ = false := ht.row.frozen
  have f3 : ∀ i, w.drew.frozen? ⟨g, i, none⟩ = false := ht.row.frozen
  go_enter Try.func8, Try.ntmps8
  go_wp2_with (go_at_call 12; refine (ttyHas_any _ _).mono ?_; rintro e w1 ⟨rfl, rfl⟩; rw [decide_eq_true (p := 0 ≤ (l:Int) ∧ (l:Int) < 64) (by omega)])
  go_region
  go_wp2_with fail
  go_ret2
  exact ⟨rfl, ht.drew.outSet hl _, Below.setCell (show Below base w1 w1.drew from bdrewN (Below.refl base w1) 1) ht.le _, ((Foot.refl w1 g none).drew).set _ _⟩

/-! ### Counts -/

set_option maxHeartbeats 1000000 in
theorem ttyCounts_nil (l : Int) (w : World) : Calls Try.prog 11 #[.pointer none, .int .i64 l] w fun e w' => e = .returned (.tuple #[.int .i64 0, .int .i64 0, .int .i64 0]) ∧ w' = w := by
  go_enter Try.func11, Try.ntmps11
  go_wp2_with fail
  go_ret3
  exact ⟨rfl, rfl⟩

set_option maxHeartbeats 2000000 in
theorem ttyCounts_in (l : Nat) (hl : l < 64) (base g : Nat) (vs : Nat → Value) (ins : Nat → List Int) (lost out : Nat → Int) (w : World) (ht : TT w base g vs ins lost out) :
    Calls Try.prog 11 #[.pointer (some ⟨g, 0, none⟩), .int .i64 l] w fun e w' =>
      e = .returned (.tuple #[.int .i64 (ins l).length, .int .i64 (lost l), .int .i64 (out l)]) ∧ ∃ n, w' = w.drewN n := by
  have hl' : (l : Int) < 64 := by omega
  obtain ⟨ad, c0, hform⟩ := own_form (ht.own l hl)
  have e1 : w.cell? ⟨g, l, none⟩ = some (.slice ad (ins l).length c0) := (ht.row.cell (by omega)).trans (by unfold ttyCell; rw [if_pos hl, hform])
  have e2 : w.cell? ⟨g, 64 + l, none⟩ = some (.int .i64 (lost l)) := (ht.row.cell (i := 64 + l) (by omega)).trans (by unfold ttyCell; rw [if_neg (by omega), if_pos (by omega), Nat.add_sub_cancel_left])
  have e3 : w.cell? ⟨g, 128 + l, none⟩ = some (.int .i64 (out l)) := (ht.row.cell (i := 128 + l) (by omega)).trans (by unfold ttyCell; rw [if_neg (by omega), if_neg (by omega), Nat.add_sub_cancel_left])
  go_enter Try.func11, Try.ntmps11
  go_wp2_with (go_at_call 12; refine (ttyHas_any _ _).mono ?_; rintro e w1 ⟨rfl, rfl⟩; rw [decide_eq_true (p := 0 ≤ (l:Int) ∧ (l:Int) < 64) (by omega)])
  go_quiet (fail)
  go_wp2_with fail
  go_ret3
  exact ⟨rfl, _, rfl⟩

/-! ### Read -/

set_option maxHeartbeats 1000000 in
theorem ttyRead_nil (l n : Int) (w : World) : Calls Try.prog 6 #[.pointer none, .int .i64 l, .int .i64 n] w fun e w' => e = .returned (.tuple #[.slice none 0 0, .int .i64 1]) ∧ w' = w := by
  go_enter Try.func6, Try.ntmps6
  go_wp2_with fail
  go_ret2
  exact ⟨rfl, rfl⟩

set_option maxHeartbeats 1000000 in
theorem ttyRead_out (g : Nat) (l n : Int) (hl : ¬ (0 ≤ l ∧ l < 64) ∨ n < 0) (w : World) : Calls Try.prog 6 #[.pointer (some ⟨g, 0, none⟩), .int .i64 l, .int .i64 n] w fun e w' => e = .returned (.tuple #[.slice none 0 0, .int .i64 27]) ∧ w' = w := by
  by_cases h : 0 ≤ l ∧ l < 64
  · have hn : n < 0 := by rcases hl with h' | h'; exact absurd h h'; exact h'
    go_enter Try.func6, Try.ntmps6
    go_wp2_with (go_at_call 12; refine (ttyHas_any _ _).mono ?_; rintro e w1 ⟨rfl, rfl⟩; rw [decide_eq_true h])
    go_ret2
    exact ⟨rfl, rfl⟩
  · go_enter Try.func6, Try.ntmps6
    go_wp2_with (go_at_call 12; refine (ttyHas_any _ _).mono ?_; rintro e w1 ⟨rfl, rfl⟩; rw [decide_eq_false h])
    go_ret2
    exact ⟨rfl, rfl⟩

end Go.Proofs.Ytmieioaklgdbdaa
