/- The laws of the consoles: two objects side by side; any read; TtyApart. -/
import Derived.Test.YtmieioaklgdbdaaTtzC
set_option linter.unusedVariables false
set_option linter.unusedSimpArgs false
namespace Go.Proofs.Ytmieioaklgdbdaa
open Go.RowKit

theorem Foot.weaken {w w' : World} {g : Nat} (h : Foot w w' g none) (r : Option Nat) : Foot w w' g r := ⟨h.os, h.tape, h.output, h.size, fun k hk hkg _ => h.block k hk hkg (by simp)⟩

/-- Two objects that share no block. -/
structure Sep (vs : Nat → Value) (g : Nat) (vs' : Nat → Value) (g' : Nat) : Prop where
  ne : g ≠ g'
  left : ∀ i, i < 64 → (vs i).ownBlock ≠ some g'
  right : ∀ i, i < 64 → (vs' i).ownBlock ≠ some g
  both : ∀ i j k, i < 64 → j < 64 → (vs i).ownBlock = some k → (vs' j).ownBlock ≠ some k

theorem Sep.symm {vs vs' : Nat → Value} {g g' : Nat} (h : Sep vs g vs' g') : Sep vs' g' vs g := ⟨h.ne.symm, h.right, h.left, fun i j k hi hj e e' => h.both j i k hj hi e' e⟩

section
variable {w w' : World} {base base' g g' : Nat} {vs vs' : Nat → Value} {ins ins' : Nat → List Int} {lost lost' out out' : Nat → Int}

theorem TT.beside (h : TT w base' g' vs' ins' lost' out') (hs : Sep vs g vs' g') {l : Nat} (hl : l < 64) (hf : Foot w w' g (vs l).ownBlock) : TT w' base' g' vs' ins' lost' out' := by
  refine ⟨h.row.of_block (hf.block g' h.row.lt hs.ne.symm (fun e => hs.left l hl e.symm)), h.le, fun i hi => own_keep (h.own i hi) (fun k hk => ?_), h.wf, h.small, h.apart, h.far⟩
  exact hf.block k ((h.own i hi).lt k hk).2 (fun e => hs.right i hi (by rw [hk, e])) (fun e => hs.both l i k hl hi e.symm hk)

theorem Sep.next (hs : Sep vs g vs' g') (h : TT w base' g' vs' ins' lost' out') {l : Nat} (hl : l < 64) {u : Value} (hu : ∀ k, u.ownBlock = some k → (vs l).ownBlock = some k ∨ w.heap.size ≤ k) : Sep (upd vs l u) g vs' g' := by
  refine ⟨hs.ne, fun i hi e => ?_, hs.right, fun i j k hi hj e => ?_⟩
  · by_cases hi' : i = l
    · subst hi'
      simp only [upd, if_true] at e
      rcases hu _ e with h1 | h1
      · exact hs.left i hi h1
      · have := h.row.lt; omega
    · simp only [upd, if_neg hi'] at e; exact hs.left i hi e
  · by_cases hi' : i = l
    · subst hi'
      simp only [upd, if_true] at e
      intro e'
      rcases hu _ e with h1 | h1
      · exact hs.both i j k hi hj h1 e'
      · have := ((h.own j hj).lt k e').2; omega
    · simp only [upd, if_neg hi'] at e; exact hs.both i j k hi hj e
end

/-! ### Any read -/

def ttyFirst (n : Int) (b : List Int) : Option Nat := (List.range b.length).find? (fun i => decide (ttyStop n b i))
def ttyOut (n : Int) (b : List Int) : List Int := if n = 0 then [] else match ttyFirst n b with | some i => b.take (i + 1) | none => []
def ttyRest (n : Int) (b : List Int) : List Int := if n = 0 then b else match ttyFirst n b with | some i => b.drop (i + 1) | none => b
def ttyCode (n : Int) (b : List Int) : Int := if n = 0 then 0 else match ttyFirst n b with | some _ => 0 | none => 33

theorem upd_self {α : Type} (f : Nat → α) (l : Nat) : upd f l (f l) = f := by
  funext j
  unfold upd
  split
  · rename_i h; rw [h]
  · rfl

theorem ttyOut_mem {n : Int} {b : List Int} {z : Int} (h : z ∈ ttyOut n b) : z ∈ b := by
  unfold ttyOut at h
  split at h
  · cases h
  · split at h
    · exact List.mem_of_mem_take h
    · cases h

theorem ttyFirst_some {n : Int} {b : List Int} {i : Nat} (h : ttyFirst n b = some i) : i < b.length ∧ ttyStop n b i ∧ ∀ j, j < i → ¬ ttyStop n b j := by
  unfold ttyFirst at h
  rw [List.find?_range_eq_some] at h
  obtain ⟨h1, h2, h3⟩ := h
  refine ⟨by simpa using h2, by simpa using h1, fun j hj => by simpa using h3 j hj⟩

theorem ttyFirst_none {n : Int} {b : List Int} (h : ttyFirst n b = none) : ∀ i, i < b.length → ¬ ttyStop n b i := by
  unfold ttyFirst at h
  rw [List.find?_range_eq_none] at h
  intro i hi
  simpa using h i hi

theorem ttyRead_any (l : Nat) (hl : l < 64) (n : Int) (hn : 0 ≤ n) (base g : Nat) (vs : Nat → Value) (ins : Nat → List Int) (lost out : Nat → Int) (w : World)
    (ht : TT w base g vs ins lost out) (hbase : base ≤ w.heap.size) :
    Calls Try.prog 6 #[.pointer (some ⟨g, 0, none⟩), .int .i64 l, .int .i64 n] w fun e w' =>
      ∃ u v, e = .returned (.tuple #[v, .int .i64 (ttyCode n (ins l))]) ∧ w'.ownsRow w.heap.size 5 1 v (ttyOut n (ins l)).length ((ttyOut n (ins l)).map (.int .u8)) ∧ TT w' base g (upd vs l u) (upd ins l (ttyRest n (ins l))) lost out ∧ Below base w w' ∧ Foot w w' g none ∧
        ∀ q, u.ownBlock = some q → (vs l).ownBlock = some q ∨ w.heap.size ≤ q := by
  by_cases h0 : n = 0
  · subst h0
    refine (ttyRead_zero g l (by omega) w).mono ?_
    rintro e w' ⟨rfl, rfl⟩
    refine ⟨vs l, .slice none 0 0, ?_, ?_, ?_, Below.refl _ _, Foot.refl _ _ _, fun q hq => .inl hq⟩
    · simp [ttyCode]
    · simp only [ttyOut, if_true]; exact World.ownsRow_nil _ _ _ _
    · simp only [ttyRest, if_true, upd_self]; exact ht
  · cases hf : ttyFirst n (ins l) with
    | none =>
      refine (ttyRead_wait l hl n (by omega) base g vs ins lost out w ht (ttyFirst_none hf)).mono ?_
      rintro e w' ⟨rfl, rfl⟩
      refine ⟨vs l, .slice none 0 0, ?_, ?_, ?_, Below.refl _ _, Foot.refl _ _ _, fun q hq => .inl hq⟩
      · simp [ttyCode, h0, hf]
      · simp only [ttyOut, if_neg h0, hf]; exact World.ownsRow_nil _ _ _ _
      · simp only [ttyRest, if_neg h0, hf, upd_self]; exact ht
    | some i =>
      obtain ⟨h1, h2, h3⟩ := ttyFirst_some hf
      refine (ttyRead_line l hl n (by omega) base g vs ins lost out w ht hbase i h1 h2 h3).mono ?_
      rintro e w' ⟨u, v, rfl, hv, ht', hb, hF, hu⟩
      refine ⟨u, v, ?_, ?_, ?_, hb, hF, fun q hq => .inr (hu q hq)⟩
      · simp [ttyCode, h0, hf]
      · simp only [ttyOut, if_neg h0, hf]; exact hv
      · simp only [ttyRest, if_neg h0, hf]; exact ht'
end Go.Proofs.Ytmieioaklgdbdaa
