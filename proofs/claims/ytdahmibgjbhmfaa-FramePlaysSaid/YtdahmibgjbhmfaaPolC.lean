/- FramePlays: the plain law of its rounds; the blocks of a round as one thing. -/
import Derived.Test.YtdahmibgjbhmfaaPolB
set_option linter.unusedVariables false
set_option linter.unusedSimpArgs false
namespace Go.Proofs.Ytdahmibgjbhmfaa
open Go.RowKit
open Go.Maps (Keyed)

def usF (Y : PoolY) (T : Nat → Nat → Bool) : Nat → Nat := fun l => if l < Y.m then cntT (T l) (Y.fr l) else 0
def polF (Y : PoolY) (T : Nat → Nat → Bool) (B : Nat → Nat → Nat → Nat) : Nat × Nat → Option (Nat → Nat) := fun p => if hasB Y T p.1 p.2 = true then some (B p.1 p.2) else none
section
variable {Y : PoolY} {T : Nat → Nat → Bool} {B : Nat → Nat → Nat → Nat} {k n : Nat}
theorem usF_in (hk : k < Y.m) : usF Y T k = cntT (T k) (Y.fr k) := if_pos hk
theorem has_iff : hasB Y T k n = true ↔ k < Y.m ∧ n < Y.fr k ∧ T k n = true := by
  unfold hasB
  rw [Bool.and_eq_true, Bool.and_eq_true, decide_eq_true_iff, decide_eq_true_iff]
theorem polF_some (h : hasB Y T k n = true) : polF Y T B (k, n) = some (B k n) := if_pos h
theorem polF_none (h : hasB Y T k n = false) : polF Y T B (k, n) = none := if_neg (by rw [h]; decide)
theorem polF_is : (polF Y T B (k, n)).isSome = hasB Y T k n := by
  cases h : hasB Y T k n with
  | true => rw [polF_some h]; rfl
  | false => rw [polF_none h]; rfl
theorem cntT_set (t : Nat → Bool) (n : Nat) (b : Bool) : ∀ N, cntT (fun i => if i = n then b else t i) N + (if n < N ∧ t n = true then 1 else 0) = cntT t N + (if n < N ∧ b = true then 1 else 0)
  | 0 => by simp [cntT]
  | N + 1 => by
    have ih := cntT_set t n b N
    show cntT (fun i => if i = n then b else t i) N + (if (if N = n then b else t N) = true then 1 else 0) + _ = cntT t N + (if t N = true then 1 else 0) + _
    by_cases e : N = n
    · subst e
      rw [if_pos rfl]
      simp only [Nat.lt_irrefl, false_and, if_false, Nat.add_zero, Nat.lt_succ_self, true_and] at ih ⊢
      omega
    · rw [if_neg e]
      have : (n < N + 1) ↔ n < N := by omega
      simp only [this]
      omega
theorem row2 (T : Nat → Nat → Bool) (k n : Nat) (b : Bool) : set2 T k n b k = fun i => if i = n then b else T k i := by
  funext i
  unfold set2
  by_cases e : i = n
  · rw [if_pos ⟨rfl, e⟩, if_pos e]
  · rw [if_neg (fun h => e h.2), if_neg e]
theorem rowO (T : Nat → Nat → Bool) {k l : Nat} (n : Nat) (b : Bool) (h : l ≠ k) : set2 T k n b l = T l := by
  funext i
  exact set2_other _ _ (fun e => h e.1)
theorem usF_take (hk : k < Y.m) (hn : n < Y.fr k) (hT : T k n = false) : setN (usF Y T) k (usF Y T k + 1) = usF Y (set2 T k n true) := by
  funext l
  unfold setN
  by_cases e : l = k
  · subst e
    rw [if_pos rfl, usF_in hk, usF_in hk, row2]
    have := cntT_set (T l) n true (Y.fr l)
    rw [if_neg (by rw [hT]; simp), if_pos ⟨hn, rfl⟩] at this
    omega
  · rw [if_neg e]
    unfold usF
    rw [rowO T n true e]
theorem usF_give (hk : k < Y.m) (hn : n < Y.fr k) (hT : T k n = true) : setN (usF Y T) k (usF Y T k - 1) = usF Y (set2 T k n false) ∧ 0 < usF Y T k := by
  have hc := cntT_set (T k) n false (Y.fr k)
  rw [if_pos ⟨hn, hT⟩, if_neg (by simp)] at hc
  refine ⟨?_, by rw [usF_in hk]; omega⟩
  funext l
  unfold setN
  by_cases e : l = k
  · subst e
    rw [if_pos rfl, usF_in hk, usF_in hk, row2]
    omega
  · rw [if_neg e]
    unfold usF
    rw [rowO T n false e]
theorem has_set (b : Bool) (l i : Nat) : hasB Y (set2 T k n b) l i = if l = k ∧ i = n then (decide (k < Y.m) && (decide (n < Y.fr k) && b)) else hasB Y T l i := by
  by_cases e : l = k ∧ i = n
  · obtain ⟨rfl, rfl⟩ := e
    rw [if_pos ⟨rfl, rfl⟩]
    unfold hasB
    rw [set2_same]
  · rw [if_neg e]
    unfold hasB
    rw [set2_other _ _ e]
theorem pair_ne {l i : Nat} (e : ¬ (l = k ∧ i = n)) : ¬ ((l, i) : Nat × Nat) = (k, n) := fun h => e (by cases h; exact ⟨rfl, rfl⟩)
theorem polF_take (hk : k < Y.m) (hn : n < Y.fr k) (f : Nat → Nat) : putF (polF Y T B) (k, n) f = polF Y (set2 T k n true) (set2 B k n f) := by
  funext ⟨l, i⟩
  unfold putF
  by_cases e : l = k ∧ i = n
  · obtain ⟨rfl, rfl⟩ := e
    rw [if_pos rfl, polF_some (by rw [has_set, if_pos ⟨rfl, rfl⟩, decide_eq_true hk, decide_eq_true hn]; rfl), set2_same]
  · rw [if_neg (pair_ne e)]
    unfold polF
    simp only
    rw [has_set, if_neg e, set2_other _ _ e]
theorem polF_give : delF (polF Y T B) (k, n) = polF Y (set2 T k n false) B := by
  funext ⟨l, i⟩
  unfold delF
  by_cases e : l = k ∧ i = n
  · obtain ⟨rfl, rfl⟩ := e
    rw [if_pos rfl, polF_none (by rw [has_set, if_pos ⟨rfl, rfl⟩]; simp)]
  · rw [if_neg (pair_ne e)]
    unfold polF
    simp only
    rw [has_set, if_neg e]
theorem polF_put (h : hasB Y T k n = true) (f : Nat → Nat) : putF (polF Y T B) (k, n) f = polF Y T (set2 B k n f) := by
  funext ⟨l, i⟩
  unfold putF
  by_cases e : l = k ∧ i = n
  · obtain ⟨rfl, rfl⟩ := e
    rw [if_pos rfl, polF_some h, set2_same]
  · rw [if_neg (pair_ne e)]
    unfold polF
    simp only
    rw [set2_other _ _ e]
/-- The first that isn't taken, or all are. -/
theorem first_free (t : Nat → Bool) : ∀ N, (∀ i, i < N → t i = true) ∧ cntT t N = N ∨ ∃ n, n < N ∧ t n = false ∧ (∀ i, i < n → t i = true) ∧ cntT t N < N
  | 0 => .inl ⟨fun i h => by omega, rfl⟩
  | N + 1 => by
    have hle := cntT_le t N
    rcases first_free t N with ⟨h, hc⟩ | ⟨n, h1, h2, h3, h4⟩
    · cases hb : t N with
      | true => exact .inl ⟨fun i hi => by
          rcases Nat.lt_or_ge i N with h' | h'
          · exact h i h'
          · obtain rfl : i = N := by omega
            exact hb, by show cntT t N + (if t N = true then 1 else 0) = N + 1; rw [hb, if_pos rfl, hc]⟩
      | false => exact .inr ⟨N, by omega, hb, h, by show cntT t N + (if t N = true then 1 else 0) < N + 1; rw [hb, if_neg (by decide)]; omega⟩
    · refine .inr ⟨n, by omega, h2, h3, ?_⟩
      show cntT t N + (if t N = true then 1 else 0) < N + 1
      split <;> omega
end

/-- The program's pool (g, gm), the document's (Y): all newer than w0. -/
structure FW (w0 w : World) (g gm : Nat) (a : Option Addr) (us : Nat → Nat) (F : Nat × Nat → Option (Nat → Nat)) (Y : PoolY) (pv : Nat → Nat → Option Nat) (T : Nat → Nat → Bool) (B : Nat → Nat → Nat → Nat) : Prop where
  bl : Below w0.heap.size w0 w
  fp : FP w g gm a us F
  rp : RP w Y pv T B
  g0 : w0.heap.size ≤ g
  gm0 : w0.heap.size ≤ gm
  b0 : Y.base = w0.heap.size
section
variable {w0 w w' : World} {g gm : Nat} {a : Option Addr} {us us' : Nat → Nat} {F F' : Nat × Nat → Option (Nat → Nat)} {Y : PoolY} {pv pv' : Nat → Nat → Option Nat} {T T' : Nat → Nat → Bool} {B B' : Nat → Nat → Nat → Nat}
theorem FW.keep (h : FW w0 w g gm a us F Y pv T B) (hb : Below w.heap.size w w') : FW w0 w' g gm a us F Y pv T B :=
  ⟨bnext h.bl hb, h.fp.keep hb, h.rp.keep hb, h.g0, h.gm0, h.b0⟩
theorem FW.ne (h : FW w0 w g gm a us F Y pv T B) {x : Nat} {c : Array Value} {t : TypeId} {fr : Nat × Nat} (hx : w.heap[x]? = some (.cells c t fr)) (ht : t ≠ 78) : x ≠ g ∧ x ≠ gm := h.fp.ne_cells hx ht
theorem polT_ne {t : TypeId} (h : polT t) : t ≠ 78 := by
  rcases h with e | e | e | e | e | e <;> rw [e] <;> decide
/-- The program's pool turns. -/
theorem FW.duo (h : FW w0 w g gm a us F Y pv T B) (d : Duo w w' g gm) (ht : FP w' g gm a us' F') : FW w0 w' g gm a us' F' Y pv T B where
  bl := Duo.go h.bl d h.g0 h.gm0 h.bl.size
  fp := ht
  rp := h.rp.keepAt d.size fun x cur t hx hp => d.block x (rowlt hx) (h.ne hx (polT_ne hp)).1 (h.ne hx (polT_ne hp)).2
  g0 := h.g0
  gm0 := h.gm0
  b0 := h.b0
theorem FW.one_ (h : FW w0 w g gm a us F Y pv T B) {x n : Nat} {t : TypeId} {f : Nat → Value} (hx : w.rowIs x t n f) (hp : polT t) (hge : w0.heap.size ≤ x) (o : One w w' (some x)) (hr : RP w' Y pv' T' B') : FW w0 w' g gm a us F Y pv' T' B' where
  bl := bone h.bl o hge h.bl.size
  fp := by
    obtain ⟨c, hc⟩ := rowIs_blk hx
    exact h.fp.one o (h.ne hc (polT_ne hp)).1 (h.ne hc (polT_ne hp)).2
  rp := hr
  g0 := h.g0
  gm0 := h.gm0
  b0 := h.b0
/-- A mark is taken away. -/
theorem FW.give (h : FW w0 w g gm a us F Y pv T B) {k n : Nat} (hk : k < Y.m) (hn : n < Y.fr k) : FW w0 (w.setCell ⟨Y.tb k, n, none⟩ (.bool false)) g gm a us F Y pv (set2 T k n false) B :=
  h.one_ (h.rp.rowT k hk) (.inr (.inr (.inr (.inl rfl)))) (by rw [← h.b0]; exact (h.rp.geT k hk).1) (one_setCell w (Y.tb k) n (.bool false))
    (h.rp.mark hk hn false (one_setCell w (Y.tb k) n (.bool false)) (((h.rp.rowT k hk).set n (.bool false)).congr (fun i hi => rfl)) (fun e => by cases e))
/-- A page's byte turns. -/
theorem FW.byte (h : FW w0 w g gm a us F Y pv T B) {k n b : Nat} (hk : k < Y.m) (hn : n < Y.fr k) (hp : pv k n = some b) (hr : w.rowIs b 5 64 (byteF (B k n))) (at_ c : Nat) (hc : c ≤ 255) : FW w0 (w.setCell ⟨b, at_, none⟩ (.int .u8 c)) g gm a us F Y pv T (set2 B k n (setB (B k n) at_ c)) :=
  h.one_ hr (.inr (.inr (.inr (.inr (.inr rfl))))) (by rw [← h.b0]; exact h.rp.geP k n b hk hn hp) (one_setCell w b at_ (.int .u8 (c : Int)))
    (h.rp.page hk hn hp _ (fun j => by unfold setB; split; exact hc; exact h.rp.bd k n j) hr (one_setCell w b at_ (.int .u8 (c : Int))) ((hr.set at_ (.int .u8 (c : Int))).congr (fun i hi => by
      unfold byteF setB
      by_cases e : i = at_
      · rw [if_pos e, if_pos e]
      · rw [if_neg e, if_neg e])))
/-- A whole page turns. -/
theorem FW.whole (h : FW w0 w g gm a us F Y pv T B) {k n b : Nat} (hk : k < Y.m) (hn : n < Y.fr k) (hp : pv k n = some b) (hr : w.rowIs b 5 64 (byteF (B k n))) (f : Nat → Nat) (hf : ∀ j, f j ≤ 255) (o : One w w' (some b)) (hr' : w'.rowIs b 5 64 (byteF f)) : FW w0 w' g gm a us F Y pv T (set2 B k n f) :=
  h.one_ hr (.inr (.inr (.inr (.inr (.inr rfl))))) (by rw [← h.b0]; exact h.rp.geP k n b hk hn hp) o (h.rp.page hk hn hp f hf hr o hr')
/-- The document's Take. -/
theorem FW.take (h : FW w0 w g gm a us F Y pv T B) {k : Nat} (hk : k < Y.m) (d : Duo w w' (Y.tb k) (Y.bb k)) (hr : RP w' Y pv' T' B') : FW w0 w' g gm a us F Y pv' T' B' where
  bl := Duo.go h.bl d (by rw [← h.b0]; exact (h.rp.geT k hk).1) (by rw [← h.b0]; exact (h.rp.geT k hk).2) h.bl.size
  fp := by
    obtain ⟨c, hc⟩ := rowIs_blk (h.rp.rowT k hk)
    obtain ⟨e, he⟩ := rowIs_blk (h.rp.rowB k hk)
    have h1 := h.ne hc (by decide)
    have h2 := h.ne he (by decide)
    exact ⟨h.fp.row.of_block (d.block g h.fp.row.lt (Ne.symm h1.1) (Ne.symm h2.1)), h.fp.mp.keepAt (d.block gm h.fp.mp.lt (Ne.symm h1.2) (Ne.symm h2.2))⟩
  rp := hr
  g0 := h.g0
  gm0 := h.gm0
  b0 := h.b0
end
end Go.Proofs.Ytdahmibgjbhmfaa
