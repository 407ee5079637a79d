/- FdsPlays: the turns of a round said of the one view G; what the walk takes of them. -/
import Derived.Test.YtfnkbgcgajgppaaPlyG
set_option linter.unusedVariables false
set_option linter.unusedSimpArgs false
namespace Go.Proofs.Ytfnkbgcgajgppaa
open Go.RowKit
open Go.Maps (Keyed)

theorem setN_self (us : Nat → Nat) (l : Nat) : setN us l (us l) = us := by
  funext j; unfold setN; split <;> simp_all
section
variable {n B : Nat} {G : Nat × Nat → Option (OpenL × Nat)} {L : Nat → List Nat} {us : Nat → Nat}
theorem PInv.share (h : PInv n B G L us) {l k : Nat} {o : OpenL} {r : Nat} (e : G (l, k) = some (o, r)) (r' : Nat) (h0 : 0 < r') (hr : r' ≤ B) :
    PInv n B (putF G (l, k) (o, r')) (setL L l ((L l).set k r')) us := by
  have hlt := h.lt e
  have hp := h.pos _ _ _ e
  have hd := h.dat l hlt.1 k hlt.2
  rw [e] at hd
  have := h.set hlt.1 hlt.2 o hp.2.2 r' h0 hr (us l) (by rw [hd]; show us l + (if 0 < r then 1 else 0) = us l + 1; rw [if_pos hp.1])
  rwa [setN_self] at this
theorem PInv.drop (h : PInv n B G L us) {l k : Nat} {o : OpenL} {r : Nat} (e : G (l, k) = some (o, r)) : PInv n B (delF G (l, k)) (setL L l ((L l).set k 0)) (setN us l (us l - 1)) := by
  have hlt := h.lt e
  have hp := h.pos _ _ _ e
  have hd := h.dat l hlt.1 k hlt.2
  rw [e] at hd
  exact h.del hlt.1 hlt.2 (by rw [hd]; exact hp.1)
theorem PInv.zero (h : PInv n B G L us) {l k : Nat} (hl : l < n) (hk : k < (L l).length) (h0 : (L l)[k] = 0) : G (l, k) = none := by
  have hd := h.dat l hl k hk
  rw [h0] at hd
  cases hG : G (l, k) with
  | none => rfl
  | some x => rw [hG] at hd; have := (h.pos _ x.1 x.2 hG).1; simp only [refN] at hd; omega
theorem PInv.more (h : PInv n B G L us) {l k : Nat} (hl : l < n) (hk : k < (L l).length) (h0 : (L l)[k] ≠ 0) : tabOf G (l, k) ≠ none := by
  have hd := h.dat l hl k hk
  cases hG : G (l, k) with
  | none => rw [hG] at hd; exact absurd hd h0
  | some x => rw [tabOf_some hG]; simp
/-- The first nought of a list, if there is one. -/
theorem firstZero (l : List Nat) : (∃ k, ∃ hk : k < l.length, l[k] = 0 ∧ ∀ j (hj : j < k), l[j] ≠ 0) ∨ ∀ j (hj : j < l.length), l[j] ≠ 0 := by
  induction l with
  | nil => exact .inr fun j hj => absurd hj (Nat.not_lt_zero _)
  | cons a t ih =>
    by_cases ha : a = 0
    · exact .inl ⟨0, by simp, by simpa using ha, fun j hj => absurd hj (Nat.not_lt_zero _)⟩
    · rcases ih with ⟨k, hk, h0, hl⟩ | hn
      · refine .inl ⟨k + 1, by simpa using hk, by simpa using h0, fun j hj => ?_⟩
        cases j with
        | zero => simpa using ha
        | succ j => simpa using hl j (by omega)
      · refine .inr fun j hj => ?_
        cases j with
        | zero => simpa using ha
        | succ j => simpa using hn j (by simpa using hj)
theorem PInv.us_le (h : PInv n B G L us) {l : Nat} (hl : l < n) : us l ≤ B := by
  have h1 := h.us l hl
  have h2 := h.len l hl
  have h3 := posCount_le (L l)
  omega
theorem PInv.us_pos (h : PInv n B G L us) {l k : Nat} {o : OpenL} {r : Nat} (e : G (l, k) = some (o, r)) : 0 < us l := by
  have hlt := h.lt e
  have hp := h.pos _ _ _ e
  have hd := h.dat l hlt.1 k hlt.2
  rw [e] at hd
  have := posCount_set (L l) k 0 hlt.2
  rw [if_pos (by rw [hd]; exact hp.1), if_neg (Nat.lt_irrefl 0)] at this
  rw [h.us l hlt.1]
  omega
theorem PInv.take (h : PInv n B G L us) {l k : Nat} (hl : l < n) (hk : k < (L l).length) (h0 : (L l)[k] = 0) (o : OpenL) (ok : okOpen o) (hB : 1 ≤ B) :
    PInv n B (putF G (l, k) (o, 1)) (setL L l ((L l).set k 1)) (setN us l (us l + 1)) :=
  h.set hl hk o ok 1 Nat.one_pos hB (us l + 1) (by rw [h0]; simp)
end
section
variable {w0 w w' : World} {g gm gM gW n : Nat} {a : Option Addr} {G : Nat × Nat → Option (OpenL × Nat)} {F : Nat × Nat → Option (Array Value × Nat)} {M : Nat × Nat → Option OpenL} {V : Nat → Value} {L L' : Nat → List Nat} {us us' : Nat → Nat} {p : Nat × Nat} {o : OpenL} {r r' : Nat}
theorem PW.same (h : PW w0 w g gm gM gW a n (putF (tabOf G) p (openA o, r')) (mapOf G) V L us) (e : G p = some (o, r)) : PW w0 w g gm gM gW a n (tabOf (putF G p (o, r'))) (mapOf (putF G p (o, r'))) V L us := by
  rw [tabOf_put, mapOf_same _ _ _ _ _ e]; exact h
theorem PW.putG (h : PW w0 w g gm gM gW a n (putF (tabOf G) p (openA o, r')) (putF (mapOf G) p o) V L us) : PW w0 w g gm gM gW a n (tabOf (putF G p (o, r'))) (mapOf (putF G p (o, r'))) V L us := by
  rw [tabOf_put, mapOf_put]; exact h
theorem PW.delG (h : PW w0 w g gm gM gW a n (delF (tabOf G) p) (delF (mapOf G) p) V L us) : PW w0 w g gm gM gW a n (tabOf (delF G p)) (mapOf (delF G p)) V L us := by
  rw [tabOf_del, mapOf_del]; exact h
/-- A list's number turns. -/
theorem PW.cellL (h : PW w0 w g gm gM gW a n F M V L us) {l : Nat} (hl : l < n) {k : Nat} (hk : k < (L l).length) (x : Nat) {q c : Nat} (hV : V l = .slice (some ⟨q, 0, none⟩) (L l).length c) :
    PW w0 (w.setCell ⟨q, k, none⟩ (.int .i64 x)) g gm gM gW a n F M V (setL L l ((L l).set k x)) us := by
  obtain ⟨h1, h2⟩ := h.ms.store hl hk x hV
  refine h.foot hl ?_ h1
  rw [hV]
  exact Foot.of_one h2
/-- A block that none of these is. -/
theorem PW.ne_new (h : PW w0 w g gm gM gW a n F M V L us) {x : Nat} {cs : Array Value} {t : TypeId} {fr : Nat × Nat} (hx : w.heap[x]? = some (.cells cs t fr)) (h1 : t ≠ 153) (h2 : t ≠ 112) (h3 : t ≠ 3) :
    x ≠ g ∧ x ≠ gm ∧ x ≠ gM ∧ x ≠ gW ∧ ∀ l, l < n → (V l).ownBlock ≠ some x := by
  have e1 := h.tp.ne_cells hx h1
  refine ⟨e1.1, e1.2, fun e => ?_, fun e => by subst e; exact h.mp.notCells hx, fun l hl e => ?_⟩
  · subst e
    obtain ⟨c, hb, _⟩ := h.ms.row
    rw [hx] at hb
    simp at hb
    exact h2 hb.2.1
  · obtain ⟨hk, cur, hb⟩ := own_blk (h.ms.own l hl) e
    rw [hx] at hb
    simp at hb
    exact h3 hb.2.1
theorem index_slots {ρ : Operand → Value} {o : Oper} {x y : Operand} (ho : o.op = .indexAddr 107 x y) {gM n j : Nat} (hx : ρ x = .slice (some ⟨gM, 0, none⟩) n n) (hy : ρ y = .int .i64 j) (hj : j < n) (w : World) :
    (execOp ρ o).run Try.prog w = .ok (.value (.pointer (some ⟨gM, j, none⟩))) w := by
  have f1 : (j : Int) < n := by omega
  unfold execOp
  simp only [ho, hx, hy]
  go_simp
theorem openA_off (o : OpenL) (x : Int) : (openA o).setIfInBounds 9 (.int .i64 x) = openA { o with off := x } := rfl
theorem okOpen_off {o : OpenL} (h : okOpen o) (x : Int) (hx : (Lit.int .i64 x).wf = true) : okOpen { o with off := x } :=
  ⟨h.wh, h.lab, h.num, h.gen, h.klab, h.knum, h.kgen, h.ob, hx, h.path⟩
end
end Go.Proofs.Ytfnkbgcgajgppaa
