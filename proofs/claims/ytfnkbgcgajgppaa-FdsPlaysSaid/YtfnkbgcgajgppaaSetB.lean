/- The law FdsSets: what holds at each round. -/
import Derived.Test.YtfnkbgcgajgppaaSetA
set_option linter.unusedVariables false
set_option linter.unusedSimpArgs false
namespace Go.Proofs.Ytfnkbgcgajgppaa
open Go.RowKit

set_option maxHeartbeats 4000000 in
theorem sameInts_any (v u : Value) (xs : List Int) (w : World) (hv : SI w .i64 v xs) (hu : SI w .i64 u xs) (hn : xs.length ≤ 1000) :
    Calls Try.prog 25 #[v, u] w fun e w' => e = .returned (.bool true) ∧ Below w.heap.size w w' := by
  obtain ⟨A, cap, rfl, hlc, hcm⟩ := hv.sr.form
  obtain ⟨A', cap', rfl, hlc', hcm'⟩ := hu.sr.form
  have HV := Lib.hid hv
  have HU := Lib.hid hu
  clear hv hu
  go_enter Try.func25, Try.ntmps25
  go_wp2_with fail
  go_loopw [5] (fun v wr => ∃ k : Nat, k ≤ xs.length ∧ v = .int .i64 k ∧ Below w.heap.size w wr) (fun v _ => (xs.length - intOf v).toNat)
  case atStart => exact ⟨0, by omega, rfl, Below.refl _ _⟩
  case round =>
    obtain ⟨k, hk, rfl, hB⟩ := hrel
    by_cases hlt : k < xs.length
    · rcases (HV.out.keep hB).cases with ⟨h, _⟩ | ⟨_, g, off, c1, hs, _, _, hg, hc⟩
      · rw [h] at hlt; simp at hlt
      rcases (HU.out.keep hB).cases with ⟨h, _⟩ | ⟨_, g', off', c1', hs', _, _, hg', hc'⟩
      · rw [h] at hlt; simp at hlt
      cases hs
      cases hs'
      have d0 := hc k hlt
      have d1 := hc' k hlt
      generalize xs.getD k 0 = x at *
      clear hc hc'
      go_wp2_with fail
      go_region
      go_wp2_with fail
      go_roundw
      case rel => exact ⟨k + 1, by omega, by go_num, bdrewN hB 1⟩
      case measure => simp [intOf]; omega
    · go_wp2_with fail
      go_ret
      exact ⟨rfl, hB⟩
theorem eqId (p q : Nat × Nat) (hp1 : p.1 ≤ 255) (hp2 : p.2 ≤ 65535) (hq1 : q.1 ≤ 255) (hq2 : q.2 ≤ 65535) (w : World) :
    (Op.equalIn 10000 69 (.agg #[.int .u8 p.1, .int .u16 p.2]) (.agg #[.int .u8 q.1, .int .u16 q.2])).run Try.prog w = .ok (decide (p = q)) w := by
  have z1 : Try.prog.cellsOf 69 = 2 := by kernel_rfl
  have z2 : Try.prog.cellsOf 5 = 1 := by kernel_rfl
  have z3 : Try.prog.cellsOf 30 = 1 := by kernel_rfl
  have key : ∀ p : Nat × Nat, p.1 ≤ 255 → p.2 ≤ 65535 → Try.prog.keyLits 2 69 [.int .u8 p.1, .int .u16 p.2] = some [.int .u8 p.1, .int .u16 p.2] := by
    intro p h1 h2
    have e8 : Try.prog.keyLits 1 5 [.int .u8 (p.1 : Int)] = some [.int .u8 p.1] := by simp [Program.keyLits, Try.underlying5, u8_wf (show 0 ≤ (p.1 : Int) ∧ (p.1 : Int) ≤ 255 by omega)]
    have e16 : Try.prog.keyLits 1 30 [.int .u16 (p.2 : Int)] = some [.int .u16 p.2] := by simp [Program.keyLits, Try.underlying30, u16_wf (show 0 ≤ (p.2 : Int) ∧ (p.2 : Int) ≤ 65535 by omega)]
    unfold Program.keyLits
    simp [Try.underlying69, z1, z2, z3, e8, e16]
  have formed : ∀ p : Nat × Nat, (Value.agg #[.int .u8 (p.1 : Int), .int .u16 (p.2 : Int)]).formed Try.prog 69 = true := fun p => by
    simp [Value.formed, Try.underlying69, z1]
  exact equal_key 2 (by omega) (by kernel_rfl) (formed p) (formed q) (key p hp1 hp2) (key q hq1 hq2) (by
    obtain ⟨a, b⟩ := p
    obtain ⟨c, d⟩ := q
    simp
    omega)

def ptrF (mp : Nat → Option Nat) (j : Nat) : Value := .pointer ((mp j).map fun b => ⟨b, 0, none⟩)
def setP (mp : Nat → Option Nat) (k : Nat) (x : Option Nat) : Nat → Option Nat := fun j => if j = k then x else mp j
/-- What holds at each round: the set at block gs, the pointers at block gp, what they show. -/
structure SS (W w : World) (gs gp : Nat) (M : Nat → Option (Nat × Nat)) (mp : Nat → Option Nat) : Prop where
  bl : Below W.heap.size W w
  ns : NS w gs M
  pr : w.rowIs gp 125 8 (ptrF mp)
  eq : ∀ j, (mp j).isSome = (M j).isSome
  bk : ∀ j b, mp j = some b → ∃ q, M j = some q ∧ q.1 ≤ 255 ∧ q.2 ≤ 65535 ∧ w.heap[b]? = some (.cells #[.int .u8 q.1, .int .u16 q.2] 69 (0, 0))
  hgs : W.heap.size ≤ gs
  hgp : W.heap.size ≤ gp
section
variable {W w w' : World} {gs gp : Nat} {M : Nat → Option (Nat × Nat)} {mp : Nat → Option Nat}
theorem SS.ne (h : SS W w gs gp M mp) : gs ≠ gp := fun e => by
  subst e
  obtain ⟨c, h1, _⟩ := h.ns
  obtain ⟨d, h2, _⟩ := h.pr
  rw [h1] at h2
  simp at h2
theorem SS.ne_id (h : SS W w gs gp M mp) {b : Nat} {cs : Array Value} (hb : w.heap[b]? = some (.cells cs 69 (0, 0))) : b ≠ gs ∧ b ≠ gp := by
  refine ⟨fun e => ?_, fun e => ?_⟩
  · subst e
    obtain ⟨c, h1, _⟩ := h.ns
    rw [hb] at h1
    simp at h1
  · subst e
    obtain ⟨c, h1, _⟩ := h.pr
    rw [hb] at h1
    simp at h1
theorem SS.keep (h : SS W w gs gp M mp) (hb : Below w.heap.size w w') : SS W w' gs gp M mp :=
  ⟨bnext h.bl hb, h.ns.of_block (hb.block gs h.ns.lt), h.pr.of_block (hb.block gp h.pr.lt), h.eq, fun j b hj => by
    obtain ⟨q, h1, h2, h3, h4⟩ := h.bk j b hj
    exact ⟨q, h1, h2, h3, bkeep hb h4⟩, h.hgs, h.hgp⟩
theorem SS.upd (h : SS W w gs gp M mp) (o : One w w' (some gs)) (k : Nat) (x : Option (Nat × Nat)) (y : Option Nat) (hn : NS w' gs (setM M k x)) (hk : k < 8) (hxy : y.isSome = x.isSome)
    (hy : ∀ b, y = some b → ∃ q, x = some q ∧ q.1 ≤ 255 ∧ q.2 ≤ 65535 ∧ w'.heap[b]? = some (.cells #[.int .u8 q.1, .int .u16 q.2] 69 (0, 0))) :
    SS W (w'.setCell ⟨gp, k, none⟩ (.pointer (y.map fun b => ⟨b, 0, none⟩))) gs gp (setM M k x) (setP mp k y) := by
  have o2 := one_setCell w' gp k (.pointer (y.map fun b => (⟨b, 0, none⟩ : Addr)))
  have hp : w'.rowIs gp 125 8 (ptrF mp) := h.pr.of_block (o.block gp h.pr.lt (fun e => h.ne (by cases e; rfl)))
  refine ⟨bone (bone h.bl o h.hgs h.bl.size) o2 h.hgp (bone h.bl o h.hgs h.bl.size).size, hn.of_block (o2.block gs hn.lt (fun e => h.ne (by cases e; rfl))), (hp.set k _).congr (fun j hj => ?_), fun j => ?_, fun j b hj => ?_, h.hgs, h.hgp⟩
  · unfold ptrF setP
    split <;> rfl
  · unfold setP setM
    split
    · exact hxy
    · exact h.eq j
  · unfold setP at hj
    unfold setM
    split at hj
    · rename_i e
      rw [if_pos e]
      obtain ⟨q, h1, h2, h3, h4⟩ := hy b hj
      refine ⟨q, h1, h2, h3, o2.blk h4 (fun e => ?_)⟩
      cases e
      obtain ⟨c, h5, _⟩ := hp
      rw [h4] at h5
      simp at h5
    · rename_i e
      rw [if_neg e]
      obtain ⟨q, h1, h2, h3, h4⟩ := h.bk j b hj
      obtain ⟨n1, n2⟩ := h.ne_id h4
      exact ⟨q, h1, h2, h3, o2.blk (o.blk h4 (fun e => n1 (by cases e; rfl))) (fun e => n2 (by cases e; rfl))⟩
theorem SS.ptr (h : SS W w gs gp M mp) {k : Nat} (hk : k < 8) : w.cell? ⟨gp, k, none⟩ = some (.pointer ((mp k).map fun b => ⟨b, 0, none⟩)) := h.pr.cell hk
end

/-- The first number that is not taken, from the end downwards. -/
theorem first_free (M : Nat → Option (Nat × Nat)) : (∃ k, k < 8 ∧ M k = none ∧ ∀ j, j < k → (M j).isSome = true) ∨ ∀ j, j < 8 → (M j).isSome = true := by
  have key : ∀ n, (∃ k, k < n ∧ M k = none ∧ ∀ j, j < k → (M j).isSome = true) ∨ ∀ j, j < n → (M j).isSome = true := by
    intro n
    induction n with
    | zero => exact .inr (fun j hj => by omega)
    | succ n ih =>
      rcases ih with ⟨k, h1, h2, h3⟩ | h
      · exact .inl ⟨k, by omega, h2, h3⟩
      · cases hm : M n with
        | none => exact .inl ⟨n, by omega, hm, h⟩
        | some q =>
          refine .inr (fun j hj => ?_)
          by_cases e : j = n
          · rw [e, hm]; rfl
          · exact h j (by omega)
  exact key 8
def kinds24 : List CK := [⟨0, .u8, 0⟩, ⟨0, .u8, 0⟩, ⟨0, .u8, 0⟩, ⟨0, .i64, 0⟩, ⟨0, .u8, 0⟩, ⟨0, .u8, 0⟩, ⟨0, .u16, 0⟩, ⟨0, .u16, 0⟩, ⟨1, .i64, 0⟩, ⟨0, .u8, 0⟩, ⟨0, .u16, 0⟩, ⟨0, .u16, 0⟩, ⟨0, .i64, 0⟩, ⟨0, .i64, 0⟩, ⟨1, .i64, 0⟩, ⟨1, .i64, 0⟩, ⟨1, .i64, 0⟩, ⟨2, .i64, 0⟩]
theorem fits_one {P : Program} {w : World} {k : CK} {v : Value} (h : k.Fits P w v) : v.oneCell' = true := by
  unfold CK.Fits at h
  split at h
  · obtain ⟨x, rfl, _⟩ := h; rfl
  · obtain ⟨x, rfl⟩ := h; rfl
  · obtain ⟨x, rfl, _⟩ := h; rfl
  · rcases h with rfl | ⟨a, l, c, rfl, _⟩ <;> rfl
/-- An action's cells. -/
theorem act24 {w : World} {m : Nat} {cs : List Value} (h : Okay Try.prog w m 110 cs) :
    cs.length = 18 ∧ (∀ v ∈ cs, v.oneCell' = true) ∧ ∃ (kd lab num : Nat) (off : Int), cs[0]? = some (.int .u8 kd) ∧ cs[1]? = some (.int .u8 lab) ∧ cs[2]? = some (.int .u8 num) ∧ cs[3]? = some (.int .i64 off) ∧ kd ≤ 255 ∧ lab ≤ 255 ∧ num ≤ 255 ∧ -9223372036854775808 ≤ off ∧ off ≤ 9223372036854775807 := by
  have hf := Okay.fits 6 110 m cs kinds24 h (by kernel_rfl)
  obtain ⟨hl, hg⟩ := FitsAll.get hf
  refine ⟨hl, fun v hv => ?_, ?_⟩
  · obtain ⟨i, hi, rfl⟩ := List.getElem_of_mem hv
    obtain ⟨k, hk⟩ : ∃ k, kinds24[i]? = some k := ⟨kinds24[i]'(by rw [← hl]; exact hi), by simp⟩
    obtain ⟨u, hu, hfit⟩ := hg i k hk
    rw [List.getElem?_eq_getElem hi] at hu
    cases hu
    exact fits_one hfit
  · obtain ⟨v0, h0, ⟨x0, rfl, w0⟩⟩ := hg 0 ⟨0, .u8, 0⟩ rfl
    obtain ⟨v1, h1, ⟨x1, rfl, w1⟩⟩ := hg 1 ⟨0, .u8, 0⟩ rfl
    obtain ⟨v2, h2, ⟨x2, rfl, w2⟩⟩ := hg 2 ⟨0, .u8, 0⟩ rfl
    obtain ⟨v3, h3, ⟨x3, rfl, w3⟩⟩ := hg 3 ⟨0, .i64, 0⟩ rfl
    have b0 := wf_u8 w0
    have b1 := wf_u8 w1
    have b2 := wf_u8 w2
    have b3 := wf_i64 w3
    obtain ⟨a, rfl⟩ : ∃ n : Nat, x0 = n := ⟨x0.toNat, by omega⟩
    obtain ⟨b, rfl⟩ : ∃ n : Nat, x1 = n := ⟨x1.toNat, by omega⟩
    obtain ⟨c, rfl⟩ : ∃ n : Nat, x2 = n := ⟨x2.toNat, by omega⟩
    exact ⟨a, b, c, x3, h0, h1, h2, h3, by omega, by omega, by omega, b3.1, b3.2⟩
end Go.Proofs.Ytfnkbgcgajgppaa
