/- Regions that draw their order: what holds of the worlds may be made stronger on the way; an operation that makes memory; a conversion. -/
import Derived.Test.YtbdcbkmacpameaaBlk
set_option linter.unusedVariables false
namespace Go.Proofs.Ytbdcbkmacpameaa
open Go.RowKit

section
variable {P : Program} {ops : Array Oper} {Q : Exit → Act → World → Prop} {md : Region.Mode} {S S' : World → Prop}
theorem wpAnyH_mono (h : ∀ w, S' w → S w) : ∀ (fuel : Nat) (listed : Array Bool) (a : Act) (w : World), wpAnyH P md ops Q S' fuel listed a w → wpAnyH P md ops Q S fuel listed a w
  | 0, _, _, _, hh => hh
  | fuel + 1, listed, a, w, hh => ⟨hh.1, fun i hi => wpOp_mono (fun a' w' h3 => ⟨h _ h3.1, wpAnyH_mono h fuel _ a' w' h3.2⟩) (hh.2 i hi)⟩

variable {oi : Oper} {fuel : Nat} {listed : Array Bool} {a : Act} {w : World}
/-- The one operation that may come up makes memory: its run is known; what holds of the worlds from here on is S'. -/
theorem loudH (i : Nat) (hi : ops[i]? = some oi) (hw : Region.wanted oi (yielded ops a.tmps) = true) (hr : Region.ready md ops listed = [i]) (d : Option Tmp) (hd : oi.dst = d) (v : Value) (w' : World)
    (hrun : (execOp a.eval oi).run P w = .ok (.value v) w') (S' : World → Prop) (hS : ∀ w, S' w → S w) (hw' : S' w')
    (h : wpAnyH P md ops Q S' fuel (listed.setIfInBounds i true) (a.put d v) w') : wpAnyH P md ops Q S (fuel + 1) listed a w := by
  subst hd
  refine wpAnyH_ready (rs := [i]) hr (by simp) (AllReadyH.cons hi (fun K hK => ?_) AllReadyH.nil)
  rw [if_pos hw]
  unfold Oper.wp
  rw [hrun]
  exact hK.out _ _ (hS _ hw') (fun _ => wpAnyH_mono hS _ _ _ _ h)

/-- A conversion whose run is known in every world that meets S. -/
theorem yi_convert {o : Oper} (hw : Region.wanted o (yielded ops a.tmps) = true) (src dst : TypeId) (x : Operand) (ho : o.op = .convert src dst x) (v s : Value) (hx : a.eval x = v) (hr : ∀ w, S w → (convert src dst v).run P w = .ok s w) : YieldsIf P ops S o s a :=
  .inl ⟨hw, fun w hS => by
    unfold execOp
    simp only [ho, hx, Sem.run_bind, hr w hS, Result.andThen_ok]
    rfl⟩

/-- '+' on strings. -/
theorem yi_cat {o : Oper} (hw : Region.wanted o (yielded ops a.tmps) = true) (t t' : TypeId) (x y : Operand) (ho : o.op = .binOp .add t x y t') (s u r : ByteArray) (hx : a.eval x = .string s) (hy : a.eval y = .string u) (hr : s ++ u = r) (hm : r.size ≤ maxLen) : YieldsIf P ops S o (.string r) a :=
  .inl ⟨hw, fun w hS => by
    subst hr
    unfold execOp
    have hsz : (s ++ u).size = s.size + u.size := by simp [ByteArray.size_append]
    have hc : ¬ (((s.size + u.size : Nat) : Int) > IntKind.i64.max) := by
      rw [hsz] at hm
      simp only [maxLen] at hm
      simp [IntKind.max, IntKind.bits, IntKind.signed]
      omega
    simp only [ho, hx, hy]
    have h1 : (eqGuard BinOp.add t x y (Value.string s) (Value.string u)).run P w = .ok () w := by simp [eqGuard]
    have h2 : (binOp BinOp.add t (Value.string s) (Value.string u)).run P w = .ok (.string (s ++ u)) w := by
      rw [binOp_string_add]
      simp only [Op.stringOp]
      rw [if_neg hc]
      rfl
    simp only [Sem.run_bind, h1, h2, Result.andThen_ok]
    rfl⟩
end

theorem SR.prefix {w : World} {A : Option Addr} {n cap : Nat} {xs : List Value} (h : SR w (.slice A n cap) n 1 xs) (m : Nat) (hm : m ≤ n) : SR w (.slice A m cap) m 1 (xs.take m) := by
  have hl : xs.length = n := by simpa using h.1
  refine ⟨by simp [hl]; omega, ?_⟩
  rcases h.2 with ⟨h1, h2⟩ | ⟨a, c, h1, h2, h3, h4⟩
  · subst h2
    obtain rfl : m = 0 := by omega
    simp only [Value.slice.injEq] at h1
    obtain ⟨rfl, _, rfl⟩ := h1
    exact .inl ⟨rfl, rfl⟩
  · simp only [Value.slice.injEq] at h1
    obtain ⟨rfl, _, rfl⟩ := h1
    refine .inr ⟨a, cap, rfl, by omega, h3, fun h0 => ?_⟩
    obtain ⟨e1, e2, e3⟩ := h4 (by omega)
    refine ⟨e1, e2, fun i hi => ?_⟩
    rw [e3 i (by omega), List.getElem?_take_of_lt (by omega)]

end Go.Proofs.Ytbdcbkmacpameaa
