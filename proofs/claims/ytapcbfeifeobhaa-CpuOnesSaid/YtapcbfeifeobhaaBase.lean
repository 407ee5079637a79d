/- Small lemmas that all texts of this seat share: what an argument is, laws of operations whose run is known, bytes. -/
import Derived.Test.YtapcbfeifeobhaaRows
import Derived.WalkKit
import Derived.ProofKit
import Derived.OpenShut
import Derived.ShutString
import Derived.ChangeOld
import Derived.Below
import Derived.Carry
import Derived.WalkSpells
import Derived.WalkLawsBesides
import Derived.Lib.Hide
import Derived.Deep.QuietTactic
import Derived.BigQuiet
import Derived.Deep.WholeRow
import Derived.Great.BuildSlice
import Derived.DeepKeys
import Derived.Lib.EndianBits
import Derived.Handy
import Derived.Lib.QuietBelow
namespace Go.Proofs.Ytapcbfeifeobhaa
open Go.ChangeShapes Go.WideShapes Go.ChangeAt Go.RowKit
open Go.ChangeMaps (open_string shut_string)

theorem own : ownKnob Try.prog.godebug = none := by kernel_rfl
theorem laidOut : laidOutB Try.prog = true := by kernel_rfl

/-! ### What is known of an argument's cells -/

/-- The cells of a value that can be read: by the type's shape, so deep. -/
def Okay (P : Program) (w : World) : Nat → TypeId → List Value → Prop
  | 0, _, _ => False
  | n + 1, t, cs =>
    match P.underlying t with
    | some .bool => ∃ b, cs = [.bool b]
    | some (.int k) => ∃ x, cs = [.int k x] ∧ (Lit.int k x).wf = true
    | some .string => ∃ s : ByteArray, cs = [.string s] ∧ s.size ≤ maxLen
    | some (.slice e) => cs = [.slice none 0 0] ∨ ∃ a len cap, cs = [.slice (some a) len cap] ∧ len ≤ cap ∧ cap ≤ maxLen ∧
        ∀ i, i < len → ∃ l, w.cells? 0 (a.add (i * P.cellsOf e)) (P.cellsOf e) = some l ∧ Okay P w n e l
    | some (.struct fs) => cs.length = P.cellsOf t ∧ ∀ f ∈ fs.toList, Okay P w n f.type ((cs.drop f.offset).take (P.cellsOf f.type))
    | some (.array m e) => cs.length = P.cellsOf t ∧ ∀ i, i < m → Okay P w n e ((cs.drop (i * P.cellsOf e)).take (P.cellsOf e))
    | _ => True

theorem mapM_mem {α β : Type} (f : α → Option β) : ∀ (l : List α) (r : List β), l.mapM f = some r → ∀ x ∈ l, ∃ y, f x = some y := by
  intro l
  induction l with
  | nil => intro r _ x hx; cases hx
  | cons a l ih =>
    intro r h x hx
    simp only [List.mapM_cons, Option.bind_eq_bind, Option.pure_def, Option.bind_eq_some_iff] at h
    obtain ⟨y, hy, ys, hys, _⟩ := h
    rcases List.mem_cons.1 hx with rfl | hx
    · exact ⟨y, hy⟩
    · exact ih ys hys x hx

theorem okay_of_trod {H : Type} {enc : TypeId × Value → H} {P : Program} {w : World} {spare : Nat → Bool} : ∀ (n : Nat) (t : TypeId) (cs : List Value) (x : DataW H × List MemPlace),
    DataW.trod enc P w 0 spare true n t cs = some x → Okay P w n t cs := by
  intro n
  induction n with
  | zero => intro t cs x h; simp [DataW.trod] at h
  | succ n ih =>
    intro t cs x h
    unfold Okay
    unfold DataW.trod at h
    split
    · rename_i hu; simp only [hu] at h; split at h <;> simp_all
    · rename_i k hu
      simp only [hu] at h
      split at h <;> simp_all
    · rename_i hu; simp only [hu] at h; split at h <;> simp_all
    · rename_i e hu
      simp only [hu] at h
      split at h
      any_goals (simp_all; done)
      rename_i e' a len cap he
      simp only [Option.some.injEq, TypeDesc.slice.injEq] at he
      subst he
      split at h
      · rename_i hlc
        simp only [Option.bind_eq_some_iff] at h
        obtain ⟨els, hels, _⟩ := h
        refine .inr ⟨a, len, cap, rfl, hlc.2.1, hlc.2.2, fun i hi => ?_⟩
        obtain ⟨y, hy⟩ := mapM_mem _ _ _ hels i (by simpa using hi)
        simp only [Option.bind_eq_some_iff] at hy
        obtain ⟨l, hl, hy⟩ := hy
        exact ⟨l, hl, ih _ _ _ hy⟩
      · simp at h
    · rename_i fs hu
      simp only [hu] at h
      split at h
      · rename_i hlen
        simp only [Option.map_eq_some_iff] at h
        obtain ⟨xs, hxs, _⟩ := h
        refine ⟨hlen, fun f hf => ?_⟩
        obtain ⟨y, hy⟩ := mapM_mem _ _ _ hxs f hf
        exact ih _ _ _ hy
      · simp at h
    · rename_i m e hu
      simp only [hu] at h
      split at h
      · rename_i hlen
        simp only [Option.map_eq_some_iff] at h
        obtain ⟨xs, hxs, _⟩ := h
        refine ⟨hlen, fun i hi => ?_⟩
        obtain ⟨y, hy⟩ := mapM_mem _ _ _ hxs i (by simpa using hi)
        exact ih _ _ _ hy
      · simp at h
    · trivial

/-- An argument of a type: its value is formed, and it can be read. -/
def Arg (P : Program) (w : World) (t : TypeId) (v : Value) : Prop := (∃ r base, Value.okWide P w r base t v) ∧ ∃ n, Okay P w n t v.cells.toList

theorem Arg.mk {H : Type} {enc : TypeId × Value → H} {P : Program} {w : World} {spare : Nat → Bool} {t : TypeId} {v : Value} {d : DataW H} {ps : List MemPlace} {r : Reach} {base : Nat}
    (h : Value.okWide P w r base t v) (h' : DataW.Trod enc P w 0 spare true t v d ps) : Arg P w t v := by
  obtain ⟨n, hn⟩ := h'
  exact ⟨⟨r, base, h⟩, n, okay_of_trod n t _ _ hn⟩

section
variable {P : Program} {w : World} {t : TypeId} {v : Value}

theorem Arg.int {k : IntKind} (hu : P.underlying t = some (.int k)) (h : Arg P w t v) : ∃ x, v = .int k x ∧ (Lit.int k x).wf = true := by
  obtain ⟨⟨r, base, h1⟩, n, h2⟩ := h
  obtain ⟨x, rfl⟩ := okWide_int hu h1
  cases n with
  | zero => exact h2.elim
  | succ n =>
    simp only [Okay, hu, Value.cells] at h2
    obtain ⟨y, hy, hw⟩ := h2
    simp at hy
    exact ⟨x, rfl, by rw [hy]; exact hw⟩

theorem Arg.bool (hu : P.underlying t = some .bool) (h : Arg P w t v) : ∃ b, v = .bool b := by
  obtain ⟨⟨r, base, h1⟩, _⟩ := h
  exact okWide_bool hu h1

theorem Arg.string (hu : P.underlying t = some .string) (h : Arg P w t v) : ∃ s : ByteArray, v = .string s ∧ s.size ≤ maxLen := by
  obtain ⟨⟨r, base, h1⟩, n, h2⟩ := h
  obtain ⟨x, rfl⟩ := okWide_string hu h1
  cases n with
  | zero => exact h2.elim
  | succ n =>
    simp only [Okay, hu, Value.cells] at h2
    obtain ⟨y, hy, hw⟩ := h2
    simp at hy
    exact ⟨x, rfl, by rw [hy]; exact hw⟩

theorem Arg.slice {e : TypeId} (hu : P.underlying t = some (.slice e)) (h : Arg P w t v) :
    v = .slice none 0 0 ∨ ∃ a len cap, v = .slice (some a) len cap ∧ len ≤ cap ∧ cap ≤ maxLen ∧
      ∀ i, i < len → ∃ l, w.cells? 0 (a.add (i * P.cellsOf e)) (P.cellsOf e) = some l ∧ ∃ n, Okay P w n e l := by
  obtain ⟨⟨r, base, h1⟩, n, h2⟩ := h
  obtain ⟨a, len, cap, rfl⟩ := okWide_slice hu h1
  cases n with
  | zero => exact h2.elim
  | succ n =>
    simp only [Okay, hu, Value.cells] at h2
    rcases h2 with h2 | ⟨a', len', cap', h2, h3, h4, h5⟩
    · simp at h2; exact .inl (by simp [h2])
    · simp at h2
      obtain ⟨rfl, rfl, rfl⟩ := h2
      refine .inr ⟨a', len, cap, rfl, h3, h4, fun i hi => ?_⟩
      obtain ⟨l, hl, ho⟩ := h5 i hi
      exact ⟨l, hl, n, ho⟩

theorem Arg.struct {fs : Array Field} (hu : P.underlying t = some (.struct fs)) (h : Arg P w t v) :
    ∃ cs : Array Value, v = .agg cs ∧ cs.size = P.cellsOf t ∧ ∃ n, Okay P w n t cs.toList := by
  obtain ⟨⟨r, base, h1⟩, n, h2⟩ := h
  obtain ⟨cs, rfl, hs⟩ := okWide_struct hu h1
  exact ⟨cs, rfl, hs, n, h2⟩

theorem Arg.array {m : Nat} {e : TypeId} (hu : P.underlying t = some (.array m e)) (h : Arg P w t v) :
    ∃ cs : Array Value, v = .agg cs ∧ cs.size = P.cellsOf t ∧ ∃ n, Okay P w n t cs.toList := by
  obtain ⟨⟨r, base, h1⟩, n, h2⟩ := h
  unfold Value.okWide at h1
  simp only [hu] at h1
  obtain ⟨cs, rfl, hs, _⟩ := h1
  exact ⟨cs, rfl, hs, n, h2⟩

theorem Okay.int {k : IntKind} {n : Nat} {cs : List Value} (hu : P.underlying t = some (.int k)) (h : Okay P w n t cs) : ∃ x, cs = [.int k x] ∧ (Lit.int k x).wf = true := by
  cases n with
  | zero => exact h.elim
  | succ n => simpa only [Okay, hu] using h
theorem Okay.bool {n : Nat} {cs : List Value} (hu : P.underlying t = some .bool) (h : Okay P w n t cs) : ∃ b, cs = [.bool b] := by
  cases n with
  | zero => exact h.elim
  | succ n => simpa only [Okay, hu] using h
theorem Okay.string {n : Nat} {cs : List Value} (hu : P.underlying t = some .string) (h : Okay P w n t cs) : ∃ s : ByteArray, cs = [.string s] ∧ s.size ≤ maxLen := by
  cases n with
  | zero => exact h.elim
  | succ n => simpa only [Okay, hu] using h
theorem Okay.slice {e : TypeId} {n : Nat} {cs : List Value} (hu : P.underlying t = some (.slice e)) (h : Okay P w n t cs) :
    cs = [.slice none 0 0] ∨ ∃ a len cap, cs = [.slice (some a) len cap] ∧ len ≤ cap ∧ cap ≤ maxLen ∧
      ∀ i, i < len → ∃ l, w.cells? 0 (a.add (i * P.cellsOf e)) (P.cellsOf e) = some l ∧ ∃ n, Okay P w n e l := by
  cases n with
  | zero => exact h.elim
  | succ n =>
    simp only [Okay, hu] at h
    rcases h with h | ⟨a, len, cap, h1, h2, h3, h4⟩
    · exact .inl h
    · exact .inr ⟨a, len, cap, h1, h2, h3, fun i hi => let ⟨l, hl, ho⟩ := h4 i hi; ⟨l, hl, n, ho⟩⟩
theorem Okay.struct {fs : Array Field} {n : Nat} {cs : List Value} (hu : P.underlying t = some (.struct fs)) (h : Okay P w n t cs) :
    cs.length = P.cellsOf t ∧ ∀ f ∈ fs.toList, ∃ n, Okay P w n f.type ((cs.drop f.offset).take (P.cellsOf f.type)) := by
  cases n with
  | zero => exact h.elim
  | succ n => simp only [Okay, hu] at h; exact ⟨h.1, fun f hf => ⟨n, h.2 f hf⟩⟩
theorem Okay.array {m : Nat} {e : TypeId} {n : Nat} {cs : List Value} (hu : P.underlying t = some (.array m e)) (h : Okay P w n t cs) :
    cs.length = P.cellsOf t ∧ ∀ i, i < m → ∃ n, Okay P w n e ((cs.drop (i * P.cellsOf e)).take (P.cellsOf e)) := by
  cases n with
  | zero => exact h.elim
  | succ n => simp only [Okay, hu] at h; exact ⟨h.1, fun i hi => ⟨n, h.2 i hi⟩⟩

/-- An array of integers: its cells are numbers of its kind. -/
theorem Okay.ints {m : Nat} {e : TypeId} {k : IntKind} {n : Nat} {cs : List Value} (hu : P.underlying t = some (.array m e)) (he : P.underlying e = some (.int k)) (h1 : P.cellsOf e = 1) (hm : P.cellsOf t = m)
    (h : Okay P w n t cs) : ∃ zs : List Int, zs.length = m ∧ cs = zs.map (.int k) ∧ ∀ z ∈ zs, (Lit.int k z).wf = true := by
  obtain ⟨hl, ho⟩ := Okay.array hu h
  rw [hm] at hl
  rw [h1] at ho
  clear hm hu h
  induction m generalizing cs with
  | zero => exact ⟨[], rfl, List.eq_nil_of_length_eq_zero hl, fun z hz => by cases hz⟩
  | succ m ih =>
    cases cs with
    | nil => simp at hl
    | cons c cs =>
      obtain ⟨n0, h0⟩ := ho 0 (by omega)
      obtain ⟨x, hx, wx⟩ := Okay.int he h0
      simp at hx
      obtain ⟨zs, hz1, hz2, hz3⟩ := ih (cs := cs) (by simpa using hl) (fun i hi => by
        obtain ⟨n1, h1⟩ := ho (i + 1) (by omega)
        refine ⟨n1, ?_⟩
        simpa using h1)
      refine ⟨x :: zs, by simp [hz1], by simp [hx, hz2], fun z hz => ?_⟩
      rcases List.mem_cons.1 hz with rfl | hz
      · exact wx
      · exact hz3 z hz
end

/-! ### A value's cells, flat -/

/-- What stands in one cell: an integer, a bool, a string, a slice. -/
structure CK where
  tag : Nat
  kind : IntKind
  elem : TypeId

def CK.Fits (P : Program) (w : World) (c : CK) (v : Value) : Prop :=
  match c.tag with
  | 0 => ∃ x, v = .int c.kind x ∧ (Lit.int c.kind x).wf = true
  | 1 => ∃ b, v = .bool b
  | 2 => ∃ s : ByteArray, v = .string s ∧ s.size ≤ maxLen
  | _ => v = .slice none 0 0 ∨ ∃ a len cap, v = .slice (some a) len cap ∧ len ≤ cap ∧ cap ≤ maxLen ∧
      ∀ i, i < len → ∃ l, w.cells? 0 (a.add (i * P.cellsOf c.elem)) (P.cellsOf c.elem) = some l ∧ ∃ n, Okay P w n c.elem l

def FitsAll (P : Program) (w : World) : List CK → List Value → Prop
  | [], [] => True
  | k :: ks, v :: vs => k.Fits P w v ∧ FitsAll P w ks vs
  | _, _ => False

def structKinds (P : Program) (K : TypeId → Option (List CK)) : List Field → Nat → Option (List CK)
  | [], _ => some []
  | f :: fs, off =>
    match K f.type with
    | some ks => if f.offset = off ∧ P.cellsOf f.type = ks.length then (structKinds P K fs (off + ks.length)).map (ks ++ ·) else none
    | none => none

def cellKinds (P : Program) : Nat → TypeId → Option (List CK)
  | 0, _ => none
  | d + 1, t =>
    match P.underlying t with
    | some .bool => some [⟨1, .i64, 0⟩]
    | some (.int k) => some [⟨0, k, 0⟩]
    | some .string => some [⟨2, .i64, 0⟩]
    | some (.slice e) => some [⟨3, .i64, e⟩]
    | some (.struct fs) => (structKinds P (cellKinds P d) fs.toList 0).bind fun ks => if ks.length = P.cellsOf t then some ks else none
    | some (.array n e) => (cellKinds P d e).bind fun ks => if P.cellsOf e = ks.length ∧ P.cellsOf t = n * ks.length then some (List.replicate n ks).flatten else none
    | _ => none

theorem FitsAll.append {P : Program} {w : World} : ∀ {ks : List CK} {vs : List Value} {ls : List CK} {us : List Value}, FitsAll P w ks vs → FitsAll P w ls us → FitsAll P w (ks ++ ls) (vs ++ us)
  | [], [], _, _, _, h => h
  | _ :: _, _ :: _, _, _, ⟨h1, h2⟩, h => ⟨h1, FitsAll.append h2 h⟩
  | [], _ :: _, _, _, h, _ => h.elim
  | _ :: _, [], _, _, h, _ => h.elim

theorem fits_struct {P : Program} {w : World} {K : TypeId → Option (List CK)} (hK : ∀ t n cs ks, Okay P w n t cs → K t = some ks → FitsAll P w ks cs) (cs : List Value) : ∀ (fs : List Field) (off : Nat) (ks : List CK),
    (∀ f ∈ fs, ∃ n, Okay P w n f.type ((cs.drop f.offset).take (P.cellsOf f.type))) → structKinds P K fs off = some ks → FitsAll P w ks ((cs.drop off).take ks.length)
  | [], _, ks, _, h => by simp only [structKinds, Option.some.injEq] at h; subst h; simp [FitsAll]
  | f :: fs, off, ks, ho, h => by
    unfold structKinds at h
    split at h
    · rename_i k1 hk1
      split at h
      · rename_i hc
        simp only [Option.map_eq_some_iff] at h
        obtain ⟨rest, hr, rfl⟩ := h
        obtain ⟨n, hn⟩ := ho f (by simp)
        have h1 := hK _ _ _ _ hn hk1
        rw [hc.1, hc.2] at h1
        have h2 := fits_struct hK cs fs (off + k1.length) rest (fun g hg => ho g (by simp [hg])) hr
        have e : (cs.drop off).take (k1 ++ rest).length = (cs.drop off).take k1.length ++ (cs.drop (off + k1.length)).take rest.length := by
          rw [List.length_append, List.take_add, List.drop_drop]
        rw [e]
        exact h1.append h2
      · cases h
    · cases h

theorem fits_array {P : Program} {w : World} {ks : List CK} (cs : List Value) : ∀ (n off : Nat), (∀ i, i < n → FitsAll P w ks ((cs.drop (off + i * ks.length)).take ks.length)) → FitsAll P w (List.replicate n ks).flatten ((cs.drop off).take (n * ks.length))
  | 0, _, _ => by simp [FitsAll]
  | n + 1, off, h => by
    have h0 := h 0 (by omega)
    have ih := fits_array cs n (off + ks.length) (fun i hi => by
      have := h (i + 1) (by omega)
      rwa [show off + (i + 1) * ks.length = off + ks.length + i * ks.length by rw [Nat.add_mul]; omega] at this)
    rw [List.replicate_succ, List.flatten_cons, show (n + 1) * ks.length = ks.length + n * ks.length by rw [Nat.add_mul]; omega, List.take_add, List.drop_drop]
    simp only [Nat.zero_mul, Nat.add_zero] at h0
    exact h0.append ih

theorem Okay.fits {P : Program} {w : World} : ∀ (d : Nat) (t : TypeId) (n : Nat) (cs : List Value) (ks : List CK), Okay P w n t cs → cellKinds P d t = some ks → FitsAll P w ks cs := by
  intro d
  induction d with
  | zero => intro t n cs ks _ h; cases h
  | succ d ih =>
    intro t n cs ks ho h
    unfold cellKinds at h
    split at h
    · rename_i hu
      obtain ⟨b, rfl⟩ := Okay.bool hu ho
      simp only [Option.some.injEq] at h; subst h
      exact ⟨⟨b, rfl⟩, trivial⟩
    · rename_i k hu
      obtain ⟨x, rfl, hx⟩ := Okay.int hu ho
      simp only [Option.some.injEq] at h; subst h
      exact ⟨⟨x, rfl, hx⟩, trivial⟩
    · rename_i hu
      obtain ⟨x, rfl, hx⟩ := Okay.string hu ho
      simp only [Option.some.injEq] at h; subst h
      exact ⟨⟨x, rfl, hx⟩, trivial⟩
    · rename_i e hu
      simp only [Option.some.injEq] at h; subst h
      rcases Okay.slice hu ho with rfl | ⟨a, len, cap, rfl, h2⟩
      · exact ⟨.inl rfl, trivial⟩
      · exact ⟨.inr ⟨a, len, cap, rfl, h2⟩, trivial⟩
    · rename_i fs hu
      simp only [Option.bind_eq_some_iff] at h
      obtain ⟨k1, h1, h2⟩ := h
      split at h2
      · rename_i hl
        simp only [Option.some.injEq] at h2; subst h2
        obtain ⟨hlen, hf⟩ := Okay.struct hu ho
        have := fits_struct (fun t n cs ks h h' => ih t n cs ks h h') cs fs.toList 0 k1 hf h1
        rwa [List.drop_zero, List.take_of_length_le (by omega)] at this
      · cases h2
    · rename_i m e hu
      simp only [Option.bind_eq_some_iff] at h
      obtain ⟨k1, h1, h2⟩ := h
      split at h2
      · rename_i hl
        simp only [Option.some.injEq] at h2; subst h2
        obtain ⟨hlen, hf⟩ := Okay.array hu ho
        have := fits_array (w := w) (P := P) (ks := k1) cs m 0 (fun i hi => by
          obtain ⟨n1, hn1⟩ := hf i hi
          rw [hl.1] at hn1
          rw [Nat.zero_add]
          exact ih _ _ _ _ hn1 h1)
        rwa [List.drop_zero, List.take_of_length_le (by omega)] at this
      · cases h2
    · cases h

theorem FitsAll.cons {P : Program} {w : World} {k : CK} {ks : List CK} {vs : List Value} (h : FitsAll P w (k :: ks) vs) : ∃ v us, vs = v :: us ∧ k.Fits P w v ∧ FitsAll P w ks us := by
  cases vs with
  | nil => exact h.elim
  | cons v us => exact ⟨v, us, rfl, h.1, h.2⟩
theorem FitsAll.nil {P : Program} {w : World} {vs : List Value} (h : FitsAll P w [] vs) : vs = [] := by
  cases vs with
  | nil => rfl
  | cons v us => exact h.elim

/-- An argument that is a struct or an array: its cells. -/
theorem Arg.flat {P : Program} {w : World} {t : TypeId} {v : Value} (hu : (∃ fs, P.underlying t = some (.struct fs)) ∨ ∃ m e, P.underlying t = some (.array m e)) (d : Nat) {ks : List CK} (hk : cellKinds P d t = some ks) (h : Arg P w t v) :
    ∃ cs : List Value, v = .agg cs.toArray ∧ FitsAll P w ks cs := by
  rcases hu with ⟨fs, hu⟩ | ⟨m, e, hu⟩
  · obtain ⟨cs, rfl, _, n, hn⟩ := Arg.struct hu h
    exact ⟨cs.toList, by simp, Okay.fits d t n _ _ hn hk⟩
  · obtain ⟨cs, rfl, _, n, hn⟩ := Arg.array hu h
    exact ⟨cs.toList, by simp, Okay.fits d t n _ _ hn hk⟩

/-! ### Operations whose run is known -/

section
variable {P : Program} {ops : Array Oper} {Q : Exit → Act → World → Prop} {a : Act} {w w' : World} {rest : List Oper} {o : Oper}

/-- An operation whose run is known. -/
theorem wpList_run {v : Value} (hg : o.guard = none) (d : Option Tmp) (hd : o.dst = d)
    (hr : (execOp a.eval o).run P w = .ok (.value v) w') (h : wpList P ops Q rest (a.put d v) w') : wpList P ops Q (o :: rest) a w := by
  subst hd
  refine wpList_plain hg fun K hK => ?_
  unfold Oper.wp
  rw [hr]
  exact hK _ _ h

/-- A new variable whose zero value is known. -/
theorem wpList_allocTo (hg : o.guard = none) (t : TypeId) (ho : o.op = .alloc t) (d : Option Tmp) (hd : o.dst = d)
    (z : Value) (hz : ((P.info? t).bind (·.zero)) = some z)
    (h : wpList P ops Q rest (a.put d (.pointer (some ⟨w.heap.size, 0, none⟩))) (w.alloc (.cells z.cells t))) : wpList P ops Q (o :: rest) a w := by
  subst hd
  refine wpList_plain hg fun K hK => ?_
  cases hi : P.info? t with
  | none => simp [hi] at hz
  | some i =>
    simp only [hi, Option.bind_some] at hz
    unfold Oper.wp execOp
    simp [ho, Instr.alloc, zeroValue, typeInfo, hi, hz, newVar, newRow]
    exact hK _ _ h

/-- A slice literal whose cells are known. -/
theorem wpList_sliceTo (hg : o.guard = none) (t e : TypeId) (len : Nat) (parts : Array (Nat × Operand)) (ho : o.op = .buildSlice t len parts) (d : Option Tmp) (hd : o.dst = d)
    (cells : Array Value) (hr : ∀ w, (Instr.buildSlice t len (parts.map fun (i, x) => (i, a.eval x))).run P w = .ok (.slice (some ⟨w.heap.size, 0, none⟩) len len) (w.alloc (.cells cells e)))
    (h : wpList P ops Q rest (a.put d (.slice (some ⟨w.heap.size, 0, none⟩) len len)) (w.alloc (.cells cells e))) : wpList P ops Q (o :: rest) a w := by
  refine wpList_run hg d hd (w' := w.alloc (.cells cells e)) ?_ h
  unfold execOp
  simp only [ho, Sem.run_bind, hr, Result.andThen_ok]
  rfl
end

/-! ### '==' on arrays and structs -/

section
variable {P : Program} {ops : Array Oper} {Q : Exit → Act → World → Prop} {a : Act} {w w' : World} {rest : List Oper} {o : Oper}

/-- An operation whose run is known, guarded or not. -/
theorem wpList_by {v : Value} (hw : Region.wanted o (yielded ops a.tmps) = true) (d : Option Tmp) (hd : o.dst = d)
    (hr : (execOp a.eval o).run P w = .ok (.value v) w') (h : wpList P ops Q rest (a.put d v) w') : wpList P ops Q (o :: rest) a w := by
  subst hd
  refine wpList_step fun K hK => ?_
  rw [if_pos hw]
  unfold Oper.wp
  rw [hr]
  exact hK _ _ h

theorem exec_eql {ρ : Operand → Value} {t t' : TypeId} {x y : Operand} {xs ys : Array Value} {b : Bool} (ho : o.op = .binOp .eql t x y t') (hx : ρ x = .agg xs) (hy : ρ y = .agg ys)
    (hm : P.eqGuardType P.depth t = false) (hr : (Op.equalIn 10000 t (.agg xs) (.agg ys)).run P w = .ok b w) : (execOp ρ o).run P w = .ok (.value (.bool b)) w := by
  unfold execOp
  simp only [ho, hx, hy, Sem.run_bind, run_eqGuard_agg w .eql t x y xs ys hm, Result.andThen_ok, run_eql_struct, hr]
  rfl
theorem exec_neq {ρ : Operand → Value} {t t' : TypeId} {x y : Operand} {xs ys : Array Value} {b : Bool} (ho : o.op = .binOp .neq t x y t') (hx : ρ x = .agg xs) (hy : ρ y = .agg ys)
    (hm : P.eqGuardType P.depth t = false) (hr : (Op.equalIn 10000 t (.agg xs) (.agg ys)).run P w = .ok b w) : (execOp ρ o).run P w = .ok (.value (.bool (!b))) w := by
  unfold execOp
  simp only [ho, hx, hy, Sem.run_bind, run_eqGuard_agg w .neq t x y xs ys hm, Result.andThen_ok, run_neq_struct, hr]
  rfl

/-- '==' on values of a type of integers, bools and strings, however deep: are their numbers the same? -/
theorem equal_key {t : TypeId} (m : Nat) (hm : m ≤ 10000) (hk : P.keyTypeAt m t = true) {x y : Value} {D D' : Nat} {lx ly : List Lit} (fx : x.formed P t = true) (fy : y.formed P t = true)
    (hx : P.keyLits D t x.cells.toList = some lx) (hy : P.keyLits D' t y.cells.toList = some ly) {b : Bool} (hb : b = true ↔ lx = ly) : (Op.equalIn 10000 t x y).run P w = .ok b w := by
  have := run_equalIn_deep (P := P) (10000 - m) m t hk w D D' x y lx ly fx fy hx hy
  rw [show 10000 - m + m = 10000 by omega] at this
  obtain ⟨r, hr, hiff⟩ := this
  rw [hr]
  congr 1
  rw [Bool.eq_iff_iff, hiff, hb]

theorem flatten_one {α β : Type} (f : α → β) : ∀ l : List α, (l.map fun z => [f z]).flatten = l.map f
  | [] => rfl
  | a :: l => by simp [flatten_one f l]

theorem keyLits_ints {t e : TypeId} {k : IntKind} {n : Nat} (hu : P.underlying t = some (.array n e)) (he : P.underlying e = some (.int k)) (h1 : P.cellsOf e = 1) (hc : P.cellsOf t = n)
    {zs : List Int} (hl : zs.length = n) (hw : ∀ z ∈ zs, (Lit.int k z).wf = true) : P.keyLits 2 t (zs.map (Value.int k)) = some (zs.map (Lit.int k)) := by
  have key : ∀ (zs : List Int) (j : Nat) (pre : List Value), pre.length = j → (∀ z ∈ zs, (Lit.int k z).wf = true) →
      ((List.range' j zs.length).mapM fun i => P.keyLits 1 e (((pre ++ zs.map (Value.int k)).drop i).take 1)) = some (zs.map fun z => [Lit.int k z]) := by
    intro zs
    induction zs with
    | nil => intro j pre _ _; simp
    | cons z zs ih =>
      intro j pre hj hw
      have h0 : P.keyLits 1 e [Value.int k z] = some [Lit.int k z] := by simp [Program.keyLits, he, hw z (by simp)]
      have := ih (j + 1) (pre ++ [Value.int k z]) (by simp [hj]) (fun z hz => hw z (by simp [hz]))
      simp only [List.append_assoc, List.singleton_append] at this
      simp only [List.length_cons, List.range'_succ, List.mapM_cons, List.map_cons]
      have hd : ((pre ++ Value.int k z :: zs.map (Value.int k)).drop j).take 1 = [Value.int k z] := by
        subst hj; simp
      rw [hd, h0, this]
      rfl
  have h2 := key zs 0 [] rfl hw
  unfold Program.keyLits
  simp only [hu, List.length_map, hc, hl, h1, if_true, Nat.mul_one]
  rw [← hl, List.range_eq_range', ]
  simp only [List.nil_append] at h2
  rw [h2]
  simp only [Option.map_some, flatten_one]

theorem lits_inj (k : IntKind) : ∀ (xs ys : List Int), (xs.map (Lit.int k) = ys.map (Lit.int k)) ↔ xs = ys
  | [], [] => by simp
  | [], _ :: _ => by simp
  | _ :: _, [] => by simp
  | x :: xs, y :: ys => by simp [lits_inj k xs ys]

/-- '==' on arrays of integers. -/
theorem equal_ints {t e : TypeId} {k : IntKind} {n : Nat} (hu : P.underlying t = some (.array n e)) (he : P.underlying e = some (.int k)) (h1 : P.cellsOf e = 1) (hc : P.cellsOf t = n)
    {xs ys : List Int} (hx : xs.length = n) (hy : ys.length = n) (wx : ∀ z ∈ xs, (Lit.int k z).wf = true) (wy : ∀ z ∈ ys, (Lit.int k z).wf = true) :
    (Op.equalIn 10000 t (.agg (xs.map (Value.int k)).toArray) (.agg (ys.map (Value.int k)).toArray)).run P w = .ok (decide (xs = ys)) w := by
  rw [equal_key 2 (by omega) (by simp [Program.keyTypeAt, hu, he]) (D := 2) (D' := 2) (lx := xs.map (Lit.int k)) (ly := ys.map (Lit.int k))
    (by simp [Value.formed, hu, hc, hx]) (by simp [Value.formed, hu, hc, hy]) (by simpa [Value.cells] using keyLits_ints hu he h1 hc hx wx) (by simpa [Value.cells] using keyLits_ints hu he h1 hc hy wy) (b := decide (xs = ys)) (by rw [lits_inj]; simp)]
end

/-! ### Bytes -/

theorem bytes_eq {a b : ByteArray} (h : a.toList = b.toList) : a = b := by
  rw [ByteArray.toList_eq, ByteArray.toList_eq] at h
  cases a; cases b
  simp at h
  subst h; rfl
theorem bytes_beq (a b : ByteArray) : (a.toList == b.toList) = decide (a = b) := by
  rw [Bool.eq_iff_iff]
  simp only [beq_iff_eq, decide_eq_true_eq]
  exact ⟨bytes_eq, fun h => by rw [h]⟩

/-! ### What fits a kind -/

theorem wf_u8 {x : Int} (h : (Lit.int .u8 x).wf = true) : 0 ≤ x ∧ x ≤ 255 := by simp [Lit.wf, IntKind.min, IntKind.max, IntKind.bits, IntKind.signed] at h; omega
theorem wf_u16 {x : Int} (h : (Lit.int .u16 x).wf = true) : 0 ≤ x ∧ x ≤ 65535 := by simp [Lit.wf, IntKind.min, IntKind.max, IntKind.bits, IntKind.signed] at h; omega
theorem wf_u32 {x : Int} (h : (Lit.int .u32 x).wf = true) : 0 ≤ x ∧ x ≤ 4294967295 := by simp [Lit.wf, IntKind.min, IntKind.max, IntKind.bits, IntKind.signed] at h; omega
theorem wf_i16 {x : Int} (h : (Lit.int .i16 x).wf = true) : -32768 ≤ x ∧ x ≤ 32767 := by simp [Lit.wf, IntKind.min, IntKind.max, IntKind.bits, IntKind.signed] at h; omega
theorem wf_i32 {x : Int} (h : (Lit.int .i32 x).wf = true) : -2147483648 ≤ x ∧ x ≤ 2147483647 := by simp [Lit.wf, IntKind.min, IntKind.max, IntKind.bits, IntKind.signed] at h; omega
theorem wf_i64 {x : Int} (h : (Lit.int .i64 x).wf = true) : -9223372036854775808 ≤ x ∧ x ≤ 9223372036854775807 := by simp [Lit.wf, IntKind.min, IntKind.max, IntKind.bits, IntKind.signed] at h; omega
theorem u8_wf {x : Int} (h : 0 ≤ x ∧ x ≤ 255) : (Lit.int .u8 x).wf = true := by simp [Lit.wf, IntKind.min, IntKind.max, IntKind.bits, IntKind.signed]; omega
theorem u16_wf {x : Int} (h : 0 ≤ x ∧ x ≤ 65535) : (Lit.int .u16 x).wf = true := by simp [Lit.wf, IntKind.min, IntKind.max, IntKind.bits, IntKind.signed]; omega
theorem u32_wf {x : Int} (h : 0 ≤ x ∧ x ≤ 4294967295) : (Lit.int .u32 x).wf = true := by simp [Lit.wf, IntKind.min, IntKind.max, IntKind.bits, IntKind.signed]; omega
theorem i64_wf {x : Int} (h : -9223372036854775808 ≤ x ∧ x ≤ 9223372036854775807) : (Lit.int .i64 x).wf = true := by simp [Lit.wf, IntKind.min, IntKind.max, IntKind.bits, IntKind.signed]; omega

/-! ### What is left as it was -/

theorem bcell {W w1 : World} (hb : Below W.heap.size W w1) : (∀ b o, b < W.heap.size → w1.cell? ⟨b, o, none⟩ = W.cell? ⟨b, o, none⟩) ∧ (∀ b o, b < W.heap.size → w1.frozen? ⟨b, o, none⟩ = W.frozen? ⟨b, o, none⟩) :=
  ⟨fun b o h => hb.cell (p := ⟨b, o, none⟩) h, fun b o h => hb.frozen (p := ⟨b, o, none⟩) h⟩
theorem bkeep {W w : World} {g : Nat} {x : Obj} (hb : Below W.heap.size W w) (h : W.heap[g]? = some x) : w.heap[g]? = some x := by
  rw [hb.block g (Array.getElem?_eq_some_iff.1 h).1]; exact h
theorem rowcell {w : World} {g : Nat} {cs : Array Value} {t : TypeId} {fr : Nat × Nat} (h : w.heap[g]? = some (.cells cs t fr)) : ∀ o, w.cell? ⟨g, o, none⟩ = cs[o]? := fun o => cell_of_row w g o cs t fr h
theorem rowfree {w : World} {g : Nat} {cs : Array Value} {t : TypeId} (h : w.heap[g]? = some (.cells cs t (0, 0))) : ∀ o, w.frozen? ⟨g, o, none⟩ = false := fun o => frozen_of_row w g o cs t h
theorem rowlt {w : World} {g : Nat} {x : Obj} (h : w.heap[g]? = some x) : g < w.heap.size := (Array.getElem?_eq_some_iff.1 h).1
theorem bafter {B : Nat} {a w w' : World} (h : Below B a w) (h' : Below w.heap.size w w') (hB : B ≤ w.heap.size) : Below B a w' := h.trans (h'.mono hB)
theorem bnext {a w w' : World} (h : Below a.heap.size a w) (h' : Below w.heap.size w w') : Below a.heap.size a w' := h.trans (h'.mono h.size)
theorem bdrewN {B : Nat} {a w : World} (h : Below B a w) (n : Nat) : Below B a (w.drewN n) := ⟨h.os, h.tape, h.output, h.size, h.block⟩
theorem bnew (w : World) (o : Obj) : Below w.heap.size w (w.alloc o) := (Below.refl _ _).alloc (Nat.le_refl _) _
theorem bnewAfter {a w : World} (h : Below a.heap.size a w) (o : Obj) : Below a.heap.size a (w.alloc o) := h.alloc h.size _

/-! ### A region that draws its order, whose callees may lay blocks -/

section
variable {P : Program} {ops : Array Oper} {C : World → Prop} {Q : Act → Prop} {a : Act} {w : World} {rest : List Oper} {o : Oper}

/-- An operation that yields a known value in every world of the class. -/
theorem quiet_by {v : Value} (hw : Region.wanted o (yielded ops a.tmps) = true) (d : Option Tmp) (hd : o.dst = d)
    (hr : ∀ w, (execOp a.eval o).run P w = .ok (.value v) w) (h : wpQuiet P ops C Q rest (a.put d v)) : wpQuiet P ops C Q (o :: rest) a := by
  subst hd
  refine wpQuiet_step fun K hK => ?_
  rw [if_pos hw]
  exact ⟨v, fun w _ => by unfold Oper.quietAt; rw [hr]; exact ⟨rfl, rfl⟩, hK _ h⟩

/-- A block that is there already, in every world of the class. -/
theorem regrown_keep {g : Nat} {x : Obj} (h : w.heap[g]? = some x) (d : Nat) (os : Array Obj) : (Go.Sort.grow (redrawn w d) os).heap[g]? = some x := bkeep (below_regrown w d os) h
end

theorem ret_int {k : IntKind} {a b : Int} (h : a = b) : Ending.returned (.int k a) = .returned (.int k b) := by rw [h]
theorem ret_bool {a b : Bool} (h : a = b) : Ending.returned (.bool a) = .returned (.bool b) := by rw [h]
theorem ret_pair {a b : Value} {c d : Value} (h : a = b) (h' : c = d) : Ending.returned (.tuple #[a, c]) = .returned (.tuple #[b, d]) := by rw [h, h']
theorem val_int {k : IntKind} {a b : Int} (h : a = b) : Value.int k a = .int k b := by rw [h]
theorem val_bool {a b : Bool} (h : a = b) : Value.bool a = .bool b := by rw [h]

/-- The end of a walk of a law: nothing that was there has turned. -/
theorem law_end {w : World} {e : Ending} {w' : World} {b : Bool} (he : e = .returned (.bool b)) (hb : b = true) (h : Below w.heap.size w w') :
    e = .returned (.bool true) ∧ Below w.heap.size w w' := ⟨by rw [he, hb], h⟩

end Go.Proofs.Ytapcbfeifeobhaa
