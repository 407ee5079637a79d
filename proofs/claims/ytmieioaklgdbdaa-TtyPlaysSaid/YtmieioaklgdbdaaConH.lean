/- Sizes as arguments; the configuration of one (Size.Conf); what the laws read of a configuration. -/
import Derived.Test.YtmieioaklgdbdaaConG
set_option linter.unusedVariables false
set_option linter.unusedSimpArgs false
namespace Go.Proofs.Ytmieioaklgdbdaa
open Go.RowKit

theorem SR.of_fits {P : Program} {w : World} {e : TypeId} {v : Value} (hs : 0 < P.cellsOf e) (h : v = .slice none 0 0 ∨ ∃ a len cap, v = .slice (some a) len cap ∧ len ≤ cap ∧ cap ≤ maxLen ∧ ∀ i, i < len → ∃ l, w.cells? 0 (a.add (i * P.cellsOf e)) (P.cellsOf e) = some l ∧ ∃ n, Okay P w n e l) :
    ∃ n xs, SR w v n (P.cellsOf e) xs ∧ ∀ i, i < n → ∃ m, Okay P w m e ((xs.drop (i * P.cellsOf e)).take (P.cellsOf e)) := by
  rcases h with rfl | ⟨a, len, cap, rfl, h1, h2, h3⟩
  · exact ⟨0, [], SR.nil w _, fun i hi => by omega⟩
  · generalize P.cellsOf e = c at *
    have hcell : ∀ i, i < len → ∃ l, l.length = c ∧ (∀ j, j < c → w.cell? ((a.add (i * c)).add j) = l[j]?) ∧ ∃ m, Okay P w m e l := by
      intro i hi
      obtain ⟨l, hl, ho⟩ := h3 i hi
      unfold World.cells? at hl
      rw [if_pos (Nat.zero_le _)] at hl
      obtain ⟨e1, e2⟩ := mapM_get _ _ _ hl
      refine ⟨l, by simpa using e1, fun j hj => ?_, ho⟩
      obtain ⟨x, hx, hf⟩ := e2 j (by simpa using hj)
      rw [List.getElem?_range hj] at hx
      cases hx
      exact hf
    rcases Nat.eq_zero_or_pos len with rfl | hn
    · exact ⟨0, [], ⟨by simp, .inr ⟨a, cap, rfl, h1, h2, fun h => by omega⟩⟩, fun i hi => by omega⟩
    · have hspot : a.spot = none ∧ a.block < w.heap.size := by
        obtain ⟨l, hl, hc, _⟩ := hcell 0 hn
        have h0 := hc 0 hs
        have e0 : (a.add (0 * c)).add 0 = a := by simp [Addr.add]
        rw [e0, List.getElem?_eq_getElem (by omega)] at h0
        exact ⟨World.cell?_spot h0, block_lt_of_cell h0⟩
      have key : ∀ i, i < len → ∃ l, l.length = c ∧ (∀ j, j < c → w.cell? ⟨a.block, a.off + (i * c + j), none⟩ = l[j]?) ∧ ∃ m, Okay P w m e l := by
        intro i hi
        obtain ⟨l, hl, hc, ho⟩ := hcell i hi
        refine ⟨l, hl, fun j hj => ?_, ho⟩
        have := hc j hj
        rw [addr_add a hspot.1, addr_add _ rfl] at this
        rw [← Nat.add_assoc]
        exact this
      have get : ∀ k, k < len * c → ∃ u, w.cell? ⟨a.block, a.off + k, none⟩ = some u := by
        intro k hk
        have hk' : k / c < len := Nat.div_lt_of_lt_mul (by rw [Nat.mul_comm]; exact hk)
        obtain ⟨l, hl, hc, _⟩ := key (k / c) hk'
        have := hc (k % c) (Nat.mod_lt _ hs)
        rw [Nat.mul_comm, Nat.div_add_mod, List.getElem?_eq_getElem (by rw [hl]; exact Nat.mod_lt _ hs)] at this
        exact ⟨_, this⟩
      refine ⟨len, (List.range (len * c)).map fun k => (w.cell? ⟨a.block, a.off + k, none⟩).getD undef, ⟨by simp, .inr ⟨a, cap, rfl, h1, h2, fun _ => ⟨hspot.1, hspot.2, fun k hk => ?_⟩⟩⟩, fun i hi => ?_⟩
      · obtain ⟨u, hu⟩ := get k hk
        rw [List.getElem?_map, List.getElem?_range hk, hu]
        simp [hu]
      · obtain ⟨l, hl, hc, m, ho⟩ := key i hi
        refine ⟨m, ?_⟩
        have e : (((List.range (len * c)).map fun k => (w.cell? ⟨a.block, a.off + k, none⟩).getD undef).drop (i * c)).take c = l := by
          apply List.ext_getElem?
          intro j
          by_cases hj : j < c
          · have hik : i * c + j < len * c := by
              have : (i + 1) * c ≤ len * c := Nat.mul_le_mul_right c hi
              rw [Nat.add_mul] at this
              omega
            rw [List.getElem?_take_of_lt hj, List.getElem?_drop, List.getElem?_map, List.getElem?_range hik, ← hc j hj]
            obtain ⟨u, hu⟩ := get (i * c + j) hik
            simp [hu]
          · rw [List.getElem?_eq_none (by simp; omega), List.getElem?_eq_none (by omega)]
        rw [e]
        exact ho
theorem SI.of_fits {P : Program} {w : World} {k : IntKind} {e : TypeId} {v : Value} (he : P.underlying e = some (.int k)) (hs : P.cellsOf e = 1) (h : v = .slice none 0 0 ∨ ∃ a len cap, v = .slice (some a) len cap ∧ len ≤ cap ∧ cap ≤ maxLen ∧ ∀ i, i < len → ∃ l, w.cells? 0 (a.add (i * P.cellsOf e)) (P.cellsOf e) = some l ∧ ∃ n, Okay P w n e l) : ∃ zs, SI w k v zs := by
  obtain ⟨n, xs, hr, ho⟩ := SR.of_fits (by omega) h
  rw [hs] at hr ho
  have hl : xs.length = n := by simpa using hr.1
  have each : ∀ (xs : List Value), (∀ i, i < xs.length → ∃ m, Okay P w m e ((xs.drop i).take 1)) → ∃ zs : List Int, xs = zs.map (.int k) ∧ ∀ z ∈ zs, (Lit.int k z).wf = true := by
    intro xs
    induction xs with
    | nil => intro _; exact ⟨[], rfl, fun z hz => by cases hz⟩
    | cons x xs ih =>
      intro ho
      obtain ⟨m, h0⟩ := ho 0 (by simp)
      obtain ⟨z, hz, wz⟩ := Okay.int he h0
      simp at hz
      obtain ⟨zs, e1, e2⟩ := ih (fun i hi => by simpa using ho (i + 1) (by simpa using hi))
      refine ⟨z :: zs, by simp [hz, e1], fun y hy => ?_⟩
      rcases List.mem_cons.1 hy with rfl | hy
      · exact wz
      · exact e2 y hy
  obtain ⟨zs, rfl, hw⟩ := each xs (fun i hi => by simpa using ho i (by omega))
  refine ⟨zs, ?_, hw⟩
  have : zs.length = n := by simpa using hl
  rw [this]
  exact hr


theorem SizeV.keep {w w' : World} {v : Value} {s : SizeL} (h : SizeV w v s) (hb : Below w.heap.size w w') : SizeV w' v s := by
  obtain ⟨X, tv, h1, h2, h3, h4, h5, h6, h7, h8⟩ := h
  exact ⟨X, tv, h1, h2, h3, h4, h5, h6.keep hb, h7, h8⟩

theorem FitsAll.get {P : Program} {w : World} : ∀ {ks : List CK} {vs : List Value}, FitsAll P w ks vs → vs.length = ks.length ∧ ∀ (i : Nat) (k : CK), ks[i]? = some k → ∃ v, vs[i]? = some v ∧ k.Fits P w v
  | [], [], _ => ⟨rfl, fun i k h => by simp at h⟩
  | k :: ks, v :: vs, ⟨h1, h2⟩ => by
    obtain ⟨e, h⟩ := FitsAll.get h2
    refine ⟨by simp [e], fun i c hc => ?_⟩
    rcases i with _ | i
    · simp at hc; subst hc; exact ⟨v, by simp, h1⟩
    · simpa using h i c (by simpa using hc)
  | [], _ :: _, h => h.elim
  | _ :: _, [], h => h.elim

def sizeKinds : List CK := ⟨0, .u8, 0⟩ :: (List.replicate 25 ⟨0, .u8, 0⟩ ++ [⟨3, .i64, 5⟩])
theorem sizeKinds_low : ∀ i, i < 26 → sizeKinds[i]? = some ⟨0, .u8, 0⟩ := by
  intro i hi
  rcases i with _ | i
  · rfl
  · simp only [sizeKinds, List.getElem?_cons_succ]
    rw [List.getElem?_append_left (by simp; omega), List.getElem?_replicate, if_pos (by omega)]
def sizeZ : Array Value := #[.int .u8 0, .int .u8 0, .int .u8 0, .int .u8 0, .int .u8 0, .int .u8 0, .int .u8 0, .int .u8 0, .int .u8 0, .int .u8 0, .int .u8 0, .int .u8 0, .int .u8 0, .int .u8 0, .int .u8 0, .int .u8 0, .int .u8 0, .int .u8 0, .int .u8 0, .int .u8 0, .int .u8 0, .int .u8 0, .int .u8 0, .int .u8 0, .int .u8 0, .int .u8 0, .slice none 0 0]
theorem sizeZ_ok (w : World) : SizeV w (.agg sizeZ) ⟨0, fun _ => 0, []⟩ := by
  refine ⟨sizeZ, .slice none 0 0, rfl, rfl, rfl, ?_, rfl, SI.nil w _, by simp, by simp⟩
  intro i hi
  iterate 25 (rcases i with _ | i; · rfl)
  omega

def regN : RegL := ⟨⟨#[]⟩, (0, 0), 0, 0, 0, 0, 0, 0⟩
theorem regZ_eq : regZ = regV regN := rfl
theorem leqI_no {rs : List RegL} {i j : Int} (h : inB i rs.length = false ∨ inB j rs.length = false) : leqI rs i j = false := by
  unfold leqI
  rcases h with h | h <;> simp [h]
end Go.Proofs.Ytmieioaklgdbdaa
