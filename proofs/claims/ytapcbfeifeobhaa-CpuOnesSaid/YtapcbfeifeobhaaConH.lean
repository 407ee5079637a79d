/- Sizes as arguments; the configuration of one (Size.Conf); what the laws read of a configuration. -/
import Derived.Test.YtapcbfeifeobhaaConG
set_option linter.unusedVariables false
set_option linter.unusedSimpArgs false
namespace Go.Proofs.Ytapcbfeifeobhaa
open Go.RowKit

theorem SR.of_fits {P : Program} {w : World} {e : TypeId} {v : Value} (hs : 0 < P.cellsOf e) (h : v = .slice none 0 0 ∨ ∃ a len cap, v = .slice (some a) len cap ∧ len ≤ cap ∧ cap ≤ maxLen ∧ ∀ i, i < len → ∃ l, w.cells? 0 (a.add (i * P.cellsOf e)) (P.cellsOf e) = some l ∧ ∃ n, Okay P w n e l) :
    ∃ n xs, SR w v n (P.cellsOf e) xs ∧ ∀ i, i < n → ∃ m, Okay P w m e ((xs.drop (i * P.cellsOf e)).take (P.cellsOf e)) := by
  rcases h with rfl | ⟨a, len, cap, rfl, h1, h2, h3⟩
  · exact ⟨0, [], SR.nil w _, fun i hi => by omega⟩
  · generalize P.cellsOf e = c at *
    have hcell : ∀ i, i < len → ∃ l, l.length = c ∧ (∀ j, j < c → w.cell? ((a.add (i * c)).add j) = l[j]?) ∧ ∃ m, Okay P w m e l := by
      intro i hi
      obtain ⟨l, hl, ho⟩ := h3 i hi
      unfold World.cells? at hl
      rw [if_pos (Nat.zero_le _)] at hl
      obtain ⟨e1, e2⟩ := mapM_get _ _ _ hl
      refine ⟨l, by simpa using e1, fun j hj => ?_, ho⟩
      obtain ⟨x, hx, hf⟩ := e2 j (by simpa using hj)
      rw [List.getElem?_range hj] at hx
      cases hx
      exact hf
    rcases Nat.eq_zero_or_pos len with rfl | hn
    · exact ⟨0, [], ⟨by simp, .inr ⟨a, cap, rfl, h1, h2, fun h => by omega⟩⟩, fun i hi => by omega⟩
    · have hspot : a.spot = none ∧ a.block < w.heap.size := by
        obtain ⟨l, hl, hc, _⟩ := hcell 0 hn
        have h0 := hc 0 hs
        have e0 : (a.add (0 * c)).add 0 = a := by simp [Addr.add]
        rw [e0, List.getElem?_eq_getElem (by omega)] at h0
        exact ⟨World.cell?_spot h0, block_lt_of_cell h0⟩
      have key : ∀ i, i < len → ∃ l, l.length = c ∧ (∀ j, j < c → w.cell? ⟨a.block, a.off + (i * c + j), none⟩ = l[j]?) ∧ ∃ m, Okay P w m e l := by
        intro i hi
        obtain ⟨l, hl, hc, ho⟩ := hcell i hi
        refine ⟨l, hl, fun j hj => ?_, ho⟩
        have := hc j hj
        rw [addr_add a hspot.1, addr_add _ rfl] at this
        rw [← Nat.add_assoc]
        exact this
      have get : ∀ k, k < len * c → ∃ u, w.cell? ⟨a.block, a.off + k, none⟩ = some u := by
        intro k hk
        have hk' : k / c < len := Nat.div_lt_of_lt_mul (by rw [Nat.mul_comm]; exact hk)
        obtain ⟨l, hl, hc, _⟩ := key (k / c) hk'
        have := hc (k % c) (Nat.mod_lt _ hs)
        rw [Nat.mul_comm, Nat.div_add_mod, List.getElem?_eq_getElem (by rw [hl]; exact Nat.mod_lt _ hs)] at this
        exact ⟨_, this⟩
      refine ⟨len, (List.range (len * c)).map fun k => (w.cell? ⟨a.block, a.off + k, none⟩).getD undef, ⟨by simp, .inr ⟨a, cap, rfl, h1, h2, fun _ => ⟨hspot.1, hspot.2, fun k hk => ?_⟩⟩⟩, fun i hi => ?_⟩
      · obtain ⟨u, hu⟩ := get k hk
        rw [List.getElem?_map, List.getElem?_range hk, hu]
        simp [hu]
      · obtain ⟨l, hl, hc, m, ho⟩ := key i hi
        refine ⟨m, ?_⟩
        have e : (((List.range (len * c)).map fun k => (w.cell? ⟨a.block, a.off + k, none⟩).getD undef).drop (i * c)).take c = l := by
          apply List.ext_getElem?
          intro j
          by_cases hj : j < c
          · have hik : i * c + j < len * c := by
              have : (i + 1) * c ≤ len * c := Nat.mul_le_mul_right c hi
              rw [Nat.add_mul] at this
              omega
            rw [List.getElem?_take_of_lt hj, List.getElem?_drop, List.getElem?_map, List.getElem?_range hik, ← hc j hj]
            obtain ⟨u, hu⟩ := get (i * c + j) hik
            simp [hu]
          · rw [List.getElem?_eq_none (by simp; omega), List.getElem?_eq_none (by omega)]
        rw [e]
        exact ho
theorem SI.of_fits {P : Program} {w : World} {k : IntKind} {e : TypeId} {v : Value} (he : P.underlying e = some (.int k)) (hs : P.cellsOf e = 1) (h : v = .slice none 0 0 ∨ ∃ a len cap, v = .slice (some a) len cap ∧ len ≤ cap ∧ cap ≤ maxLen ∧ ∀ i, i < len → ∃ l, w.cells? 0 (a.add (i * P.cellsOf e)) (P.cellsOf e) = some l ∧ ∃ n, Okay P w n e l) : ∃ zs, SI w k v zs := by
  obtain ⟨n, xs, hr, ho⟩ := SR.of_fits (by omega) h
  rw [hs] at hr ho
  have hl : xs.length = n := by simpa using hr.1
  have each : ∀ (xs : List Value), (∀ i, i < xs.length → ∃ m, Okay P w m e ((xs.drop i).take 1)) → ∃ zs : List Int, xs = zs.map (.int k) ∧ ∀ z ∈ zs, (Lit.int k z).wf = true := by
    intro xs
    induction xs with
    | nil => intro _; exact ⟨[], rfl, fun z hz => by cases hz⟩
    | cons x xs ih =>
      intro ho
      obtain ⟨m, h0⟩ := ho 0 (by simp)
      obtain ⟨z, hz, wz⟩ := Okay.int he h0
      simp at hz
      obtain ⟨zs, e1, e2⟩ := ih (fun i hi => by simpa using ho (i + 1) (by simpa using hi))
      refine ⟨z :: zs, by simp [hz, e1], fun y hy => ?_⟩
      rcases List.mem_cons.1 hy with rfl | hy
      · exact wz
      · exact e2 y hy
  obtain ⟨zs, rfl, hw⟩ := each xs (fun i hi => by simpa using ho i (by omega))
  refine ⟨zs, ?_, hw⟩
  have : zs.length = n := by simpa using hl
  rw [this]
  exact hr


theorem SizeV.keep {w w' : World} {v : Value} {s : SizeL} (h : SizeV w v s) (hb : Below w.heap.size w w') : SizeV w' v s := by
  obtain ⟨X, tv, h1, h2, h3, h4, h5, h6, h7, h8⟩ := h
  exact ⟨X, tv, h1, h2, h3, h4, h5, h6.keep hb, h7, h8⟩

theorem FitsAll.get {P : Program} {w : World} : ∀ {ks : List CK} {vs : List Value}, FitsAll P w ks vs → vs.length = ks.length ∧ ∀ (i : Nat) (k : CK), ks[i]? = some k → ∃ v, vs[i]? = some v ∧ k.Fits P w v
  | [], [], _ => ⟨rfl, fun i k h => by simp at h⟩
  | k :: ks, v :: vs, ⟨h1, h2⟩ => by
    obtain ⟨e, h⟩ := FitsAll.get h2
    refine ⟨by simp [e], fun i c hc => ?_⟩
    rcases i with _ | i
    · simp at hc; subst hc; exact ⟨v, by simp, h1⟩
    · simpa using h i c (by simpa using hc)
  | [], _ :: _, h => h.elim
  | _ :: _, [], h => h.elim

def sizeKinds : List CK := ⟨0, .u8, 0⟩ :: (List.replicate 25 ⟨0, .u8, 0⟩ ++ [⟨3, .i64, 5⟩])
theorem sizeKinds_low : ∀ i, i < 26 → sizeKinds[i]? = some ⟨0, .u8, 0⟩ := by
  intro i hi
  rcases i with _ | i
  · rfl
  · simp only [sizeKinds, List.getElem?_cons_succ]
    rw [List.getElem?_append_left (by simp; omega), List.getElem?_replicate, if_pos (by omega)]
theorem SizeV.of_arg {W : World} {v : Value} (o : Arg Try.prog W 119 v) : ∃ s, SizeV W v s := by
  obtain ⟨cs, rfl, h⟩ := Arg.flat (.inl ⟨_, Try.underlying119⟩) 5 (ks := sizeKinds) (by kernel_rfl) o
  obtain ⟨hl, hg⟩ := h.get
  have low : ∀ i, i < 26 → ∃ n : Nat, n ≤ 255 ∧ cs[i]? = some (.int .u8 n) := fun i hi => by
    obtain ⟨v, hv, x, hx, hw⟩ := hg i _ (sizeKinds_low i hi)
    have := wf_u8 hw
    exact ⟨x.toNat, by omega, by rw [hv, hx]; congr 2; show x = _; omega⟩
  obtain ⟨tv, ht, hf⟩ := hg 26 ⟨3, .i64, 5⟩ (by rfl)
  obtain ⟨zs, hz⟩ := SI.of_fits (k := .u8) Try.underlying5 (by kernel_rfl) hf
  have hzs : (zs.map Int.toNat).map (fun (x : Nat) => (x : Int)) = zs := by
    rw [List.map_map]
    conv => rhs; rw [← List.map_id zs]
    refine List.map_congr_left fun z hzm => ?_
    have := wf_u8 (hz.wf z hzm)
    simp; omega
  obtain ⟨m, hm, hm0⟩ := low 0 (by omega)
  refine ⟨⟨m, fun i => if i < 25 then (intOf (cs[1 + i]?.getD undef)).toNat else 0, zs.map Int.toNat⟩, cs.toArray, tv, rfl, by simpa [sizeKinds] using hl, by simpa using hm0, fun i hi => ?_, by simpa using ht, ?_, hm, fun i => ?_⟩
  · obtain ⟨n, hn, hn0⟩ := low (1 + i) (by omega)
    simp only [if_pos hi, List.getElem?_toArray]
    rw [hn0]
    simp [intOf]
  · simp only
    rw [hzs]
    exact hz
  · simp only
    by_cases hi : i < 25
    · obtain ⟨n, hn, hn0⟩ := low (1 + i) (by omega)
      rw [if_pos hi, hn0]
      simp [intOf]; omega
    · rw [if_neg hi]; omega

def sizeZ : Array Value := #[.int .u8 0, .int .u8 0, .int .u8 0, .int .u8 0, .int .u8 0, .int .u8 0, .int .u8 0, .int .u8 0, .int .u8 0, .int .u8 0, .int .u8 0, .int .u8 0, .int .u8 0, .int .u8 0, .int .u8 0, .int .u8 0, .int .u8 0, .int .u8 0, .int .u8 0, .int .u8 0, .int .u8 0, .int .u8 0, .int .u8 0, .int .u8 0, .int .u8 0, .int .u8 0, .slice none 0 0]
theorem sizeZ_ok (w : World) : SizeV w (.agg sizeZ) ⟨0, fun _ => 0, []⟩ := by
  refine ⟨sizeZ, .slice none 0 0, rfl, rfl, rfl, ?_, rfl, SI.nil w _, by simp, by simp⟩
  intro i hi
  iterate 25 (rcases i with _ | i; · rfl)
  omega

set_option maxRecDepth 20000 in
set_option maxHeartbeats 4000000 in
theorem sizeConf_in (w : World) (v : Value) (s : SizeL) (hv : SizeV w v s) :
    Calls Try.prog 54 #[v] w fun e w' => Below w.heap.size w w' ∧ ∃ g gT gN gL v' m' u', e = .returned (.pointer (some ⟨g, 0, none⟩)) ∧ CF w' g gT gN gL v' m' u' (sizeRegs s) (sizeMarks s) := by
  obtain ⟨X, tv, rfl, hX, hrest⟩ := hv
  have HV := Lib.hid (show SizeV w (.agg X) s from ⟨X, tv, rfl, hX, hrest⟩)
  clear hrest
  have hpc : ∀ j v, X.toList[j]? = some v → (w.alloc (.cells X 119)).cell? ⟨w.heap.size, 0 + j, none⟩ = some v := fun j v hj => by
    rw [Nat.zero_add, rowcell (heap_alloc_last w _)]; simpa using hj
  have HP := Lib.hid hpc
  clear hpc
  have hs27 : (Try.prog.info? 119).map (·.size) = some X.size := by rw [hX]; kernel_rfl
  have HS := Lib.hid hs27
  clear hs27
  go_enter Try.func54, Try.ntmps54
  go_wp2_with (refine wpList_load_pieceTo rfl 119 (.tmp 1) rfl (some 6) rfl w.heap.size 0 rfl X _ HP.out Try.underlying119 rfl HS.out ?_)
  refine (sizeRegs_in _ _ s (SizeV.keep HV.out (bnew _ _))).mono ?_; rintro e w1 ⟨hb1, rv, mv, rfl, hr, hm⟩
  have hB1 := bnext (bnew w (.cells X 119)) hb1
  have hr1 := SR.of_own hr
  have hm1 := SR.of_own hm
  go_wp2_with fail
  refine (confNew_in _ rv mv (sizeRegs s) (sizeMarks s) hr1 hm1 (size_ok s)).mono ?_; rintro e w2 ⟨hb2, g, gT, gN, gL, v', m', u', rfl, hcb⟩
  have hcf := hcb.toCF
  have HB := Lib.hid (bnext hB1 hb2)
  have HC := Lib.hid hcf
  clear hcb hcf hr hm hr1 hm1
  go_wp2_with fail
  go_ret
  exact ⟨HB.out, g, gT, gN, gL, v', m', u', rfl, HC.out⟩

/-- What the laws read of a configuration: of one that is there, and of none. -/
structure ConfP (w : World) (a : Option Addr) (rs : List RegL) : Prop where
  len : ∀ w', Below w.heap.size w w' → Calls Try.prog 74 #[.pointer a] w' fun e w2 => e = .returned (.int .i64 rs.length) ∧ w' = w2
  reg : ∀ w', Below w.heap.size w w' → ∀ i : Int, Calls Try.prog 65 #[.pointer a, .int .i64 i] w' fun e w2 => ∃ r, e = .returned (.tuple #[regV r, .bool (inB i rs.length)]) ∧ (∀ k (hk : k < rs.length), i = k → r = rs[k]) ∧ Below w'.heap.size w' w2
  leq : ∀ w', Below w.heap.size w w' → ∀ i j : Int, Calls Try.prog 71 #[.pointer a, .int .i64 i, .int .i64 j] w' fun e w2 => e = .returned (.bool (leqI rs i j)) ∧ Below w'.heap.size w' w2
theorem ConfP.keep {w w' : World} {a : Option Addr} {rs : List RegL} (h : ConfP w a rs) (hb : Below w.heap.size w w') : ConfP w' a rs :=
  ⟨fun w2 h2 => h.len w2 (bnext hb h2), fun w2 h2 => h.reg w2 (bnext hb h2), fun w2 h2 => h.leq w2 (bnext hb h2)⟩
def regN : RegL := ⟨⟨#[]⟩, (0, 0), 0, 0, 0, 0, 0, 0⟩
theorem regZ_eq : regZ = regV regN := rfl
theorem leqI_no {rs : List RegL} {i j : Int} (h : inB i rs.length = false ∨ inB j rs.length = false) : leqI rs i j = false := by
  unfold leqI
  rcases h with h | h <;> simp [h]
theorem CF.toP {w : World} {g gT gN gL : Nat} {v m u : Value} {rs : List RegL} {ms : List (Nat × Nat)} (h : CF w g gT gN gL v m u rs ms) (hn : rs.length ≤ 100) (hok : ∀ r ∈ rs, okL r.lab) : ConfP w (some ⟨g, 0, none⟩) rs := by
  refine ⟨fun w' hb => confLen_in (h.keep hb), fun w' hb i => ?_, fun w' hb i j => ?_⟩
  · cases hi : inB i rs.length with
    | false =>
      refine (confReg_no w' _ i (fun w2 h2 => ?_)).mono ?_
      · have := confHas_in ((h.keep hb).keep h2) i
        rwa [hi] at this
      · rintro e w2 ⟨rfl, h2⟩
        exact ⟨regN, by rw [regZ_eq], fun k hk e => (by rw [e, inB_nat hk] at hi; cases hi), h2⟩
    | true =>
      obtain ⟨k, rfl, hk⟩ := inB_yes hi
      refine (confReg_yes (h.keep hb) k hk hn).mono ?_
      rintro e w2 ⟨rfl, h2⟩
      exact ⟨rs[k], rfl, fun k' hk' e => (by have : k = k' := by omega
                                             subst this; rfl), h2⟩
  · cases hi : inB i rs.length with
    | false =>
      refine (confLeq_no1 _ i j ?_).mono ?_
      · have := confHas_in ((h.keep hb).keep (drewb w')) i
        rwa [hi] at this
      · rintro e w2 ⟨rfl, h2⟩
        exact ⟨by rw [leqI_no (.inl hi)], h2⟩
    | true =>
      cases hj : inB j rs.length with
      | false =>
        refine (confLeq_no2 (h.keep hb) i j hi hj).mono ?_
        rintro e w2 ⟨rfl, h2⟩
        exact ⟨by rw [leqI_no (.inr hj)], h2⟩
      | true =>
        obtain ⟨k, rfl, hk⟩ := inB_yes hi
        obtain ⟨l, rfl, hl⟩ := inB_yes hj
        refine (confLeq_yes (h.keep hb) hn k l hk hl (hok _ (List.getElem_mem hk)) (hok _ (List.getElem_mem hl))).mono ?_
        rintro e w2 ⟨rfl, h2⟩
        exact ⟨by rw [leqI_nat hk hl], h2⟩
theorem confP_nil (w : World) : ConfP w none [] := by
  refine ⟨fun w' hb => confLen_nil w', fun w' hb i => ?_, fun w' hb i j => ?_⟩
  · refine (confReg_no w' _ i (fun w2 h2 => confHas_nil w2 i)).mono ?_
    rintro e w2 ⟨rfl, h2⟩
    exact ⟨regN, by rw [regZ_eq, show inB i ([] : List RegL).length = false by simp [inB]], fun k hk e => (by simp at hk), h2⟩
  · refine (confLeq_no1 _ i j (confHas_nil _ i)).mono ?_
    rintro e w2 ⟨rfl, h2⟩
    exact ⟨by rw [leqI_no (.inl (by simp [inB]))], h2⟩
end Go.Proofs.Ytapcbfeifeobhaa
