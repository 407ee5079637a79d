/- The law LabelLists: the walk. -/
import Derived.Test.YtcjnnonfnlemmaaDoorLabL
import Derived.Test.YtcjnnonfnlemmaaDoorLabK
set_option linter.unusedVariables false
set_option linter.unusedSimpArgs false
namespace Go.Proofs.YtcjnnonfnlemmaaDoor
open Go.RowKit

section
variable {P : Program} {ops : Array Oper} {Q : Exit → Act → World → Prop} {md : Region.Mode} {S : World → Prop} {fuel : Nat} {l : Array Bool} {a : Act} {w : World} {oi oj : Oper}
/-- Two loads, in whatever order. -/
theorem twoLoads (i j : Nat) (di dj : Tmp) (hij : i ≠ j) (hd : di ≠ dj) (hi : ops[i]? = some oi) (hj : ops[j]? = some oj) (ti : oi.dst = some di) (tj : oj.dst = some dj)
    (hr : Region.ready md ops l = [i, j]) (hri : Region.ready md ops (l.setIfInBounds i true) = [j]) (hrj : Region.ready md ops (l.setIfInBounds j true) = [i])
    (wi : Region.wanted oi (yielded ops a.tmps) = true) (wi' : ∀ v, Region.wanted oi (yielded ops (a.put (some dj) v).tmps) = true) (wj : Region.wanted oj (yielded ops a.tmps) = true) (wj' : ∀ v, Region.wanted oj (yielded ops (a.put (some di) v).tmps) = true)
    (vi vj : Value) (xi : (execOp a.eval oi).run P w = .ok (.value vi) w) (xi' : ∀ v, (execOp (a.put (some dj) v).eval oi).run P w = .ok (.value vi) w)
    (xj : (execOp a.eval oj).run P w = .ok (.value vj) w) (xj' : ∀ v, (execOp (a.put (some di) v).eval oj).run P w = .ok (.value vj) w) (hS : S w)
    (h : wpAnyH P md ops Q S fuel ((l.setIfInBounds i true).setIfInBounds j true) ((a.put (some di) vi).put (some dj) vj) w) : wpAnyH P md ops Q S (fuel + 1 + 1) l a w := by
  refine wpAnyH_two i j hr ?_ ?_
  · refine loudK i hi wi (some di) ti _ _ xi ⟨hS, ?_⟩
    exact loudH j hj (wj' _) hri (some dj) tj _ _ (xj' _) S (fun _ h => h) hS h
  · refine loudK j hj wj (some dj) tj _ _ xj ⟨hS, ?_⟩
    refine loudH i hi (wi' _) hrj (some di) ti _ _ (xi' _) S (fun _ h => h) hS ?_
    rw [put_comm _ dj di _ _ (Ne.symm hd), Array.setIfInBounds_comm _ _ (Ne.symm hij)]
    exact h
end

theorem heap_cells_other {g k : Nat} (hne : k ≠ g) : ∀ (vs : List Value) (o : Nat) (w : World), (w.setCells g o vs).heap[k]? = w.heap[k]?
  | [], _, _ => rfl
  | v :: vs, o, w => by
    show ((w.setCell ⟨g, o, none⟩ v).setCells g (o + 1) vs).heap[k]? = _
    rw [heap_cells_other hne vs (o + 1) _, Below.heap_setCell _ _ _ _ (by exact hne)]
theorem below_setCells {B g : Nat} {a : World} (hB : B ≤ g) : ∀ (vs : List Value) (o : Nat) (w : World), Below B a w → Below B a (w.setCells g o vs)
  | [], _, _, h => h
  | v :: vs, o, w, h => below_setCells hB vs (o + 1) _ (h.setCell (p := ⟨g, o, none⟩) hB v)

theorem SI.ofNats {w : World} {base : Nat} {v : Value} {l : List Nat} (h : w.ownsRow base 3 1 v l.length (ints l)) (hl : ∀ c ∈ l, c < 1000) : SI w .i64 v (l.map fun (j : Nat) => (j : Int)) := by
  refine ⟨?_, fun z hz => ?_⟩
  · have := SR.of_own h
    simpa [ints, Function.comp_def] using this
  · simp only [List.mem_map] at hz
    obtain ⟨c, hc, rfl⟩ := hz
    have := hl c hc
    exact i64_wf (by omega)

theorem lab_info : (Tryd.prog.info? 25).map (fun i => (i.zero, i.size, i.bytes)) = some (some (.agg #[.int .u8 0, .int .u16 0]), 2, 4) := by kernel_rfl
theorem labCells_one (ls : List (Nat × Nat)) : ∀ u ∈ ls.flatMap labCells, u.oneCell' = true := fun u hu => by
  simp only [List.mem_flatMap, labCells, List.mem_cons, List.not_mem_nil, or_false] at hu
  obtain ⟨p, _, rfl | rfl⟩ := hu <;> rfl

theorem joinPair (p q : Nat × Nat) : joinAll [p, q] = joinL p q := by
  simp [joinAll, joinL]
theorem leq_join (p q : Nat × Nat) : leqL p (joinL p q) = true := by
  have : subC p.2 (p.2 ||| q.2) = true := by
    rw [subC_iff]
    intro j _ h
    rw [Nat.testBit_or, h, Bool.true_or]
  have h1 : p.1 ≤ max p.1 q.1 := Nat.le_max_left _ _
  simp [leqL, joinL, this, h1]
theorem chain_set (ms : List (Nat × Nat)) (k : Nat) (hk : 0 < k) (hkl : k < ms.length) (q : Nat × Nat) (h : chainTo ms k = true) (hq : leqL (ms.getD (k - 1) (0, 0)) q = true) : chainTo (ms.set k q) (k + 1) = true := by
  rw [chainTo_next]
  have h1 : chainTo (ms.set k q) k = true := by
    unfold chainTo at h ⊢
    rw [List.all_eq_true] at h ⊢
    intro x hx
    have := h x hx
    simp only [List.mem_range] at hx
    rw [List.getD_eq_getElem?_getD, List.getD_eq_getElem?_getD, List.getElem?_set_ne (by omega), List.getElem?_set_ne (by omega), ← List.getD_eq_getElem?_getD, ← List.getD_eq_getElem?_getD]
    exact this
  rw [h1, Bool.true_and, Bool.or_eq_true]
  right
  rw [List.getD_eq_getElem?_getD, List.getD_eq_getElem?_getD, List.getElem?_set_ne (by omega), List.getElem?_set_self hkl, ← List.getD_eq_getElem?_getD]
  exact hq

/-- A row of labels of the call's own, that may be written. -/
def LR (w : World) (base : Nat) (A : Option Addr) (ms : List (Nat × Nat)) : Prop :=
  ∃ g N f, A = some ⟨g, 0, none⟩ ∧ base ≤ g ∧ ms.length * 2 ≤ N ∧ w.rowIs g 25 N f ∧ ∀ i (hi : i < ms.length), f (i * 2) = .int .u8 (ms[i].1 : Nat) ∧ f (i * 2 + 1) = .int .u16 (ms[i].2 : Nat)

theorem LR.of_own {w : World} {base : Nat} {A : Option Addr} {c : Nat} {ms : List (Nat × Nat)} (h : w.ownsRow base 25 2 (.slice A ms.length c) ms.length (ms.flatMap labCells)) (hn : 0 < ms.length) : LR w base A ms := by
  obtain ⟨g, N, f, hA, hN, hr⟩ := own_row h hn
  have hcell := h.cells (g := g)
  subst hA
  rcases h.2 with ⟨_, h0⟩ | ⟨g0, c0, cur, hv, hbse, hg, _, _, hsz, htk⟩
  · omega
  · cases hv
    refine ⟨g, N, f, rfl, hbse, hN, hr, fun i hi => ?_⟩
    have key : ∀ j u, (ms.flatMap labCells)[j]? = some u → f j = u := fun j u hu => by
      have hj : j < ms.length * 2 := by
        rcases Nat.lt_or_ge j (ms.length * 2) with hh | hh
        · exact hh
        · rw [List.getElem?_eq_none (by rw [h.1]; exact hh)] at hu; cases hu
      have h1 := h.cellAt j (by exact hj)
      rw [hr.cell (by omega), hu] at h1
      exact Option.some.inj h1
    obtain ⟨k0, k1⟩ := labCells_get ms i hi
    exact ⟨key _ _ k0, key _ _ k1⟩

theorem LR.ls {w : World} {base : Nat} {A : Option Addr} {c : Nat} {ms : List (Nat × Nat)} (h : LR w base A ms) (hw : ∀ p ∈ ms, okL p) (h1 : ms.length ≤ c) (h2 : c ≤ maxLen) : LS w (.slice A ms.length c) ms := by
  obtain ⟨g, N, f, rfl, _, hN, hr, hf⟩ := h
  have hlen : ∀ l : List (Nat × Nat), (l.flatMap labCells).length = l.length * 2 := by
    intro l
    induction l with
    | nil => rfl
    | cons p l ih => simp [labCells, ih]; omega
  refine ⟨⟨hlen ms, .inr ⟨_, c, rfl, h1, h2, fun h0 => ⟨rfl, hr.lt, fun i hi => ?_⟩⟩⟩, hw⟩
  show w.cell? ⟨g, 0 + i, none⟩ = _
  rw [Nat.zero_add, hr.cell (by omega)]
  obtain ⟨k, hk⟩ : ∃ k, i = k * 2 ∨ i = k * 2 + 1 := ⟨i / 2, by omega⟩
  have hkl : k < ms.length := by omega
  obtain ⟨k0, k1⟩ := labCells_get ms k hkl
  obtain ⟨f0, f1⟩ := hf k hkl
  rcases hk with rfl | rfl
  · rw [k0, f0]
  · rw [k1, f1]

theorem LR.keep {w w' : World} {base : Nat} {A : Option Addr} {ms : List (Nat × Nat)} (h : LR w base A ms) (hb : Below w.heap.size w w') : LR w' base A ms := by
  obtain ⟨g, N, f, rfl, hbse, hN, hr, hf⟩ := h
  exact ⟨g, N, f, rfl, hbse, hN, hr.of_block (hb.block g hr.lt), hf⟩

theorem LR.store {w : World} {base g : Nat} {ms : List (Nat × Nat)} (h : LR w base (some ⟨g, 0, none⟩) ms) (k : Nat) (hk : k < ms.length) (q : Nat × Nat) :
    LR (w.setCells g (k * 2) [.int .u8 q.1, .int .u16 q.2]) base (some ⟨g, 0, none⟩) (ms.set k q) := by
  obtain ⟨g', N, f, hA, hbse, hN, hr, hf⟩ := h
  obtain rfl : g' = g := by cases hA; rfl
  have hr2 := rowIs_piece (m := 2) (off := k * 2) (h := labRow q) hr
  have harr : (rowArr 2 (labRow q)).toList = [.int .u8 (q.1 : Int), .int .u16 (q.2 : Int)] := by simp [rowArr, labRow, List.range_succ]
  rw [harr] at hr2
  refine ⟨g', N, _, rfl, hbse, by simpa using hN, hr2, fun i hi => ?_⟩
  have hi' : i < ms.length := by simpa using hi
  by_cases hik : i = k
  · subst hik
    rw [if_pos (by omega), if_pos (by omega)]
    simp [labRow]
  · rw [if_neg (by omega), if_neg (by omega)]
    rw [List.getElem_set_ne (by omega)]
    exact hf i hi'

set_option maxRecDepth 100000 in
set_option maxHeartbeats 8000000 in
theorem labelLists_walk (W : World) (hT : Tab W) (v0 v1 v2 : Value) (o0 : Arg Tryd.prog W 37 v0) (o1 : Arg Tryd.prog W 25 v1) (o2 : Arg Tryd.prog W 4 v2) :
    Calls Tryd.prog 5 #[v0, v1, v2] W fun e w' => e = .returned (.bool true) ∧ Below W.heap.size W w' := by
  obtain ⟨x, rfl, hx⟩ := lab_of_arg ⟨_, Tryd.underlying25⟩ (by kernel_rfl) o1
  obtain ⟨ls, hz⟩ := LS.of_arg Tryd.underlying37 (by kernel_rfl) (by kernel_rfl) o0
  obtain ⟨jn, rfl⟩ := Arg.bool Tryd.underlying4 o2
  clear o0 o1 o2
  obtain ⟨A, cap, rfl, hlc, hcm⟩ := hz.sr.form
  have HZ := Lib.hid hz
  clear hz
  have hB0 := bnew W (.cells #[.int .u8 x.1, .int .u16 x.2] 25)
  have hx0 := labRow_new W 25 x
  unfold labV
  by_cases hbig : 60 < (ls.length : Int)
  · go_enter Tryd.func5, Tryd.ntmps5
    go_wp2_with (go_at_call 8; refine (labAwake_any _ (hT.keep hB0)).mono ?_; rintro e w1 ⟨he, hb⟩; subst he)
    go_ret
    exact ⟨rfl, bnext hB0 hb⟩
  have hlen : (ls.length : Int) ≤ 60 := by omega
  go_enter Tryd.func5, Tryd.ntmps5
  go_wp2_with fail
  go_at_call 8; refine (labAwake_any _ (hT.keep hB0)).mono ?_; rintro e w1 ⟨he, hb1⟩; subst he
  have hB1 := bnext hB0 hb1
  have hx1 := hx0.of_block (hb1.block _ hx0.lt)
  have hz1 := HZ.out.keep hB1
  have hgx : W.heap.size < w1.heap.size := hx1.lt
  clear hx0 hB0
  go_wp2_with (with_reducible refine wpList_stop (some 18) rfl ?_)
  refine Lib.hid ?_
  refine wpList_append_sr rfl (.tmp 16) (.tmp 17) 37 rfl (some 18) rfl w1.heap.size 25 (.agg #[.int .u8 0, .int .u16 0]) 2 4 Tryd.underlying37 lab_info rfl (by omega) (.slice (some ⟨w1.heap.size, 0, none⟩) 0 0) (.slice A ls.length cap) 0 ls.length
      [] (ls.flatMap labCells) rfl (World.ownsRow_lit w1 #[] 0 (Nat.le_refl _) (by simp [maxLen]) rfl) rfl (hz1.sr.alloc _) (labCells_one ls) (by simp [maxLen]; omega) (by omega) (by simp) ?_
  intro u w2 hown hg _
  rw [List.nil_append, Nat.zero_add] at hown
  have hB2 : Below W.heap.size W w2 := (hB1.alloc hB1.size _).grown hg (by simp; omega) (fun k hk => by simp [Value.ownBlock] at hk; omega)
  have hx2 : w2.rowIs W.heap.size 25 2 (labRow x) := hx1.of_block (by
    rw [hg.block _ (by simp; omega) (fun h => by simp [Value.ownBlock] at h; omega), Below.heap_alloc _ _ _ hx1.lt])
  obtain ⟨ad, c0, rfl⟩ := own_form hown
  have hfc : ls.length ≤ c0 ∧ c0 ≤ maxLen := by
    obtain ⟨a', c', he, h1, h2⟩ := (SR.of_own hown).form
    cases he; exact ⟨h1, h2⟩
  have hlr : 0 < ls.length → LR w2 w1.heap.size ad ls := fun h => LR.of_own hown h
  have hls : LS w2 (.slice ad ls.length c0) ls := ⟨SR.of_own hown, HZ.out.wf⟩
  have hwf := HZ.out.wf
  clear hown hg hz1 hx1 HZ
  obtain ⟨n, hn⟩ : ∃ n, ls.length = n := ⟨_, rfl⟩
  rw [hn] at hlr hls hfc hlen ⊢
  have hlr' := Lib.hid hlr
  have hls' := Lib.hid hls
  clear hlr hls
  obtain ⟨gb, hgb⟩ : ∃ g, g = w1.heap.size := ⟨_, rfl⟩
  rw [← hgb] at hlr' hgx
  have hjn0 : jn = true → chainTo ls 0 = true := fun _ => by simp [chainTo]
  go_wp2_with fail
  go_loopw [21] (fun v21 wr => ∃ (k : Nat) (ms : List (Nat × Nat)), k ≤ n ∧ v21 = .int .i64 k ∧ ms.length = n ∧ (∀ p ∈ ms, okL p) ∧ LS wr (.slice ad n c0) ms ∧ (0 < n → LR wr gb ad ms) ∧ (jn = true → chainTo ms k = true) ∧ wr.rowIs W.heap.size 25 2 (labRow x) ∧ Below W.heap.size W wr) (fun v21 _ => (n - intOf v21).toNat)
  case atStart => exact ⟨0, ls, by omega, rfl, hn, hwf, hls'.out, hlr'.out, hjn0, hx2, hB2⟩
  case round =>
    clear hx2 hB2 hls' hlr' hwf hjn0 hn
    obtain ⟨k, ms, hk, rfl, hml, hmw, hls, hlr, hch, hxr, hB⟩ := hrel
    by_cases hlt : k < n
    · cases jn
      · go_wp2_with fail
        go_roundw
        case rel => exact ⟨k + 1, ms, by omega, by go_num, hml, hmw, hls, hlr, (fun h => by cases h), hxr, hB⟩
        case measure => simp [intOf]; omega
      · by_cases h0 : k = 0
        · subst h0
          have hc1 : chainTo ms 1 = true := by simp [chainTo]
          go_wp2_with fail
          go_roundw
          case rel => exact ⟨1, ms, by omega, by go_num, hml, hmw, hls, hlr, fun _ => hc1, hxr, hB⟩
          case measure => simp [intOf]; omega
        · obtain ⟨j, rfl⟩ : ∃ j, k = j + 1 := ⟨k - 1, by omega⟩
          obtain ⟨wo, hwo⟩ : ∃ wo, wo = wr := ⟨_, rfl⟩
          subst hwo
          have hLR := hlr (by omega)
          obtain ⟨g, N, f, rfl, hgg, hN, hr, hf⟩ := hLR
          have hj1 : j + 1 < ms.length := by omega
          obtain ⟨f0, f1⟩ := hf j (by omega)
          obtain ⟨f2, f3⟩ := hf (j + 1) hj1
          have d0 := (hr.cell (i := j * 2) (by omega)).trans (congrArg some f0)
          have d1 := (hr.cell (i := j * 2 + 1) (by omega)).trans (congrArg some f1)
          have e0 := (hr.cell (i := (j + 1) * 2) (by omega)).trans (congrArg some f2)
          have e1 := (hr.cell (i := (j + 1) * 2 + 1) (by omega)).trans (congrArg some f3)
          have hpo := hmw ms[j] (List.getElem_mem (by omega))
          have hqo := hmw ms[j + 1] (List.getElem_mem hj1)
          have hget : ms.getD j (0, 0) = ms[j] := by rw [List.getD_eq_getElem?_getD, List.getElem?_eq_getElem (by omega : j < ms.length)]; rfl
          have hchs := chain_set ms (j + 1) (by omega) hj1 (joinAll [ms[j], ms[j + 1]]) (hch rfl) (by rw [Nat.add_sub_cancel, hget, joinPair]; exact leq_join _ _)
          have hgl := hr.lt
          have HLR := Lib.hid (hlr (by omega))
          have HC := Lib.hid hchs
          have HX := Lib.hid hxr
          generalize ms[j] = p at *
          generalize ms[j + 1] = q at *
          have hjq := joinAll_ok (ls := [p, q]) (fun r hr => by simp only [List.mem_cons, List.not_mem_nil, or_false] at hr; rcases hr with rfl | rfl; exact hpo; exact hqo)
          clear hf f0 f1 f2 f3 hlr hch hchs hxr hls hget hr
          have hjn1 : j + 1 < n := hlt
          have hjn2 : j < n := by omega
          have hi1 : ¬ ((j : Int) + 1 < 0) := by omega
          have hi2 : (j : Int) + 1 < n := by omega
          have hi3 : ¬ ((j : Int) < 0) := by omega
          have hi4 : (j : Int) < n := by omega
          have hwj : IntKind.i64.wrap (j : Int) = j := by rw [IntKind.wrap_i64]; omega
          have D0 : wo.drew.cell? ⟨g, j * 2, none⟩ = some (.int .u8 p.1) := d0
          have D1 : wo.drew.cell? ⟨g, j * 2 + 1, none⟩ = some (.int .u16 p.2) := d1
          have E0 : wo.drew.cell? ⟨g, (j + 1) * 2, none⟩ = some (.int .u8 q.1) := e0
          have E1 : wo.drew.cell? ⟨g, (j + 1) * 2 + 1, none⟩ = some (.int .u16 q.2) := e1
          go_wp2_with fail
          refine wp_region_held (S := fun _ => True) (by kernel_rfl) ?_
          change wpAnyH _ _ _ _ _ _ _ _ (World.drew _)
          refine takeH 0 (.slice (some ⟨g, 0, none⟩) n c0) (some 29) rfl rfl (by kernel_rfl) (by kernel_rfl) (by kernel_rfl) (fun _ _ _ h => h) (.inl ⟨by kernel_rfl, fun w _ => by go_simp⟩) trivial ?_
          refine takeH 1 (.int .i64 ((j : Int) + 1)) (some 30) rfl rfl (by kernel_rfl) (by kernel_rfl) (by kernel_rfl) (fun _ _ _ h => h) (.inl ⟨by kernel_rfl, fun w _ => by go_simp⟩) trivial ?_
          refine takeH 2 (.slice (some ⟨g, 0, none⟩) n c0) (some 31) rfl rfl (by kernel_rfl) (by kernel_rfl) (by kernel_rfl) (fun _ _ _ h => h) (.inl ⟨by kernel_rfl, fun w _ => by go_simp⟩) trivial ?_
          refine takeH 3 (.int .i64 ((j : Int) + 1)) (some 32) rfl rfl (by kernel_rfl) (by kernel_rfl) (by kernel_rfl) (fun _ _ _ h => h) (.inl ⟨by kernel_rfl, fun w _ => by go_simp⟩) trivial ?_
          refine takeH 4 (.int .i64 j) (some 33) rfl rfl (by kernel_rfl) (by kernel_rfl) (by kernel_rfl) (fun _ _ _ h => h) (.inl ⟨by kernel_rfl, fun w _ => by go_simp⟩) trivial ?_
          refine takeH 5 (.pointer (some ⟨g, j * 2, none⟩)) (some 34) rfl rfl (by kernel_rfl) (by kernel_rfl) (by kernel_rfl) (fun _ _ _ h => h) (.inl ⟨by kernel_rfl, fun w _ => by go_simp⟩) trivial ?_
          refine takeH 7 (.slice (some ⟨g, 0, none⟩) n c0) (some 36) rfl rfl (by kernel_rfl) (by kernel_rfl) (by kernel_rfl) (fun _ _ _ h => h) (.inl ⟨by kernel_rfl, fun w _ => by go_simp⟩) trivial ?_
          refine takeH 8 (.int .i64 ((j : Int) + 1)) (some 37) rfl rfl (by kernel_rfl) (by kernel_rfl) (by kernel_rfl) (fun _ _ _ h => h) (.inl ⟨by kernel_rfl, fun w _ => by go_simp⟩) trivial ?_
          refine takeH 9 (.pointer (some ⟨g, (j + 1) * 2, none⟩)) (some 38) rfl rfl (by kernel_rfl) (by kernel_rfl) (by kernel_rfl) (fun _ _ _ h => h) (.inl ⟨by kernel_rfl, fun w _ => by go_simp⟩) trivial ?_
          refine twoLoads 6 10 35 39 (by decide) (by decide) rfl rfl rfl rfl (by kernel_rfl) (by kernel_rfl) (by kernel_rfl) (by kernel_rfl) (fun _ => by kernel_rfl) (by kernel_rfl) (fun _ => by kernel_rfl)
            (.agg #[.int .u8 p.1, .int .u16 p.2]) (.agg #[.int .u8 q.1, .int .u16 q.2]) (by go_simp) (fun v => by go_simp) (by go_simp) (fun v => by go_simp) trivial ?_
          have hlit := heap_alloc_last wo.drew (.cells #[.int .u8 p.1, .int .u16 p.2, .int .u8 q.1, .int .u16 q.2] 25)
          have hBl : Below W.heap.size W (wo.drew.alloc (.cells #[.int .u8 p.1, .int .u16 p.2, .int .u8 q.1, .int .u16 q.2] 25)) := (bdrewN hB 1).alloc (bdrewN hB 1).size _
          have hbo : Below wo.heap.size wo (wo.drew.alloc (.cells #[.int .u8 p.1, .int .u16 p.2, .int .u8 q.1, .int .u16 q.2] 25)) := (bdrewN (Below.refl wo.heap.size wo) 1).alloc (Nat.le_refl _) _
          refine loudH 11 rfl (by kernel_rfl) (by kernel_rfl) (some 40) rfl (.slice (some ⟨wo.drew.heap.size, 0, none⟩) 2 2) (wo.drew.alloc (.cells #[.int .u8 p.1, .int .u16 p.2, .int .u8 q.1, .int .u16 q.2] 25)) (by go_simp) (fun _ => True) (fun _ h => h) trivial ?_
          generalize wo.drew.alloc (.cells #[.int .u8 p.1, .int .u16 p.2, .int .u8 q.1, .int .u16 q.2] 25) = wl at *
          generalize wo.drew.heap.size = gl at *
          obtain ⟨y, hy⟩ : ∃ y, y = joinAll [p, q] := ⟨_, rfl⟩
          rw [← hy] at hjq
          have cJ : Calls Tryd.prog 19 #[.slice (some ⟨gl, 0, none⟩) 2 2] wl fun e w' => e = .returned (labV y) ∧ Below wl.heap.size wl w' := by
            rw [hy]; exact refJoin_any _ [p, q] wl (LS.two p q hpo hqo hlit) (by simp)
          have HY := Lib.hid hy
          clear hy
          unfold labV at cJ
          refine callH 12 rfl (by kernel_rfl) (by kernel_rfl) (some 41) rfl 19 #[.slice (some ⟨gl, 0, none⟩) 2 2] ?hrun (cJ.mono ?_)
          case hrun => go_simp
          rintro e wc ⟨he, hbc⟩
          refine ⟨_, he, trivial, ?_⟩
          have hboc := hbo.trans (hbc.mono hbo.size)
          have hBc := hBl.trans (hbc.mono hBl.size)
          have hLRc := HLR.out.keep hboc
          have hXc := HX.out.of_block (hboc.block _ HX.out.lt)
          clear D0 D1 E0 E1 d0 d1 e0 e1 hlit hbo cJ hbc
          refine takeH 13 (.pointer (some ⟨g, (j + 1) * 2, none⟩)) (some 42) rfl rfl (by kernel_rfl) (by kernel_rfl) (by kernel_rfl) (fun _ _ _ h => h) (.inl ⟨by kernel_rfl, fun w _ => by go_simp⟩) trivial ?_
          refine storeH 14 rfl (by kernel_rfl) (by kernel_rfl) (by kernel_rfl) 25 (.tmp 42) (.tmp 41) rfl rfl g ((j + 1) * 2) #[.int .u8 y.1, .int .u16 y.2] (by go_simp) (by go_simp) (by kernel_rfl)
            (fun i hi => ?hc) (fun i hi => ?hf) (by intro v hv; simp only [List.mem_cons, List.not_mem_nil, or_false] at hv; rcases hv with rfl | rfl <;> rfl) (fun _ _ => trivial) (fun wS hwS => ?_)
          case hc =>
            obtain ⟨g', N', f', hA', _, hN', hr', _⟩ := hLRc
            cases hA'
            have hi' : i < 2 := by simpa using hi
            rw [hr'.cell (by omega)]; rfl
          case hf =>
            obtain ⟨g', N', f', hA', _, hN', hr', _⟩ := hLRc
            cases hA'
            exact hr'.frozen _
          have hLS := LR.store hLRc (j + 1) hj1 y
          have hXS : (wc.setCells g ((j + 1) * 2) [.int .u8 y.1, .int .u16 y.2]).rowIs W.heap.size 25 2 (labRow x) := hXc.of_block (heap_cells_other (by omega) _ _ _)
          have hBS : Below W.heap.size W (wc.setCells g ((j + 1) * 2) [.int .u8 y.1, .int .u16 y.2]) := below_setCells (by omega) _ _ _ hBc
          rw [show wc.setCells g ((j + 1) * 2) [.int .u8 y.1, .int .u16 y.2] = wS from hwS.symm] at hLS hXS hBS
          have hmS : ∀ r ∈ ms.set (j + 1) y, okL r := fun r hr => by
            rcases List.mem_or_eq_of_mem_set hr with h | rfl
            · exact hmw r h
            · exact hjq
          have hCS := HC.out
          rw [← HY.out] at hCS
          clear hwS
          go_simp
          go_wp2_with fail
          go_roundw
          case rel =>
            refine ⟨j + 1 + 1, ms.set (j + 1) y, by omega, by go_num, by simpa using hml, hmS, ?_, fun _ => hLS, fun _ => hCS, hXS, hBS⟩
            have := hLS.ls (c := c0) hmS (by simp; omega) hfc.2
            simpa [hml] using this
          case measure => simp [intOf]; omega
    · have hkn : k = n := by omega
      rw [hkn] at hch
      have hls0 : n = 0 → ∀ w', LS w' (.slice ad n c0) ms := fun h0 w' => ⟨⟨hls.sr.1, by
        rcases hls.sr.2 with h | ⟨a, c, e1, e2, e3, e4⟩
        · exact .inl h
        · exact .inr ⟨a, c, e1, e2, e3, fun h => by omega⟩⟩, hls.wf⟩
      have HCH := Lib.hid hch
      have HL0 := Lib.hid hls0
      obtain ⟨wl, hwl⟩ : ∃ wl, wl = wr := ⟨_, rfl⟩
      subst hwl
      have HX := Lib.hid hxr
      have HLR := Lib.hid hlr
      clear hch hls0 hkn hls hxr hlr
      go_wp2_with fail
      go_loopw [8, 9, 46] (fun v8 v9 v46 wr => ∃ k : Nat, k ≤ n ∧ v46 = .int .i64 k ∧ v9 = .bool (chainTo ms k) ∧ wr.ownsRow (W.heap.size + 1) 3 1 v8 (upTo (belowF ms x) k).length (ints (upTo (belowF ms x) k)) ∧ (0 < n → LR wr gb ad ms) ∧ wr.rowIs W.heap.size 25 2 (labRow x) ∧ Below W.heap.size W wr) (fun _ _ v46 _ => (n - intOf v46).toNat)
      case atStart => exact ⟨0, by omega, rfl, by simp [chainTo], World.ownsRow_nil _ _ _ _, HLR.out, HX.out, hB⟩
      case round =>
        clear hB HX HLR
        obtain ⟨k, hk, rfl, rfl, hown, hlr, hxr, hB⟩ := hrel
        obtain ⟨wo, hwo⟩ : ∃ wo, wo = wr := ⟨_, rfl⟩
        subst hwo
        by_cases hlt : k < n
        · have hlr' := hlr (by omega)
          obtain ⟨g, N, f, rfl, hgg, hN, hr, hf⟩ := hlr (by omega)
          have hkm : k < ms.length := by omega
          obtain ⟨f0, f1⟩ := hf k hkm
          have q0 := regrown_cell ((hr.cell (i := k * 2) (by omega)).trans (congrArg some f0))
          have q1 := regrown_cell ((hr.cell (i := k * 2 + 1) (by omega)).trans (congrArg some f1))
          have qx0 := regrown_cell (labRow0 hxr)
          have qx1 := regrown_cell (labRow1 hxr)
          have hget : belowF ms x k = leqL ms[k] x := by unfold belowF; rw [List.getD_eq_getElem?_getD, List.getElem?_eq_getElem hkm]; rfl
          have hpo := hmw ms[k] (List.getElem_mem hkm)
          have hnx := upTo_next (belowF ms x) k
          have hcl := upTo_len (belowF ms x) k
          rw [hget] at hnx
          obtain ⟨p, hp⟩ : ∃ p, p = ms[k] := ⟨_, rfl⟩
          rw [← hp] at q0 q1 hnx hpo f0 f1
          have hki : (k : Int) < n := by omega
          have HF := Lib.hid hf
          have HL := Lib.hid hlr'
          have HX := Lib.hid hxr
          have HO := Lib.hid hown
          have HNX := Lib.hid hnx
          have hgl := hr.lt
          clear hp hget f0 f1 hf hlr hlr' hxr hown hnx hr
          go_wp2_with fail
          refine wp_region_quiet_below (by kernel_rfl) (by kernel_rfl) ?_
          repeat (go_big_quiet_step (first | (go_at_call 17; exact Calls.regrown_of (refLeq_any p x hpo hx _))))
          refine wpQuiet_nil ?_
          intro w6 hw6
          have hb6 : Below wo.heap.size wo w6 := by obtain ⟨p, rfl⟩ := hw6; exact below_regrown wo p.d p.os
          have B6 := hB.trans (hb6.mono hB.size)
          have o6 := own_below HO.out hb6
          have l6 := HL.out.keep hb6
          have x6 := HX.out.of_block (hb6.block _ HX.out.lt)
          clear hw6 q0 q1 qx0 qx1 HF HL HX HO
          have hnx := HNX.out
          clear HNX
          cases hpk : leqL p x
          · rw [hpk] at hnx
            simp only [Bool.false_eq_true, if_false, List.append_nil] at hnx
            rw [← hnx] at o6
            clear hnx
            go_wp2_with fail
            have o9 := o6
            have l9 := l6
            have x9 := x6
            have B9 := B6
            obtain ⟨g9, N9, f9, hA9, _, hN9, hr9, hf9⟩ := l9
            have l9 := l6
            cases hA9
            clear o6 l6 x6 B6
            have hgl9 := hr9.lt
            cases hc9 : chainTo ms k
            · skip
              refine wp_region_quiet_below (by kernel_rfl) (by kernel_rfl) ?_
              repeat (go_big_quiet_step (fail))
              refine wpQuiet_nil ?_
              intro w8 hw8
              have hb8 : Below w6.heap.size w6 w8 := by obtain ⟨p, rfl⟩ := hw8; exact below_regrown w6 p.d p.os
              have B8 := B9.trans (hb8.mono B9.size)
              have o8 := own_below o9 hb8
              have l8 := l9.keep hb8
              have x8 := x9.of_block (hb8.block _ x9.lt)
              have hce : false = chainTo ms (k + 1) := by rw [chainTo_next, hc9]; rfl
              clear hw8
              have HCE := Lib.hid hce
              have HO8 := Lib.hid o8
              have HX8 := Lib.hid x8
              have HL8 := Lib.hid l8
              clear hce o8 x8 l8 o9 x9 l9 hr9
              go_wp2_with fail
              go_roundw
              case rel => exact ⟨k + 1, by omega, by go_num, congrArg Value.bool HCE.out, HO8.out, fun _ => HL8.out, HX8.out, B8⟩
              case measure => simp [intOf]; omega
            · by_cases hk0 : k = 0
              · have hk0' : (k : Int) = 0 := by omega
                have hk1' : ((k : Int) == 0) = true := by rw [hk0']; rfl
                refine wp_region_quiet_below (by kernel_rfl) (by kernel_rfl) ?_
                repeat (go_big_quiet_step (fail))
                refine wpQuiet_nil ?_
                intro w8 hw8
                have hb8 : Below w6.heap.size w6 w8 := by obtain ⟨p, rfl⟩ := hw8; exact below_regrown w6 p.d p.os
                have B8 := B9.trans (hb8.mono B9.size)
                have o8 := own_below o9 hb8
                have l8 := l9.keep hb8
                have x8 := x9.of_block (hb8.block _ x9.lt)
                have hce : true = chainTo ms (k + 1) := by rw [chainTo_next, hc9, hk0]; rfl
                clear hw8
                have HCE := Lib.hid hce
                have HO8 := Lib.hid o8
                have HX8 := Lib.hid x8
                have HL8 := Lib.hid l8
                clear hce o8 x8 l8 o9 x9 l9 hr9
                go_wp2_with fail
                go_roundw
                case rel => exact ⟨k + 1, by omega, by go_num, congrArg Value.bool HCE.out, HO8.out, fun _ => HL8.out, HX8.out, B8⟩
                case measure => simp [intOf]; omega
              · obtain ⟨j, hj⟩ : ∃ j, k = j + 1 := ⟨k - 1, by omega⟩
                obtain ⟨f2, f3⟩ := hf9 j (by omega)
                obtain ⟨f4, f5⟩ := hf9 k hkm
                have q2 := regrown_cell ((hr9.cell (i := j * 2) (by omega)).trans (congrArg some f2))
                have q3 := regrown_cell ((hr9.cell (i := j * 2 + 1) (by omega)).trans (congrArg some f3))
                have q4 := regrown_cell ((hr9.cell (i := k * 2) (by omega)).trans (congrArg some f4))
                have q5 := regrown_cell ((hr9.cell (i := k * 2 + 1) (by omega)).trans (congrArg some f5))
                have hpj := hmw ms[j] (List.getElem_mem (by omega))
                have hpk2 := hmw ms[k] (List.getElem_mem hkm)
                have hcn : chainTo ms (k + 1) = leqL ms[j] ms[k] := by
                  rw [chainTo_next, hc9, decide_eq_false hk0, Bool.true_and, Bool.false_or, List.getD_eq_getElem?_getD, List.getD_eq_getElem?_getD, List.getElem?_eq_getElem hkm]
                  have : k - 1 = j := by omega
                  rw [this, List.getElem?_eq_getElem (by omega : j < ms.length)]; rfl
                have HCN := Lib.hid hcn
                have hk2' : ((k : Int) == 0) = false := by rw [beq_eq_false_iff_ne]; omega
                have hkj : (k : Int) - 1 = (j : Int) := by omega
                have hwk : IntKind.i64.wrap ((k : Int) - 1) = (j : Int) := by rw [IntKind.wrap_i64]; omega
                have hwk2 : IntKind.i64.wrap (j : Int) = (j : Int) := by rw [IntKind.wrap_i64]; omega
                have hjn : (j : Int) < n := by omega
                have hjn2 : j < n := by omega
                obtain ⟨pj, hpje⟩ : ∃ pj, pj = ms[j] := ⟨_, rfl⟩
                obtain ⟨pk, hpke⟩ : ∃ pk, pk = ms[k] := ⟨_, rfl⟩
                rw [← hpje] at q2 q3 hpj HCN
                rw [← hpke] at q4 q5 hpk2 HCN
                clear f2 f3 f4 f5 hcn hpje hpke hc9 hj
                refine wp_region_quiet_below (by kernel_rfl) (by kernel_rfl) ?_
                repeat (go_big_quiet_step (first | (go_at_call 17; exact Calls.regrown_of (refLeq_any pj pk hpj hpk2 _))))
                refine wpQuiet_nil ?_
                intro w8 hw8
                have hb8 : Below w6.heap.size w6 w8 := by obtain ⟨p, rfl⟩ := hw8; exact below_regrown w6 p.d p.os
                have B8 := B9.trans (hb8.mono B9.size)
                have o8 := own_below o9 hb8
                have l8 := l9.keep hb8
                have x8 := x9.of_block (hb8.block _ x9.lt)
                have hce : leqL pj pk = chainTo ms (k + 1) := HCN.out.symm
                clear hw8
                have HCE := Lib.hid hce
                have HO8 := Lib.hid o8
                have HX8 := Lib.hid x8
                have HL8 := Lib.hid l8
                clear hce o8 x8 l8 o9 x9 l9 hr9
                go_wp2_with fail
                go_roundw
                case rel => exact ⟨k + 1, by omega, by go_num, congrArg Value.bool HCE.out, HO8.out, fun _ => HL8.out, HX8.out, B8⟩
                case measure => simp [intOf]; omega
          · rw [hpk] at hnx
            simp only [if_true] at hnx
            obtain ⟨ado, co, hform⟩ := own_form o6
            have HN := Lib.hid hnx
            clear hnx
            subst hform
            go_wp2_with (with_reducible refine wpList_stop (some 58) rfl ?_)
            refine Lib.hid ?_
            refine wpList_append_sr rfl (.tmp 55) (.tmp 57) 22 rfl (some 58) rfl (W.heap.size + 1) 3 (.int .i64 0) 1 8 Tryd.underlying22 int_row rfl (by omega) (.slice ado (upTo (belowF ms x) k).length co) (.slice (some ⟨w6.heap.size, 0, none⟩) 1 1) (upTo (belowF ms x) k).length 1
              (ints (upTo (belowF ms x) k)) [.int .i64 k] rfl (own_below o6 (bnew _ _)) rfl (SR.of_own (World.ownsRow_lit w6 #[.int .i64 k] 1 (Nat.le_refl _) (by simp [maxLen]) rfl)) (fun u hu => by simp only [List.mem_singleton] at hu; subst hu; rfl) (by simp [maxLen]; omega) (by omega) (by have := x6.lt; simp; omega) ?_
            intro u w7 o9 hg7 _
            rw [← ints_app, show (upTo (belowF ms x) k).length + 1 = (upTo (belowF ms x) k ++ [k]).length by simp, ← HN.out] at o9
            obtain ⟨g9, N9, f9, hA9, hgb9, hN9, hr6, hf9⟩ := l6
            cases hA9
            have hr9 := hr6.of_block (show w7.heap[g]? = w6.heap[g]? by
              rw [hg7.block _ (by have := hr6.lt; simp; omega) (fun h => Lib.ownBlock_ne o6 (rowIs_arr hr6) (by decide) h.symm), Below.heap_alloc _ _ _ hr6.lt])
            have l9 : LR w7 gb (some ⟨g, 0, none⟩) ms := ⟨g, N9, f9, rfl, hgb9, hN9, hr9, hf9⟩
            have x9 : w7.rowIs W.heap.size 25 2 (labRow x) := x6.of_block (by
              rw [hg7.block _ (by have := x6.lt; simp; omega) (fun h => by have := (o6.lt _ h.symm).1; omega), Below.heap_alloc _ _ _ x6.lt])
            have B9 : Below W.heap.size W w7 := (B6.alloc B6.size _).grown hg7 (by have := B6.size; simp; omega) (fun j hj => by have := (o6.lt _ hj).1; omega)
            obtain ⟨adu, cu, rfl⟩ := own_form o9
            clear HN hg7 o6 x6 B6 hr6
            go_wp2_with fail
            have hgl9 := hr9.lt
            cases hc9 : chainTo ms k
            · skip
              refine wp_region_quiet_below (by kernel_rfl) (by kernel_rfl) ?_
              repeat (go_big_quiet_step (fail))
              refine wpQuiet_nil ?_
              intro w8 hw8
              have hb8 : Below w7.heap.size w7 w8 := by obtain ⟨p, rfl⟩ := hw8; exact below_regrown w7 p.d p.os
              have B8 := B9.trans (hb8.mono B9.size)
              have o8 := own_below o9 hb8
              have l8 := l9.keep hb8
              have x8 := x9.of_block (hb8.block _ x9.lt)
              have hce : false = chainTo ms (k + 1) := by rw [chainTo_next, hc9]; rfl
              clear hw8
              have HCE := Lib.hid hce
              have HO8 := Lib.hid o8
              have HX8 := Lib.hid x8
              have HL8 := Lib.hid l8
              clear hce o8 x8 l8 o9 x9 l9 hr9
              go_wp2_with fail
              go_roundw
              case rel => exact ⟨k + 1, by omega, by go_num, congrArg Value.bool HCE.out, HO8.out, fun _ => HL8.out, HX8.out, B8⟩
              case measure => simp [intOf]; omega
            · by_cases hk0 : k = 0
              · have hk0' : (k : Int) = 0 := by omega
                have hk1' : ((k : Int) == 0) = true := by rw [hk0']; rfl
                refine wp_region_quiet_below (by kernel_rfl) (by kernel_rfl) ?_
                repeat (go_big_quiet_step (fail))
                refine wpQuiet_nil ?_
                intro w8 hw8
                have hb8 : Below w7.heap.size w7 w8 := by obtain ⟨p, rfl⟩ := hw8; exact below_regrown w7 p.d p.os
                have B8 := B9.trans (hb8.mono B9.size)
                have o8 := own_below o9 hb8
                have l8 := l9.keep hb8
                have x8 := x9.of_block (hb8.block _ x9.lt)
                have hce : true = chainTo ms (k + 1) := by rw [chainTo_next, hc9, hk0]; rfl
                clear hw8
                have HCE := Lib.hid hce
                have HO8 := Lib.hid o8
                have HX8 := Lib.hid x8
                have HL8 := Lib.hid l8
                clear hce o8 x8 l8 o9 x9 l9 hr9
                go_wp2_with fail
                go_roundw
                case rel => exact ⟨k + 1, by omega, by go_num, congrArg Value.bool HCE.out, HO8.out, fun _ => HL8.out, HX8.out, B8⟩
                case measure => simp [intOf]; omega
              · obtain ⟨j, hj⟩ : ∃ j, k = j + 1 := ⟨k - 1, by omega⟩
                obtain ⟨f2, f3⟩ := hf9 j (by omega)
                obtain ⟨f4, f5⟩ := hf9 k hkm
                have q2 := regrown_cell ((hr9.cell (i := j * 2) (by omega)).trans (congrArg some f2))
                have q3 := regrown_cell ((hr9.cell (i := j * 2 + 1) (by omega)).trans (congrArg some f3))
                have q4 := regrown_cell ((hr9.cell (i := k * 2) (by omega)).trans (congrArg some f4))
                have q5 := regrown_cell ((hr9.cell (i := k * 2 + 1) (by omega)).trans (congrArg some f5))
                have hpj := hmw ms[j] (List.getElem_mem (by omega))
                have hpk2 := hmw ms[k] (List.getElem_mem hkm)
                have hcn : chainTo ms (k + 1) = leqL ms[j] ms[k] := by
                  rw [chainTo_next, hc9, decide_eq_false hk0, Bool.true_and, Bool.false_or, List.getD_eq_getElem?_getD, List.getD_eq_getElem?_getD, List.getElem?_eq_getElem hkm]
                  have : k - 1 = j := by omega
                  rw [this, List.getElem?_eq_getElem (by omega : j < ms.length)]; rfl
                have HCN := Lib.hid hcn
                have hk2' : ((k : Int) == 0) = false := by rw [beq_eq_false_iff_ne]; omega
                have hkj : (k : Int) - 1 = (j : Int) := by omega
                have hwk : IntKind.i64.wrap ((k : Int) - 1) = (j : Int) := by rw [IntKind.wrap_i64]; omega
                have hwk2 : IntKind.i64.wrap (j : Int) = (j : Int) := by rw [IntKind.wrap_i64]; omega
                have hjn : (j : Int) < n := by omega
                have hjn2 : j < n := by omega
                obtain ⟨pj, hpje⟩ : ∃ pj, pj = ms[j] := ⟨_, rfl⟩
                obtain ⟨pk, hpke⟩ : ∃ pk, pk = ms[k] := ⟨_, rfl⟩
                rw [← hpje] at q2 q3 hpj HCN
                rw [← hpke] at q4 q5 hpk2 HCN
                clear f2 f3 f4 f5 hcn hpje hpke hc9 hj
                refine wp_region_quiet_below (by kernel_rfl) (by kernel_rfl) ?_
                repeat (go_big_quiet_step (first | (go_at_call 17; exact Calls.regrown_of (refLeq_any pj pk hpj hpk2 _))))
                refine wpQuiet_nil ?_
                intro w8 hw8
                have hb8 : Below w7.heap.size w7 w8 := by obtain ⟨p, rfl⟩ := hw8; exact below_regrown w7 p.d p.os
                have B8 := B9.trans (hb8.mono B9.size)
                have o8 := own_below o9 hb8
                have l8 := l9.keep hb8
                have x8 := x9.of_block (hb8.block _ x9.lt)
                have hce : leqL pj pk = chainTo ms (k + 1) := HCN.out.symm
                clear hw8
                have HCE := Lib.hid hce
                have HO8 := Lib.hid o8
                have HX8 := Lib.hid x8
                have HL8 := Lib.hid l8
                clear hce o8 x8 l8 o9 x9 l9 hr9
                go_wp2_with fail
                go_roundw
                case rel => exact ⟨k + 1, by omega, by go_num, congrArg Value.bool HCE.out, HO8.out, fun _ => HL8.out, HX8.out, B8⟩
                case measure => simp [intOf]; omega
        · have hkn : k = n := by omega
          have hlsF : LS wo (.slice ad n c0) ms := by
            by_cases h : 0 < n
            · have := (hlr h).ls (c := c0) hmw (by omega) hfc.2
              rwa [hml] at this
            · exact HL0.out (by omega) wo
          rw [hkn] at hown ⊢
          have x0 := labRow0 hxr
          have x1 := labRow1 hxr
          have hch := HCH.out
          have cB := labBelow_any (.slice ad n c0) ms x hx wo hlsF (by omega)
          rw [hml] at cB
          unfold labV at cB
          have hcl := upTo_len (belowF ms x) n
          have hull : ∀ c ∈ upTo (belowF ms x) n, c < 1000 := fun c hc => by have := upTo_lt _ _ c hc; omega
          obtain ⟨bb, hbb⟩ : ∃ bb, bb = chainTo ms n := ⟨_, rfl⟩
          rw [← hbb] at hch ⊢
          have HBB := Lib.hid hbb
          have HLS := Lib.hid hlsF
          obtain ⟨adv, cv, rfl⟩ := own_form hown
          have HOW := Lib.hid hown
          clear hbb hlsF hown HCH HL0 hlr hxr hkn
          go_wp2_with fail
          go_at_call 22
          refine cB.mono ?_
          rintro e w3 ⟨ub, he, hownb, hb3⟩; subst he
          have s8 := (SI.ofNats HOW.out hull).keep hb3
          have s9 := SI.ofNats hownb hull
          have B3 := hB.trans (hb3.mono hB.size)
          have l3 := HLS.out.keep hb3
          obtain ⟨adb, cb', rfl⟩ := own_form hownb
          clear hownb cB x0 x1
          go_wp2_with fail
          go_at_call 12
          refine (sameInts_any _ _ _ _ s9 s8 (by rw [List.length_map]; omega)).mono ?_
          rintro e w4 ⟨he, hb4⟩; subst he
          have B4 := B3.trans (hb4.mono B3.size)
          have l4 := l3.keep hb4
          have cC := labChain_any (.slice ad n c0) ms w4 l4 (by omega)
          rw [hml, ← HBB.out] at cC
          clear s8 s9 l3 l4
          go_wp2_with fail
          go_at_call 23
          refine cC.mono ?_
          rintro e w5 ⟨he, hb5⟩; subst he
          have B5 := B4.trans (hb5.mono B4.size)
          clear cC
          cases jn
          · go_wp2_with fail
            go_ret
            exact ⟨rfl, B5⟩
          · have hbt := hch rfl
            subst hbt
            go_wp2_with fail
            go_ret
            exact ⟨rfl, B5⟩
end Go.Proofs.YtcjnnonfnlemmaaDoor
