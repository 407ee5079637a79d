/- The law LabelOrders: the walk. -/
import Derived.Test.YtcjnnonfnlemmaaDoorLabJ
import Derived.Test.YtcjnnonfnlemmaaDoorHeld
set_option linter.unusedVariables false
set_option linter.unusedSimpArgs false
namespace Go.Proofs.YtcjnnonfnlemmaaDoor
open Go.RowKit

/-- A literal of two labels. -/
theorem LS.two {w : World} {g : Nat} {t : TypeId} (p q : Nat × Nat) (hp : okL p) (hq : okL q) (h : w.heap[g]? = some (.cells #[.int .u8 p.1, .int .u16 p.2, .int .u8 q.1, .int .u16 q.2] t)) : LS w (.slice (some ⟨g, 0, none⟩) 2 2) [p, q] := by
  refine ⟨⟨by simp [labCells], .inr ⟨_, 2, rfl, Nat.le_refl _, by simp [maxLen], fun h0 => ⟨rfl, rowlt h, fun i hi => ?_⟩⟩⟩, fun r hr => ?_⟩
  · show w.cell? ⟨g, 0 + i, none⟩ = _
    rw [Nat.zero_add, rowcell h]
    simp [labCells]
  · simp only [List.mem_cons, List.not_mem_nil, or_false] at hr
    rcases hr with rfl | rfl
    · exact hp
    · exact hq

section
variable {P : Program} {ops : Array Oper} {Q : Exit → Act → World → Prop} {md : Region.Mode} {fuel : Nat} {l : Array Bool} {a : Act} {w0 wd : World} {o1 o2 o3 o4 : Oper}
/-- Two literals, each handed to a call: whatever order. -/
theorem twoLitCalls (i1 i2 i3 i4 : Nat) (d1 d2 d3 d4 : Tmp) (n13 : i1 ≠ i3) (n23 : i2 ≠ i3) (e13 : d1 ≠ d3) (e23 : d2 ≠ d3)
    (h1 : ops[i1]? = some o1) (h2 : ops[i2]? = some o2) (h3 : ops[i3]? = some o3) (h4 : ops[i4]? = some o4) (t1 : o1.dst = some d1) (t2 : o2.dst = some d2) (t3 : o3.dst = some d3) (t4 : o4.dst = some d4)
    (r0 : Region.ready md ops l = [i1, i3]) (r1 : Region.ready md ops (l.setIfInBounds i1 true) = [i2, i3]) (r12 : Region.ready md ops ((l.setIfInBounds i1 true).setIfInBounds i2 true) = [i3])
    (r13 : Region.ready md ops ((l.setIfInBounds i1 true).setIfInBounds i3 true) = [i2]) (r3 : Region.ready md ops (l.setIfInBounds i3 true) = [i1]) (r123 : Region.ready md ops (((l.setIfInBounds i1 true).setIfInBounds i2 true).setIfInBounds i3 true) = [i4])
    (w1 : Region.wanted o1 (yielded ops a.tmps) = true) (w1' : ∀ v, Region.wanted o1 (yielded ops (a.put (some d3) v).tmps) = true)
    (w2 : ∀ v, Region.wanted o2 (yielded ops (a.put (some d1) v).tmps) = true) (w2' : ∀ v u, Region.wanted o2 (yielded ops ((a.put (some d1) v).put (some d3) u).tmps) = true)
    (w3 : Region.wanted o3 (yielded ops a.tmps) = true) (w3' : ∀ v, Region.wanted o3 (yielded ops (a.put (some d1) v).tmps) = true) (w3'' : ∀ v u, Region.wanted o3 (yielded ops ((a.put (some d1) v).put (some d2) u).tmps) = true)
    (w4 : ∀ v u x, Region.wanted o4 (yielded ops (((a.put (some d1) v).put (some d2) u).put (some d3) x).tmps) = true)
    (C : Obj) (sl : Nat → Value)
    (x1 : ∀ w, (execOp a.eval o1).run P w = .ok (.value (sl w.heap.size)) (w.alloc C)) (x1' : ∀ v w, (execOp (a.put (some d3) v).eval o1).run P w = .ok (.value (sl w.heap.size)) (w.alloc C))
    (x3 : ∀ w, (execOp a.eval o3).run P w = .ok (.value (sl w.heap.size)) (w.alloc C)) (x3' : ∀ v w, (execOp (a.put (some d1) v).eval o3).run P w = .ok (.value (sl w.heap.size)) (w.alloc C))
    (x3'' : ∀ v u w, (execOp ((a.put (some d1) v).put (some d2) u).eval o3).run P w = .ok (.value (sl w.heap.size)) (w.alloc C))
    (f2 f4 : FuncId) (x2 : ∀ v w, (execOp (a.put (some d1) v).eval o2).run P w = .ok (.enter f2 #[v]) w) (x2' : ∀ v u w, (execOp ((a.put (some d1) v).put (some d3) u).eval o2).run P w = .ok (.enter f2 #[v]) w)
    (x4 : ∀ v u x w, (execOp (((a.put (some d1) v).put (some d2) u).put (some d3) x).eval o4).run P w = .ok (.enter f4 #[x]) w)
    (v2 v4 : Value) (c2 : ∀ w g, w.heap[g]? = some C → Calls P f2 #[sl g] w fun e w' => e = .returned v2 ∧ Below w.heap.size w w') (c4 : ∀ w g, w.heap[g]? = some C → Calls P f4 #[sl g] w fun e w' => e = .returned v4 ∧ Below w.heap.size w w')
    (hS : Below w0.heap.size w0 wd)
    (hend : ∀ g g' w', Below w0.heap.size w0 w' → wpAnyH P md ops Q (fun w' => Below w0.heap.size w0 w') fuel ((((l.setIfInBounds i1 true).setIfInBounds i2 true).setIfInBounds i3 true).setIfInBounds i4 true) ((((a.put (some d1) (sl g)).put (some d2) v2).put (some d3) (sl g')).put (some d4) v4) w') :
    wpAnyH P md ops Q (fun w' => Below w0.heap.size w0 w') (fuel + 1 + 1 + 1 + 1) l a wd := by
  have al : ∀ {w : World}, Below w0.heap.size w0 w → Below w0.heap.size w0 (w.alloc C) := fun h => h.alloc h.size C
  have last : ∀ (g g' : Nat) (w : World), Below w0.heap.size w0 w → w.heap[g']? = some C →
      wpAnyH P md ops Q (fun w' => Below w0.heap.size w0 w') (fuel + 1) (((l.setIfInBounds i1 true).setIfInBounds i2 true).setIfInBounds i3 true) (((a.put (some d1) (sl g)).put (some d2) v2).put (some d3) (sl g')) w := by
    intro g g' w hw hg
    refine callH i4 h4 (w4 _ _ _) r123 (some d4) t4 f4 #[sl g'] (x4 _ _ _ w) ((c4 w g' hg).mono ?_)
    rintro e w' ⟨he, hb⟩
    have hw' := hw.trans (hb.mono hw.size)
    exact ⟨_, he, hw', hend g g' w' hw'⟩
  have comm2 : ∀ (l : Array Bool), (l.setIfInBounds i3 true).setIfInBounds i2 true = (l.setIfInBounds i2 true).setIfInBounds i3 true := fun l => Array.setIfInBounds_comm _ _ (Ne.symm n23)
  have call2 : ∀ (g g' : Nat) (w : World), Below w0.heap.size w0 w → w.heap[g]? = some C → w.heap[g']? = some C →
      wpAnyH P md ops Q (fun w' => Below w0.heap.size w0 w') (fuel + 1 + 1) ((l.setIfInBounds i1 true).setIfInBounds i3 true) ((a.put (some d1) (sl g)).put (some d3) (sl g')) w := by
    intro g g' w hw hg hg'
    refine callH i2 h2 (w2' _ _) r13 (some d2) t2 f2 #[sl g] (x2' _ _ w) ((c2 w g hg).mono ?_)
    rintro e w' ⟨he, hb⟩
    have hw' := hw.trans (hb.mono hw.size)
    refine ⟨_, he, hw', ?_⟩
    rw [comm2, put_comm _ d3 d2 _ _ (Ne.symm e23)]
    exact last g g' w' hw' (bkeep hb hg')
  refine wpAnyH_two i1 i3 r0 ?_ ?_
  · refine loudK i1 h1 w1 (some d1) t1 _ _ (x1 wd) ⟨al hS, ?_⟩
    refine wpAnyH_two i2 i3 r1 ?_ ?_
    · refine callK i2 h2 (w2 _) (some d2) t2 f2 #[sl wd.heap.size] (x2 _ _) ((c2 _ wd.heap.size (heap_alloc_last wd C)).mono ?_)
      rintro e w' ⟨he, hb⟩
      have hw' := (al hS).trans (hb.mono (al hS).size)
      refine ⟨_, he, hw', ?_⟩
      refine loudH i3 h3 (w3'' _ _) r12 (some d3) t3 _ _ (x3'' _ _ w') _ (fun _ h => h) (al hw') ?_
      exact last _ _ _ (al hw') (heap_alloc_last w' C)
    · refine loudK i3 h3 (w3' _) (some d3) t3 _ _ (x3' _ _) ⟨al (al hS), ?_⟩
      exact call2 _ _ _ (al (al hS)) (bkeep (bnew (wd.alloc C) C) (heap_alloc_last wd C)) (heap_alloc_last (wd.alloc C) C)
  · refine loudK i3 h3 w3 (some d3) t3 _ _ (x3 wd) ⟨al hS, ?_⟩
    refine loudH i1 h1 (w1' _) r3 (some d1) t1 _ _ (x1' _ _) _ (fun _ h => h) (al (al hS)) ?_
    rw [put_comm _ d3 d1 _ _ (Ne.symm e13), Array.setIfInBounds_comm _ _ (Ne.symm n13)]
    exact call2 _ _ _ (al (al hS)) (heap_alloc_last (wd.alloc C) C) (bkeep (bnew (wd.alloc C) C) (heap_alloc_last wd C))
end

theorem joinAll_ok {ls : List (Nat × Nat)} (h : ∀ p ∈ ls, okL p) : okL (joinAll ls) := foldl_ok (fun a b ha hb => joinL_ok ha hb) ls (0, 0) ⟨by simp, by simp⟩ h
theorem meetAll_ok {ls : List (Nat × Nat)} (h : ∀ p ∈ ls, okL p) : okL (meetAll ls) := foldl_ok (fun a b ha hb => meetL_ok ha) ls (15, 65535) ⟨by simp, by simp⟩ h

set_option maxRecDepth 100000 in
set_option maxHeartbeats 8000000 in
theorem labelOrders_walk (W : World) (hT : Tab W) (v0 v1 v2 : Value) (o0 : Arg Tryd.prog W 25 v0) (o1 : Arg Tryd.prog W 25 v1) (o2 : Arg Tryd.prog W 37 v2) :
    Calls Tryd.prog 4 #[v0, v1, v2] W fun e w' => e = .returned (.bool true) ∧ Below W.heap.size W w' := by
  obtain ⟨p, rfl, hp⟩ := lab_of_arg ⟨_, Tryd.underlying25⟩ (by kernel_rfl) o0
  obtain ⟨q, rfl, hq⟩ := lab_of_arg ⟨_, Tryd.underlying25⟩ (by kernel_rfl) o1
  obtain ⟨ls, hz⟩ := LS.of_arg Tryd.underlying37 (by kernel_rfl) (by kernel_rfl) o2
  clear o0 o1 o2
  obtain ⟨A, cap, rfl, hlc, hcm⟩ := hz.sr.form
  have HZ := Lib.hid hz
  have hjo := joinAll_ok hz.wf
  have hme := meetAll_ok hz.wf
  clear hz
  have hB0 := bnewAfter (bnew W (.cells #[.int .u8 p.1, .int .u16 p.2] 25)) (.cells #[.int .u8 q.1, .int .u16 q.2] 25)
  have hoa := bkeep (bnew (W.alloc (.cells #[.int .u8 p.1, .int .u16 p.2] 25)) (.cells #[.int .u8 q.1, .int .u16 q.2] 25)) (heap_alloc_last W (.cells #[.int .u8 p.1, .int .u16 p.2] 25))
  have hob := heap_alloc_last (W.alloc (.cells #[.int .u8 p.1, .int .u16 p.2] 25)) (.cells #[.int .u8 q.1, .int .u16 q.2] 25)
  rw [show (W.alloc (.cells #[.int .u8 p.1, .int .u16 p.2] 25)).heap.size = W.heap.size + 1 by simp] at hob
  unfold labV
  by_cases hbig : 100 < (ls.length : Int)
  · go_enter Tryd.func4, Tryd.ntmps4
    go_wp2_with (go_at_call 8; refine (labAwake_any _ (hT.keep hB0)).mono ?_; rintro e w1 ⟨he, hb⟩; subst he)
    go_ret
    exact ⟨rfl, bnext hB0 hb⟩
  have hlen : (ls.length : Int) ≤ 100 := by omega
  go_enter Tryd.func4, Tryd.ntmps4
  go_wp2_with fail
  go_at_call 8; refine (labAwake_any _ (hT.keep hB0)).mono ?_; rintro e w5 ⟨he, hb1⟩; subst he
  have hB5 := bnext hB0 hb1
  have hoa5 := bkeep hb1 hoa
  have hob5 := bkeep hb1 hob
  clear hoa hob
  obtain ⟨sl, hsl⟩ : ∃ sl, sl = Value.slice A ls.length cap := ⟨_, rfl⟩
  have HZ5 := Lib.hid (HZ.out.keep hB5)
  go_wp2_with fail
  rw [← hsl] at HZ5 ⊢
  replace HZ5 : Hid (LS w5.drew sl ls) := Lib.hid (HZ5.out.drew 1)
  have HSL := Lib.hid hsl
  clear hsl
  have hB6 : Below W.heap.size W w5.drew := bdrewN hB5 1
  have hSd : Below w5.heap.size w5.drew w5.drew := Below.refl _ _
  have hq3 : ∀ w', Below w5.heap.size w5.drew w' → ∀ o, w'.cell? ⟨W.heap.size, o, none⟩ = (#[.int .u8 p.1, .int .u16 p.2] : Array Value)[o]? := fun w' hb => rowcell (bkeep (w := w') (W := w5.drew) hb hoa5)
  have hq4 : ∀ w', Below w5.heap.size w5.drew w' → ∀ o, w'.cell? ⟨W.heap.size + 1, o, none⟩ = (#[.int .u8 q.1, .int .u16 q.2] : Array Value)[o]? := fun w' hb => rowcell (bkeep (w := w') (W := w5.drew) hb hob5)
  refine wp_region_held (S := fun w' => Below w5.heap.size w5.drew w') (by kernel_rfl) ?_
  change wpAnyH _ _ _ _ _ _ _ _ (World.drew _)
  refine takeH 0 (.agg #[.int .u8 p.1, .int .u16 p.2]) (some 12) rfl rfl (by kernel_rfl) (by kernel_rfl) (by kernel_rfl) (fun _ _ _ h => h) (.inl ⟨by kernel_rfl, fun w hw => by have hc := hq3 w hw; go_simp⟩) hSd ?_
  refine takeH 1 (.agg #[.int .u8 q.1, .int .u16 q.2]) (some 13) rfl rfl (by kernel_rfl) (by kernel_rfl) (by kernel_rfl) (fun _ _ _ h => h) (.inl ⟨by kernel_rfl, fun w hw => by have hc := hq4 w hw; go_simp⟩) hSd ?_
  refine takeH 3 (.agg #[.int .u8 p.1, .int .u16 p.2]) (some 15) rfl rfl (by kernel_rfl) (by kernel_rfl) (by kernel_rfl) (fun _ _ _ h => h) (.inl ⟨by kernel_rfl, fun w hw => by have hc := hq3 w hw; go_simp⟩) hSd ?_
  refine takeH 4 (.agg #[.int .u8 q.1, .int .u16 q.2]) (some 16) rfl rfl (by kernel_rfl) (by kernel_rfl) (by kernel_rfl) (fun _ _ _ h => h) (.inl ⟨by kernel_rfl, fun w hw => by have hc := hq4 w hw; go_simp⟩) hSd ?_

  refine callH 2 rfl (by kernel_rfl) (by kernel_rfl) (some 14) rfl 16 #[.agg #[.int .u8 p.1, .int .u16 p.2], .agg #[.int .u8 q.1, .int .u16 q.2]] ?hrun ((labLeq_any p q hp hq _).mono ?_)
  case hrun => go_simp
  rintro e w6 ⟨he, hbw6⟩
  have hSw6 : Below w5.heap.size w5.drew w6 := hSd.trans (hbw6.mono hSd.size)
  refine ⟨_, he, hSw6, ?_⟩
  refine callH 5 rfl (by kernel_rfl) (by kernel_rfl) (some 17) rfl 17 #[.agg #[.int .u8 p.1, .int .u16 p.2], .agg #[.int .u8 q.1, .int .u16 q.2]] ?hrun ((refLeq_any p q hp hq _).mono ?_)
  case hrun => go_simp
  rintro e w7 ⟨he, hbw7⟩
  have hSw7 : Below w5.heap.size w5.drew w7 := hSw6.trans (hbw7.mono hSw6.size)
  refine ⟨_, he, hSw7, ?_⟩
  refine takeH 6 (.bool true) (some 18) rfl rfl (by kernel_rfl) (by kernel_rfl) (by kernel_rfl) (fun _ _ _ h => h) (.inl ⟨by kernel_rfl, fun w _ => by go_simp⟩) hSw7 ?_
  refine takeH 7 (.bool true) (some 19) rfl rfl (by kernel_rfl) (by kernel_rfl) (by kernel_rfl) (fun _ _ _ h => h) (.inl ⟨by kernel_rfl, fun w _ => by go_simp⟩) hSw7 ?_
  refine takeH 8 (sl) (some 20) rfl rfl (by kernel_rfl) (by kernel_rfl) (by kernel_rfl) (fun _ _ _ h => h) (.inl ⟨by kernel_rfl, fun w _ => by go_simp⟩) hSw7 ?_
  refine takeH 10 (sl) (some 22) rfl rfl (by kernel_rfl) (by kernel_rfl) (by kernel_rfl) (fun _ _ _ h => h) (.inl ⟨by kernel_rfl, fun w _ => by go_simp⟩) hSw7 ?_
  refine callH 9 rfl (by kernel_rfl) (by kernel_rfl) (some 21) rfl 18 #[sl] ?hrun ((labJoin_any sl ls _ (HZ5.out.keep hSw7) (by omega)).mono ?_)
  case hrun => go_simp
  rintro e w8 ⟨he, hbw8⟩
  have hSw8 : Below w5.heap.size w5.drew w8 := hSw7.trans (hbw8.mono hSw7.size)
  refine ⟨_, he, hSw8, ?_⟩
  refine callH 11 rfl (by kernel_rfl) (by kernel_rfl) (some 23) rfl 19 #[sl] ?hrun ((refJoin_any sl ls _ (HZ5.out.keep hSw8) (by omega)).mono ?_)
  case hrun => go_simp
  rintro e w9 ⟨he, hbw9⟩
  have hSw9 : Below w5.heap.size w5.drew w9 := hSw8.trans (hbw9.mono hSw8.size)
  refine ⟨_, he, hSw9, ?_⟩
  refine takeH 12 (.bool true) (some 24) rfl rfl (by kernel_rfl) (by kernel_rfl) (by kernel_rfl) (fun _ _ _ h => h) (.inl ⟨by kernel_rfl, fun w _ => exec_eql (xs := #[.int .u8 (joinAll ls).1, .int .u16 (joinAll ls).2]) (ys := #[.int .u8 (joinAll ls).1, .int .u16 (joinAll ls).2]) rfl (by go_simp; rfl) (by go_simp; rfl) (by kernel_rfl) (eqLab_same _ hjo w)⟩) hSw9 ?_
  refine takeH 13 (.bool true) (some 25) rfl rfl (by kernel_rfl) (by kernel_rfl) (by kernel_rfl) (fun _ _ _ h => h) (.inl ⟨by kernel_rfl, fun w _ => by go_simp⟩) hSw9 ?_
  refine takeH 14 (.bool true) (some 26) rfl rfl (by kernel_rfl) (by kernel_rfl) (by kernel_rfl) (fun _ _ _ h => h) (.inl ⟨by kernel_rfl, fun w _ => by go_simp⟩) hSw9 ?_
  refine takeH 15 (sl) (some 27) rfl rfl (by kernel_rfl) (by kernel_rfl) (by kernel_rfl) (fun _ _ _ h => h) (.inl ⟨by kernel_rfl, fun w _ => by go_simp⟩) hSw9 ?_
  refine takeH 17 (sl) (some 29) rfl rfl (by kernel_rfl) (by kernel_rfl) (by kernel_rfl) (fun _ _ _ h => h) (.inl ⟨by kernel_rfl, fun w _ => by go_simp⟩) hSw9 ?_
  refine callH 16 rfl (by kernel_rfl) (by kernel_rfl) (some 28) rfl 20 #[sl] ?hrun ((labMeet_any sl ls _ (HZ5.out.keep hSw9) (by omega)).mono ?_)
  case hrun => go_simp
  rintro e w10 ⟨he, hbw10⟩
  have hSw10 : Below w5.heap.size w5.drew w10 := hSw9.trans (hbw10.mono hSw9.size)
  refine ⟨_, he, hSw10, ?_⟩
  refine callH 18 rfl (by kernel_rfl) (by kernel_rfl) (some 30) rfl 21 #[sl] ?hrun ((refMeet_any sl ls _ (HZ5.out.keep hSw10) (by omega)).mono ?_)
  case hrun => go_simp
  rintro e w11 ⟨he, hbw11⟩
  have hSw11 : Below w5.heap.size w5.drew w11 := hSw10.trans (hbw11.mono hSw10.size)
  refine ⟨_, he, hSw11, ?_⟩
  refine takeH 19 (.bool true) (some 31) rfl rfl (by kernel_rfl) (by kernel_rfl) (by kernel_rfl) (fun _ _ _ h => h) (.inl ⟨by kernel_rfl, fun w _ => exec_eql (xs := #[.int .u8 (meetAll ls).1, .int .u16 (meetAll ls).2]) (ys := #[.int .u8 (meetAll ls).1, .int .u16 (meetAll ls).2]) rfl (by go_simp; rfl) (by go_simp; rfl) (by kernel_rfl) (eqLab_same _ hme w)⟩) hSw11 ?_
  refine takeH 20 (.bool true) (some 32) rfl rfl (by kernel_rfl) (by kernel_rfl) (by kernel_rfl) (fun _ _ _ h => h) (.inl ⟨by kernel_rfl, fun w _ => by go_simp⟩) hSw11 ?_
  refine takeH 21 (.bool true) (some 33) rfl rfl (by kernel_rfl) (by kernel_rfl) (by kernel_rfl) (fun _ _ _ h => h) (.inl ⟨by kernel_rfl, fun w _ => by go_simp⟩) hSw11 ?_
  refine takeH 22 (.agg #[.int .u8 p.1, .int .u16 p.2]) (some 34) rfl rfl (by kernel_rfl) (by kernel_rfl) (by kernel_rfl) (fun _ _ _ h => h) (.inl ⟨by kernel_rfl, fun w hw => by have hc := hq3 w hw; go_simp⟩) hSw11 ?_
  refine takeH 23 (.agg #[.int .u8 q.1, .int .u16 q.2]) (some 35) rfl rfl (by kernel_rfl) (by kernel_rfl) (by kernel_rfl) (fun _ _ _ h => h) (.inl ⟨by kernel_rfl, fun w hw => by have hc := hq4 w hw; go_simp⟩) hSw11 ?_
  refine takeH 26 (.agg #[.int .u8 p.1, .int .u16 p.2]) (some 38) rfl rfl (by kernel_rfl) (by kernel_rfl) (by kernel_rfl) (fun _ _ _ h => h) (.inl ⟨by kernel_rfl, fun w hw => by have hc := hq3 w hw; go_simp⟩) hSw11 ?_
  refine takeH 27 (.agg #[.int .u8 q.1, .int .u16 q.2]) (some 39) rfl rfl (by kernel_rfl) (by kernel_rfl) (by kernel_rfl) (fun _ _ _ h => h) (.inl ⟨by kernel_rfl, fun w hw => by have hc := hq4 w hw; go_simp⟩) hSw11 ?_
  clear hq3 hq4 HZ5 HZ hSw6 hSw7 hSw8 hSw9 hSw10 hb1 hoa5 hob5 hbw6 hbw7 hbw8 hbw9 hbw10 hbw11
  have hj2 : okL (joinAll [p, q]) := joinAll_ok (fun r hr => by simp only [List.mem_cons, List.not_mem_nil, or_false] at hr; rcases hr with rfl | rfl; exact hp; exact hq)
  have cJ : ∀ (w : World) (g : Nat), w.heap[g]? = some (Obj.cells #[.int .u8 p.1, .int .u16 p.2, .int .u8 q.1, .int .u16 q.2] 25) → Calls Tryd.prog 18 #[.slice (some ⟨g, 0, none⟩) 2 2] w fun e w' => e = .returned (labV (joinAll [p, q])) ∧ Below w.heap.size w w' := fun w g h => labJoin_any _ [p, q] w (LS.two p q hp hq h) (by simp)
  have cR : ∀ (w : World) (g : Nat), w.heap[g]? = some (Obj.cells #[.int .u8 p.1, .int .u16 p.2, .int .u8 q.1, .int .u16 q.2] 25) → Calls Tryd.prog 19 #[.slice (some ⟨g, 0, none⟩) 2 2] w fun e w' => e = .returned (labV (joinAll [p, q])) ∧ Below w.heap.size w w' := fun w g h => refJoin_any _ [p, q] w (LS.two p q hp hq h) (by simp)
  refine twoLitCalls (w0 := w5.drew) 24 25 28 29 36 37 40 41 (by decide) (by decide) (by decide) (by decide) rfl rfl rfl rfl rfl rfl rfl rfl (by kernel_rfl) (by kernel_rfl) (by kernel_rfl) (by kernel_rfl) (by kernel_rfl) (by kernel_rfl) (by kernel_rfl) (fun _ => by kernel_rfl) (fun _ => by kernel_rfl) (fun _ _ => by kernel_rfl) (by kernel_rfl) (fun _ => by kernel_rfl) (fun _ _ => by kernel_rfl) (fun _ _ _ => by kernel_rfl) (Obj.cells #[.int .u8 p.1, .int .u16 p.2, .int .u8 q.1, .int .u16 q.2] 25) (fun g => .slice (some ⟨g, 0, none⟩) 2 2) (fun w => by go_simp) (fun v w => by go_simp) (fun w => by go_simp) (fun v w => by go_simp) (fun v u w => by go_simp) _ _ (fun v w => by go_simp) (fun v u w => by go_simp) (fun v u x w => by go_simp) _ _ cJ cR hSw11 (fun g g' wz hSz => ?_)
  refine takeH 30 (.bool true) (some 42) rfl rfl (by kernel_rfl) (by kernel_rfl) (by kernel_rfl) (fun _ _ _ h => h) (.inl ⟨by kernel_rfl, fun w _ => exec_eql (xs := #[.int .u8 (joinAll [p, q]).1, .int .u16 (joinAll [p, q]).2]) (ys := #[.int .u8 (joinAll [p, q]).1, .int .u16 (joinAll [p, q]).2]) rfl (by go_simp; rfl) (by go_simp; rfl) (by kernel_rfl) (eqLab_same _ hj2 w)⟩) hSz ?_
  refine takeH 31 (.bool true) (some 43) rfl rfl (by kernel_rfl) (by kernel_rfl) (by kernel_rfl) (fun _ _ _ h => h) (.inl ⟨by kernel_rfl, fun w _ => by go_simp⟩) hSz ?_
  refine takeH 32 (.bool true) (some 6) rfl rfl (by kernel_rfl) (by kernel_rfl) (by kernel_rfl) (fun _ _ _ h => h) (.inl ⟨by kernel_rfl, fun w _ => by go_simp⟩) hSz ?_
  refine wpAnyH_done (by kernel_rfl) ?_ _
  go_simp
  go_wp2_with fail
  go_ret
  exact ⟨rfl, hB6.trans (hSz.mono hB5.size)⟩
end Go.Proofs.YtcjnnonfnlemmaaDoor
