/- append(s, make([]byte, n)...). The document's Check. The document's Run. The document's step, whatever the instruction. The law's own 'same'. For the laws of both machines: append of make, whatever its length; the document's memory as a row; both machines beside each other. CpuOnes: its walk. -/
import Derived.Test.YtapcbfeifeobhaaSl
import Derived.Maps.AppendAt
import Derived.Test.YtapcbfeifeobhaaOpsK
import Derived.Lib.LazyBuf
import Derived.Test.YtapcbfeifeobhaaRf0
import Derived.Test.YtapcbfeifeobhaaRfD
import Derived.Test.YtapcbfeifeobhaaRfE
import Derived.Test.YtapcbfeifeobhaaRfF
import Derived.Test.YtapcbfeifeobhaaCpU4
set_option linter.unusedVariables false
set_option linter.unusedSimpArgs false
namespace Go.Proofs.Ytapcbfeifeobhaa
open Go.RowKit

def nul8 (m : Nat) : List Value := List.replicate m (.int .u8 0)
theorem zeroCells_u8 (m : Nat) : Builtin.zeroCells #[Value.int .u8 0] m = (nul8 m).toArray := by
  unfold Builtin.zeroCells nul8
  apply Array.ext
  · simp
  · intro i h1 h2
    simp [Nat.mod_one]
section
variable {P : Program} (w : World)
theorem run_append_make (base : Nat) (t ti ty e : TypeId) (i : TypeInfo) (ht : P.underlying t = some (.slice e)) (hti : P.underlying ti = some (.int .i64)) (hi : P.info? e = some i) (hz : i.zero = some (.int .u8 0))
    (hsize : i.size = 1) (hby : i.bytes = 1) (v : Value) (n : Nat) (xs : List Value) (hown : w.ownsRow base e 1 v n xs) (m : Nat) (hm : 0 < m)
    (h63 : n + m ≤ maxLen) (hbytes : (n + m) * 1 ≤ 140737488355328) (hbase : base ≤ w.heap.size) :
    ∃ v' w', (Builtin.append_ #[t, ti] ty #[v, .int .i64 m]).run P w = .ok v' w' ∧ w'.ownsRow base e 1 v' (n + m) (xs ++ nul8 m) ∧ w.grownBy w' v.ownBlock ∧ (v'.ownBlock = v.ownBlock ∨ v'.ownBlock = some w.heap.size) := by
  have hl : (nul8 m).length = m := List.length_replicate
  have hsmall : n + m ≤ 9223372036854775807 := by simp only [maxLen] at h63; omega
  have hlen : (xs ++ nul8 m).length = (n + m) * 1 := by rw [List.length_append, hown.1, hl]; omega
  have hwr : IntKind.i64.wrap (m : Int) = m := by rw [IntKind.wrap_i64]; omega
  have hneg : ¬ ((m : Int) < 0) := by omega
  have h48 : ¬ (281474976710656 < (m : Int)) := by omega
  have hm0 : ¬ m = 0 := by omega
  have grown : ∀ (old : Nat), old < n + m → ∀ (row : Option Nat),
      (w.drew.alloc (.cells (xs.toArray ++ (nul8 m).toArray ++ Builtin.zeroCells #[Value.int .u8 0] (grownCap w (n + m) old e - (n + m))) e)).ownsRow base e 1
        (.slice (some ⟨w.heap.size, 0, none⟩) (n + m) (grownCap w (n + m) old e)) (n + m) (xs ++ nul8 m) ∧
      w.grownBy (w.drew.alloc (.cells (xs.toArray ++ (nul8 m).toArray ++ Builtin.zeroCells #[Value.int .u8 0] (grownCap w (n + m) old e - (n + m))) e)) row := by
    intro old ho row
    have hge := grownCap_ge w (n + m) old e
    have hcm : grownCap w (n + m) old e ≤ maxLen := grownCap_le_maxLen w (n + m) old e h63
    refine ⟨⟨hlen, .inr ⟨w.heap.size, _, _, rfl, hbase, heap_alloc_new w.drew _, hge, hcm, ?_, ?_⟩⟩, ⟨rfl, rfl, rfl, by simp, fun k hk _ => heap_alloc_old w.drew _ hk⟩⟩
    · simp only [Array.size_append, List.size_toArray, size_zeroCells, hown.1, hl]
      simp
      omega
    · simp only [Array.toList_append, List.append_assoc]
      rw [← List.append_assoc, ← hlen]
      exact List.take_left
  rcases hown.2 with ⟨rfl, rfl⟩ | ⟨g, cap, cur, rfl, hbg, hg, hnc, hcm, hcs, htake⟩
  · have hx : xs = [] := List.eq_nil_of_length_eq_zero (by simpa using hown.1)
    subst hx
    have hgr := grown 0 (by omega) (Value.ownBlock (.slice none 0 0))
    refine ⟨_, _, ?_, hgr.1, hgr.2, .inr rfl⟩
    have hn : ¬ (m ≤ 0) := by omega
    have h48' : ¬ (281474976710656 < Builtin.nextslicecap m 0) := by have := growslice_fits (need := m) (old := 0) (bytes := 1) (by omega) (by omega); omega
    have h63' : ¬ (9223372036854775807 < (m : Int)) := by omega
    simp [Builtin.append_, run_underlying ht, run_underlying hti, sizeOf, typeInfo, zeroValue, hi, hz, hsize, hby, asInt, asIntOf, hwr, hneg, h48, hm0, hn, h48', h63', Question.forced, Builtin.firstCells, newRow, grownCap, zeroCells_u8, Value.cells]
  · by_cases hroom : n + m ≤ cap
    · have hfit : n * 1 + (nul8 m).length ≤ cur.size := by rw [hl, hcs]; omega
      have h1 : ∀ u ∈ nul8 m, u.oneCell' = true := fun u hu => by rw [List.eq_of_mem_replicate hu]; rfl
      have hst := run_storeCells_at P g (n * 1) e (nul8 m) 0 cur w hg (by simpa using hfit) h1
      simp only [Nat.add_zero, Nat.mul_one] at hst
      refine ⟨.slice (some ⟨g, 0, none⟩) (n + m) cap, w.setRow g (cur.toList.take (n * 1) ++ nul8 m ++ cur.toList.drop (n * 1 + (nul8 m).length)).toArray, ?_, ⟨hlen, .inr ⟨g, cap, _, rfl, hbg, setRow_heap w g cur _ e _ hg, hroom, hcm, ?_, ?_⟩⟩, ⟨rfl, rfl, rfl, by simp, fun k _ hk => setRow_other w g k _ (fun e => hk (by simp [Value.ownBlock, e]))⟩, .inl rfl⟩
      · simp [Builtin.append_, run_underlying ht, run_underlying hti, sizeOf, typeInfo, zeroValue, hi, hz, hsize, hby, asInt, asIntOf, hwr, hneg, h48, hm0, hroom, zeroCells_u8, Value.cells, Addr.add_lit, hst]
      · simp only [List.size_toArray, List.length_append, List.length_take, List.length_drop, Array.length_toList]
        omega
      · rw [htake, ← hlen]
        exact List.take_left
    · have hgr := grown cap (by omega) (Value.ownBlock (.slice (some ⟨g, 0, none⟩) n cap))
      refine ⟨_, _, ?_, hgr.1, hgr.2, .inr rfl⟩
      have holds : ∀ j u, xs[j]? = some u → w.cell? ((⟨g, 0, none⟩ : Addr).add j) = some u := hown.cells (g := g) rfl
      have ho := run_firstCells_some (P := P) w.drew 1 n ⟨g, 0, none⟩ n cap xs hown.1 (by simpa using holds)
      have h48' : ¬ (281474976710656 < Builtin.nextslicecap (n + m) cap) := by have := growslice_fits (need := n + m) (old := cap) (bytes := 1) (by omega) (by omega); omega
      have h63' : ¬ (9223372036854775807 < ((n : Int) + (m : Int))) := by omega
      simp [Builtin.append_, run_underlying ht, run_underlying hti, sizeOf, typeInfo, zeroValue, hi, hz, hsize, hby, asInt, asIntOf, hwr, hneg, h48, hm0, hroom, h48', h63', Question.forced, ho, newRow, grownCap, zeroCells_u8, Value.cells]
end
/-- append(s, make([]byte, m)...) onto a row of the call's own. -/
theorem wpList_append_make {P : Program} {w : World} {ops : Array Oper} {rest : List Oper} {o : Oper} {a : Act} {Q : Exit → Act → World → Prop} (hgd : o.guard = none) (s x : Operand) (t ti : TypeId)
    (ho : o.op = .call { callee := .builtin .append, args := #[s, x], argTypes := #[t, ti] }) (d : Option Tmp) (hd : o.dst = d)
    (base : Nat) (e : TypeId) (ht : P.underlying t = some (.slice e)) (hti : P.underlying ti = some (.int .i64)) (hinfo : (P.info? e).map (fun i => (i.zero, i.size, i.bytes)) = some (some (.int .u8 0), 1, 1))
    (v : Value) (n m : Nat) (xs : List Value) (hs : a.eval s = v) (hown : w.ownsRow base e 1 v n xs) (hx : a.eval x = .int .i64 m) (hm : 0 < m)
    (h63 : n + m ≤ maxLen) (hbytes : (n + m) * 1 ≤ 140737488355328) (hbase : base ≤ w.heap.size)
    (h : ∀ v' w', w'.ownsRow base e 1 v' (n + m) (xs ++ nul8 m) → w.grownBy w' v.ownBlock → (v'.ownBlock = v.ownBlock ∨ v'.ownBlock = some w.heap.size) → wpList P ops Q rest (a.put d v') w') :
    wpList P ops Q (o :: rest) a w := by
  subst hd
  refine wpList_plain hgd fun K hK => ?_
  obtain ⟨i, hi, hz, hz1, hz2⟩ := info_parts hinfo
  obtain ⟨v', w', hr, h2, h3, h5⟩ := run_append_make (P := P) w base t ti o.type e i ht hti hi hz hz1 hz2 v n xs hown m hm h63 hbytes hbase
  unfold Oper.wp execOp
  simp only [ho, resolve, invoke, builtin, Sem.run_bind, Sem.run_pure, Result.andThen_ok, List.map_toArray, List.map_cons, List.map_nil, hs, hx, hr]
  exact hK _ _ (h v' w' h2 h3 h5)
end Go.Proofs.Ytapcbfeifeobhaa

set_option linter.unusedVariables false
set_option linter.unusedSimpArgs false
namespace Go.Proofs.Ytapcbfeifeobhaa
open Go.RowKit
set_option maxRecDepth 100000 in
set_option maxHeartbeats 4000000 in
theorem refCheck_any (o x y z : Int) (ho : 0 ≤ o ∧ o ≤ 255) (hx : 0 ≤ x ∧ x ≤ 255) (hy : 0 ≤ y ∧ y ≤ 255) (hz : 0 ≤ z ∧ z ≤ 255) (w : World) :
    Calls Try.prog 28 #[.agg #[.int .u8 o, .int .u8 x, .int .u8 y, .int .u8 z]] w fun e w' => e = .returned (.int .i64 (checkI (formOf o.toNat) x y z)) ∧ Below w.heap.size w w' := by
  have HC : Hid (∀ w, Calls Try.prog 9 #[.int .i64 o] w fun e w' => e = .returned (.int .i64 (if formOf o.toNat < 9 then (formOf o.toNat : Int) else -1)) ∧ Below w.heap.size w w') := by
    refine Lib.hid fun w => ?_
    by_cases h : 1 ≤ o ∧ o ≤ 39
    · refine (refForm_in o h.1 h.2 w).mono fun e w' hh => ⟨?_, hh.2⟩
      rw [hh.1, if_pos (by have := formOf_le o.toNat (by omega) (by omega); omega)]
    · refine (refForm_out o (by omega) w).mono fun e w' hh => ⟨?_, by rw [← hh.2]; exact Below.refl _ _⟩
      have : formOf o.toNat = 9 := by
        by_cases h0 : o = 0
        · subst h0; rfl
        · exact formOf_hi _ (by omega)
      rw [hh.1, this]; rfl
  have hf : formOf o.toNat ≤ 9 := by
    rcases Nat.lt_or_ge o.toNat 40 with h | h
    · exact (by decide : ∀ n, n < 40 → formOf n ≤ 9) _ h
    · rw [formOf_hi _ h]; omega
  obtain ⟨ho0, ho1⟩ := ho
  obtain ⟨hx0, hx1⟩ := hx
  obtain ⟨hy0, hy1⟩ := hy
  obtain ⟨hz0, hz1⟩ := hz
  generalize hfe : formOf o.toNat = f at hf HC ⊢
  clear hfe
  have hc : f = 0 ∨ f = 1 ∨ f = 2 ∨ f = 3 ∨ f = 4 ∨ f = 5 ∨ f = 6 ∨ f = 7 ∨ f = 8 ∨ f = 9 := by omega
  go_enter Try.func28, Try.ntmps28
  go_wp2
  go_quiet (fail)
  rcases hc with rfl | rfl | rfl | rfl | rfl | rfl | rfl | rfl | rfl | rfl
  all_goals
    go_wp2_with (first
      | (go_at_call 9; refine (HC.out _).mono ?_; rintro e w1 ⟨rfl, hb1⟩; have B1 := bkeep hb1 (heap_alloc_last w _); have C1 := rowcell B1))
  all_goals clear HC
  all_goals
    go_ret
    refine ⟨ret_int ?_, bnext (bdrewN (bnew w _) _) hb1⟩
  all_goals simp only [checkI, checkOk, Bool.not_eq_true', Bool.not_eq_false', Bool.and_eq_true, Bool.or_eq_true, decide_eq_true_eq, decide_eq_false_iff_not, beq_iff_eq, beq_eq_false_iff_ne, ne_eq] at *
  all_goals simp [*] <;> omega

end Go.Proofs.Ytapcbfeifeobhaa

set_option linter.unusedVariables false
set_option linter.unusedSimpArgs false
namespace Go.Proofs.Ytapcbfeifeobhaa
open Go.RowKit
theorem opName_sys : ∀ o, o < 40 → o ≠ 39 → ((opName o).data.toList == [115, 121, 115]) = false := by decide +kernel
def runA (p : Nat × Nat × Nat) : Value := .tuple #[.int .i64 p.1, .int .i64 p.2.1, .int .i64 p.2.2]
def RunQ (gy gb N m : Nat) (A : Option Addr) (cap : Nat) (s : Mach) (b : Nat) (w : World) (e : Ending) (w' : World) : Prop :=
  e = .returned (runA (runM (stI m) b 0 s).2) ∧ DW w' gy gb N m A cap (runM (stI m) b 0 s).1 ∧ Chg (dwS gy gb) w w'
def StepC (gy gb N m : Nat) (A : Option Addr) (cap : Nat) : Prop := ∀ (w : World) (s : Mach) (o x y z : Nat), DW w gy gb N m A cap s → checkI (formOf o) x y z = 0 → o ≠ 39 → y ≤ 255 → z ≤ 255 →
  Calls Try.prog 29 #[.pointer (some ⟨gy, 0, none⟩), .agg #[.int .u8 o, .int .u8 x, .int .u8 y, .int .u8 z]] w (RefP gy gb N m A cap s o x y z w)
set_option maxRecDepth 100000 in
set_option maxHeartbeats 16000000 in
theorem refRun_c {w : World} {gy gb N m cap : Nat} {A : Option Addr} {s : Mach} (hstep : StepC gy gb N m A cap) (h : DW w gy gb N m A cap s) (b : Nat) (hb : b ≤ 65536) :
    Calls Try.prog 13 #[.pointer (some ⟨gy, 0, none⟩), .int .i64 b] w (RunQ gy gb N m A cap s b w) := by
  have HSTEP := Lib.hid hstep
  have HH := Lib.hid h
  have fb : ¬ ((65536 : Int) < b) := by omega
  clear hstep h
  go_enter Try.func13, Try.ntmps13
  go_wp2_with fail
  go_loopw [7] (fun r wx => ∃ (d : Nat) (s1 : Mach), d ≤ b ∧ r = .int .i64 d ∧ DW wx gy gb N m A cap s1 ∧ Chg (dwS gy gb) w wx ∧ runM (stI m) b 0 s = runM (stI m) (b - d) d s1) (fun r _ => b - (intOf r).toNat)
  case atStart => exact ⟨0, s, Nat.zero_le _, rfl, HH.out, Chg.refl _ _, rfl⟩
  case round =>
    obtain ⟨d, s1, hd, rfl, hdw, hch, hrun⟩ := hrel
    have HD := Lib.hid hdw
    have HCH := Lib.hid hch
    have HRUN := Lib.hid hrun
    clear hdw hch hrun HH
    by_cases hdb : d < b
    · have f1 : (d : Int) < b := by omega
      have HJ := Lib.hid (show b - d = (b - d - 1) + 1 by omega)
      obtain ⟨Lm, hLm⟩ : ∃ L, L = 64 * m := ⟨_, rfl⟩
      have HLM := Lib.hid hLm
      obtain ⟨va, hva⟩ : ∃ k, k = s1.at_ := ⟨_, rfl⟩
      have ra := HD.out.wf.a0
      rw [← hva] at ra
      obtain ⟨pc, hpc⟩ : ∃ k, k = pcN s1 := ⟨_, rfl⟩
      have hpv : (pc : Int) = va := by rw [hpc, hva]; exact Int.toNat_of_nonneg HD.out.wf.a0.1
      have HVA := Lib.hid hva
      have HPC := Lib.hid hpc
      have HPV := Lib.hid hpv
      clear hLm hva hpc hpv
      by_cases hin : pcN s1 + 4 ≤ 64 * m
      · have HIN := Lib.hid hin
        obtain ⟨n, hn⟩ : ∃ n, n = ldN s1.mem pc 4 := ⟨_, rfl⟩
        have HLD := Lib.hid (fun (w : World) (hd : DW w gy gb N m A cap s1) => show Calls Try.prog 27 #[.slice A Lm cap, .int .u32 va, .int .i64 4] w fun e w' => e = .returned (.tuple #[.int .u32 (n : Nat), .int .i64 0]) ∧ w = w' by have h := refLoad_ok hd.bw cap pc 4 hd.cp (by omega) (by omega) (by rw [HPC.out]; exact HIN.out); rw [HPV.out, ← HLM.out, ← hn] at h; exact h)
        have hnb := hn
        rw [ldN_four] at hnb
        obtain ⟨o, ho⟩ : ∃ k, k = insB s1 0 := ⟨_, rfl⟩
        have uo : o ≤ 255 := by
          have := HD.out.wf.m0 (pcN s1 + 0) (by omega)
          rw [ho]; unfold insB; omega
        have eo : s1.mem (pc + 0) = o := by rw [HPC.out, ho]; rfl
        obtain ⟨x, hx⟩ : ∃ k, k = insB s1 1 := ⟨_, rfl⟩
        have ux : x ≤ 255 := by
          have := HD.out.wf.m0 (pcN s1 + 1) (by omega)
          rw [hx]; unfold insB; omega
        have ex : s1.mem (pc + 1) = x := by rw [HPC.out, hx]; rfl
        obtain ⟨y, hy⟩ : ∃ k, k = insB s1 2 := ⟨_, rfl⟩
        have uy : y ≤ 255 := by
          have := HD.out.wf.m0 (pcN s1 + 2) (by omega)
          rw [hy]; unfold insB; omega
        have ey : s1.mem (pc + 2) = y := by rw [HPC.out, hy]; rfl
        obtain ⟨z, hz⟩ : ∃ k, k = insB s1 3 := ⟨_, rfl⟩
        have uz : z ≤ 255 := by
          have := HD.out.wf.m0 (pcN s1 + 3) (by omega)
          rw [hz]; unfold insB; omega
        have ez : s1.mem (pc + 3) = z := by rw [HPC.out, hz]; rfl
        rw [show s1.mem pc = o from eo, ex, ey, ez] at hnb
        have n0 : (n : Int) % 256 = o := by omega
        have n1 : (n : Int) / 256 % 256 = x := by omega
        have n2 : (n : Int) / 65536 % 256 = y := by omega
        have n3 : (n : Int) / 16777216 = z := by omega
        have nn : n < 4294967296 := by omega
        have HOO := Lib.hid ho
        have HXX := Lib.hid hx
        have HYY := Lib.hid hy
        have HZZ := Lib.hid hz
        clear hn hnb ho hx hy hz eo ex ey ez hin
        obtain ⟨ck, hck⟩ : ∃ k, k = ckI s1 := ⟨_, rfl⟩
        have hckw : ck = 0 ∨ ck = 28 ∨ ck = 32 := by rw [hck]; exact checkI_ways _ _ _ _
        have hcc := fun w => refCheck_any o x y z (by omega) (by omega) (by omega) (by omega) w
        rw [show checkI (formOf ((o : Nat) : Int).toNat) x y z = ck by rw [Int.toNat_natCast, hck, HOO.out, HXX.out, HYY.out, HZZ.out]; rfl] at hcc
        have HCC := Lib.hid hcc
        have HCK := Lib.hid hck
        clear hcc hck
        go_upto_region 5 with fail
        obtain ⟨w0, hw0⟩ : ∃ x, x = wr := ⟨_, rfl⟩
        rw [← hw0] at HD HCH ⊢
        clear hw0
        have hS0 : (fun w' : World => w' = World.drew w0) (World.drew w0) := rfl
        refine wp_region_held (S := fun w' => w' = World.drew w0) (by kernel_rfl) ?_
        change wpAnyH _ _ _ _ _ _ _ _ (World.drew _)
        have cmv : (World.drew w0).cell? ⟨gy, 17, none⟩ = some (.slice A Lm cap) := by have h := HD.out.mv; rw [← HLM.out] at h; exact h
        have cat : (World.drew w0).cell? ⟨gy, 16, none⟩ = some (.int .u32 va) := by have h := HD.out.at_; rw [← HVA.out] at h; exact h
        refine takeH 0 (.pointer (some ⟨gy, 0, none⟩)) (some 19) rfl rfl (by kernel_rfl) (by kernel_rfl) (by kernel_rfl) (fun _ _ _ h => h) (.inl ⟨by kernel_rfl, fun w _ => by go_simp⟩) hS0 ?_
        refine takeH 1 (.pointer (some ⟨gy, 0, none⟩)) (some 20) rfl rfl (by kernel_rfl) (by kernel_rfl) (by kernel_rfl) (fun _ _ _ h => h) (.inl ⟨by kernel_rfl, fun w _ => by go_simp⟩) hS0 ?_
        refine takeH 2 (.pointer (some ⟨gy, 17, none⟩)) (some 21) rfl rfl (by kernel_rfl) (by kernel_rfl) (by kernel_rfl) (fun _ _ _ h => h) (.inl ⟨by kernel_rfl, fun w _ => by go_simp⟩) hS0 ?_
        refine takeH 3 (.slice A Lm cap) (some 22) rfl rfl (by kernel_rfl) (by kernel_rfl) (by kernel_rfl) (fun _ _ _ h => h) (.inl ⟨by kernel_rfl, fun w hw => by subst hw; have hc := cmv; go_simp⟩) hS0 ?_
        refine takeH 4 (.pointer (some ⟨gy, 0, none⟩)) (some 23) rfl rfl (by kernel_rfl) (by kernel_rfl) (by kernel_rfl) (fun _ _ _ h => h) (.inl ⟨by kernel_rfl, fun w _ => by go_simp⟩) hS0 ?_
        refine takeH 5 (.pointer (some ⟨gy, 0, none⟩)) (some 24) rfl rfl (by kernel_rfl) (by kernel_rfl) (by kernel_rfl) (fun _ _ _ h => h) (.inl ⟨by kernel_rfl, fun w _ => by go_simp⟩) hS0 ?_
        refine takeH 6 (.pointer (some ⟨gy, 16, none⟩)) (some 25) rfl rfl (by kernel_rfl) (by kernel_rfl) (by kernel_rfl) (fun _ _ _ h => h) (.inl ⟨by kernel_rfl, fun w _ => by go_simp⟩) hS0 ?_
        refine takeH 7 (.int .u32 va) (some 26) rfl rfl (by kernel_rfl) (by kernel_rfl) (by kernel_rfl) (fun _ _ _ h => h) (.inl ⟨by kernel_rfl, fun w hw => by subst hw; have hc := cat; go_simp⟩) hS0 ?_
        go_simp
        refine callH 8 rfl (by kernel_rfl) (by kernel_rfl) (some 27) rfl 27 #[.slice A Lm cap, .int .u32 va, .int .i64 4] ?hrun ((HLD.out (World.drew w0) (HD.out.keep (drewb w0))).mono ?_)
        case hrun => go_simp
        rintro e wx ⟨he, hwx⟩
        subst hwx
        refine ⟨_, he, rfl, ?_⟩
        refine takeH 9 (.tuple #[.int .u32 (n : Nat), .int .i64 0]) (some 18) rfl rfl (by kernel_rfl) (by kernel_rfl) (by kernel_rfl) (fun _ _ _ h => h) (.inl ⟨by kernel_rfl, fun w _ => by go_simp⟩) hS0 ?_
        refine takeH 10 (.int .u32 (n : Nat)) (some 28) rfl rfl (by kernel_rfl) (by kernel_rfl) (by kernel_rfl) (fun _ _ _ h => h) (.inl ⟨by kernel_rfl, fun w _ => by go_simp⟩) hS0 ?_
        refine takeH 11 (.int .i64 0) (some 29) rfl rfl (by kernel_rfl) (by kernel_rfl) (by kernel_rfl) (fun _ _ _ h => h) (.inl ⟨by kernel_rfl, fun w _ => by go_simp⟩) hS0 ?_
        refine takeH 12 (.int .u32 (n : Nat)) (some 8) rfl rfl (by kernel_rfl) (by kernel_rfl) (by kernel_rfl) (fun _ _ _ h => h) (.inl ⟨by kernel_rfl, fun w _ => by go_simp⟩) hS0 ?_
        refine takeH 13 (.int .i64 0) (some 9) rfl rfl (by kernel_rfl) (by kernel_rfl) (by kernel_rfl) (fun _ _ _ h => h) (.inl ⟨by kernel_rfl, fun w _ => by go_simp⟩) hS0 ?_
        refine wpAnyH_done (by kernel_rfl) ?_ _
        go_simp
        have hb2 := drewb w0
        obtain ⟨w2, hw2⟩ : ∃ x, x = World.drew w0 := ⟨_, rfl⟩
        rw [← hw2] at hb2 ⊢
        have HD2 := Lib.hid (HD.out.keep hb2)
        have HC2 := Lib.hid (HCH.out.trans (Chg.of_below (dwS gy gb) hb2) (fun _ _ h => h))
        clear cmv cat hS0 he hw2 hb2 HD HCH
        have hb3 := bnew w2 (.cells #[.int .u8 o, .int .u8 x, .int .u8 y, .int .u8 z] 24)
        have hl3 := heap_alloc_last w2 (.cells #[.int .u8 o, .int .u8 x, .int .u8 y, .int .u8 z] 24)
        have hc3 := rowcell hl3
        have HD3 := Lib.hid (HD2.out.keep hb3)
        have HC3 := Lib.hid (HC2.out.trans (Chg.of_below (dwS gy gb) hb3) (fun _ _ h => h))
        have HL3 := Lib.hid hl3
        clear hb3 hl3 HD2 HC2
        go_upto_region 9 with fail
        obtain ⟨NI, hNI⟩ : ∃ k, k = w2.heap.size := ⟨_, rfl⟩
        rw [← hNI] at HL3 hc3 ⊢
        generalize w2.alloc (.cells #[.int .u8 o, .int .u8 x, .int .u8 y, .int .u8 z] 24) = w3 at *
        clear hNI
        go_wp2_with fail
        refine (HCC.out _).mono ?_; rintro e w4 ⟨rfl, hb4⟩
        have HD4 := Lib.hid (HD3.out.keep hb4)
        have HC4 := Lib.hid (HC3.out.trans (Chg.of_below (dwS gy gb) hb4) (fun _ _ h => h))
        have HL4 := Lib.hid (bkeep hb4 HL3.out)
        clear hb4 hc3 HD3 HC3 HL3
        by_cases hck0 : ck = 0
        · have q3 : (ck != 0) = false := by rw [bne_eq_false_iff_eq]; exact hck0
          have HCK0 := Lib.hid (show ckI s1 = 0 by rw [← HCK.out]; exact hck0)
          clear hck0 hckw
          have ho40 : o < 40 := by
            have h := HCK0.out
            have h2 := (chk (o := insB s1 0) (x := insB s1 1) (y := insB s1 2) (z := insB s1 3) h).2.1
            rw [← HOO.out] at h2; exact h2
          by_cases h39 : o = 39
          · have fnm : (opName o).toList = [115, 121, 115] := by rw [h39, ByteArray.toList_eq]; rfl
            have HST := Lib.hid (stI_ask HIN.out HCK0.out (by rw [← HOO.out]; exact h39))
            clear h39
            go_upto_region 12 with fail
            have hsg := HL4.out
            have hS0 : (fun w' : World => w'.heap[NI]? = some (.cells #[.int .u8 o, .int .u8 x, .int .u8 y, .int .u8 z] 24 (0, 0))) (World.drew w4) := hsg
            clear hsg
            refine wp_region_held (S := fun w' : World => w'.heap[NI]? = some (.cells #[.int .u8 o, .int .u8 x, .int .u8 y, .int .u8 z] 24 (0, 0))) (by kernel_rfl) ?_
            change wpAnyH _ _ _ _ _ _ _ _ (World.drew _)
            refine takeH 1 (.pointer (some ⟨NI, 0, none⟩)) (some 56) rfl rfl (by kernel_rfl) (by kernel_rfl) (by kernel_rfl) (fun _ _ _ h => h) (.inl ⟨by kernel_rfl, fun w _ => by go_simp⟩) hS0 ?_
            refine takeH 2 (.int .u8 o) (some 57) rfl rfl (by kernel_rfl) (by kernel_rfl) (by kernel_rfl) (fun _ _ _ h => h) (.inl ⟨by kernel_rfl, fun w hw => by have hc := rowcell hw; go_simp⟩) hS0 ?_
            refine callH 0 rfl (by kernel_rfl) (by kernel_rfl) (some 55) rfl 22 #[] ?hrun ((refNames_any _).mono ?_)
            case hrun => go_simp
            rintro e w5 ⟨he, hw5⟩
            have hG : w5.heap[w4.heap.size]? = some (.cells nameVals 9) := by rw [← hw5]; exact heap_alloc_last w4.drew _
            have hb5 : Below w4.heap.size w4 w5 := by rw [← hw5]; exact bnext (drewb w4) (bnew w4.drew _)
            have hS2 := bkeep hb5 HL4.out
            have hsz : w4.drew.heap.size = w4.heap.size := rfl
            rw [hsz] at he
            obtain ⟨G, hGG⟩ : ∃ G, G = w4.heap.size := ⟨_, rfl⟩
            rw [← hGG] at he hG
            have C6 : w5.cell? ⟨G, o, none⟩ = some (.string (opName o)) := by rw [rowcell hG]; exact nameVals_at o ho40
            have o40i : (o : Int) < 40 := by omega
            have HB5 := Lib.hid hb5
            clear hw5 hG hb5 hsz hS0 hGG
            refine ⟨_, he, hS2, ?_⟩
            refine runH 3 (.pointer (some ⟨G, o, none⟩)) (some 58) rfl (by kernel_rfl) (by kernel_rfl) rfl (by go_simp) hS2 ?_
            refine runH 4 (.string (opName o)) (some 59) rfl (by kernel_rfl) (by kernel_rfl) rfl (by go_simp) hS2 ?_
            refine runH 5 (.bool true) (some 60) rfl (by kernel_rfl) (by kernel_rfl) rfl (by go_simp) hS2 ?_
            refine wpAnyH_done (by kernel_rfl) ?_ _
            go_simp
            have HD5 := Lib.hid (HD4.out.keep HB5.out)
            have HC5 := Lib.hid (HC4.out.trans (Chg.of_below (dwS gy gb) HB5.out) (fun _ _ h => h))
            have HL5 := Lib.hid hS2
            clear C6 hS2 he HD4 HC4 HL4 HB5
            have c16 := HD5.out.at_
            rw [← HVA.out] at c16
            have fz16 : w5.frozen? ⟨gy, 16, none⟩ = false := HD5.out.rw.frozen _
            obtain ⟨nx, hnx⟩ : ∃ k, k = nextI s1 := ⟨_, rfl⟩
            have fn2 : (va + 4) % 4294967296 = nx := by rw [hnx, HVA.out]; rfl
            have rn := nextI_le s1
            rw [← hnx] at rn
            have HNX := Lib.hid hnx
            clear hnx
            go_upto_region 14 with fail
            have hd6 : DW (w5.setCell ⟨gy, 16, none⟩ (.int .u32 nx)) gy gb N m A cap (setAt s1 nx) := HD5.out.setAt nx rn.1 rn.2
            have hc6 : Chg (dwS gy gb) w (w5.setCell ⟨gy, 16, none⟩ (.int .u32 nx)) := HC5.out.trans (Chg.of_one (S := dwS gy gb) (one_setCell w5 gy 16 _) (.inl rfl)) (fun _ _ h => h)
            have hl6 : (w5.setCell ⟨gy, 16, none⟩ (.int .u32 nx)).heap[NI]? = _ := (one_setCell w5 gy 16 _).blk HL5.out (fun e => ne_ty HL5.out (rowIs_arr HD5.out.rw) (by decide) (by injection e with e; exact e.symm))
            generalize w5.setCell ⟨gy, 16, none⟩ (.int .u32 nx) = w6 at *
            have hc := rowcell hl6
            have HD6 := Lib.hid hd6
            have HC6 := Lib.hid hc6
            clear hd6 hc6 hl6 c16 fz16 HD5 HC5 HL5
            go_quiet (fail)
            go_wp2_with fail
            refine bodyPost_ret (v := .tuple #[.int .i64 1, .int .i64 y, .int .i64 (d + 1)]) (by simp [results, Try.results13, Act.put]) rfl ?_
            unfold RunQ
            rw [HRUN.out, HJ.out, run_ask HST.out, ← HYY.out, ← HNX.out]
            exact ⟨rfl, HD6.out.keep (bdrewN (Below.refl _ _) _), HC6.out.trans (Chg.of_below (dwS gy gb) (bdrewN (Below.refl _ _) _)) (fun _ _ h => h)⟩
          · have fnm : ¬ (opName o).toList = [115, 121, 115] := by rw [ByteArray.toList_eq]; intro h; have h2 := opName_sys o ho40 h39; rw [h] at h2; exact absurd h2 (by decide)
            have H39 := Lib.hid h39
            clear h39
            go_upto_region 12 with fail
            have hsg := HL4.out
            have hS0 : (fun w' : World => w'.heap[NI]? = some (.cells #[.int .u8 o, .int .u8 x, .int .u8 y, .int .u8 z] 24 (0, 0))) (World.drew w4) := hsg
            clear hsg
            refine wp_region_held (S := fun w' : World => w'.heap[NI]? = some (.cells #[.int .u8 o, .int .u8 x, .int .u8 y, .int .u8 z] 24 (0, 0))) (by kernel_rfl) ?_
            change wpAnyH _ _ _ _ _ _ _ _ (World.drew _)
            refine takeH 1 (.pointer (some ⟨NI, 0, none⟩)) (some 56) rfl rfl (by kernel_rfl) (by kernel_rfl) (by kernel_rfl) (fun _ _ _ h => h) (.inl ⟨by kernel_rfl, fun w _ => by go_simp⟩) hS0 ?_
            refine takeH 2 (.int .u8 o) (some 57) rfl rfl (by kernel_rfl) (by kernel_rfl) (by kernel_rfl) (fun _ _ _ h => h) (.inl ⟨by kernel_rfl, fun w hw => by have hc := rowcell hw; go_simp⟩) hS0 ?_
            refine callH 0 rfl (by kernel_rfl) (by kernel_rfl) (some 55) rfl 22 #[] ?hrun ((refNames_any _).mono ?_)
            case hrun => go_simp
            rintro e w5 ⟨he, hw5⟩
            have hG : w5.heap[w4.heap.size]? = some (.cells nameVals 9) := by rw [← hw5]; exact heap_alloc_last w4.drew _
            have hb5 : Below w4.heap.size w4 w5 := by rw [← hw5]; exact bnext (drewb w4) (bnew w4.drew _)
            have hS2 := bkeep hb5 HL4.out
            have hsz : w4.drew.heap.size = w4.heap.size := rfl
            rw [hsz] at he
            obtain ⟨G, hGG⟩ : ∃ G, G = w4.heap.size := ⟨_, rfl⟩
            rw [← hGG] at he hG
            have C6 : w5.cell? ⟨G, o, none⟩ = some (.string (opName o)) := by rw [rowcell hG]; exact nameVals_at o ho40
            have o40i : (o : Int) < 40 := by omega
            have HB5 := Lib.hid hb5
            clear hw5 hG hb5 hsz hS0 hGG
            refine ⟨_, he, hS2, ?_⟩
            refine runH 3 (.pointer (some ⟨G, o, none⟩)) (some 58) rfl (by kernel_rfl) (by kernel_rfl) rfl (by go_simp) hS2 ?_
            refine runH 4 (.string (opName o)) (some 59) rfl (by kernel_rfl) (by kernel_rfl) rfl (by go_simp) hS2 ?_
            refine runH 5 (.bool false) (some 60) rfl (by kernel_rfl) (by kernel_rfl) rfl (by go_simp) hS2 ?_
            refine wpAnyH_done (by kernel_rfl) ?_ _
            go_simp
            have HD5 := Lib.hid (HD4.out.keep HB5.out)
            have HC5 := Lib.hid (HC4.out.trans (Chg.of_below (dwS gy gb) HB5.out) (fun _ _ h => h))
            have HL5 := Lib.hid hS2
            clear C6 hS2 he HD4 HC4 HL4 HB5
            have hc := rowcell HL5.out
            go_wp2_with fail
            obtain ⟨sr, hsr⟩ : ∃ k, k = (stepI m s1 o x y z).2 := ⟨_, rfl⟩
            have hse := stepI_err m s1 o x y z
            rw [← hsr] at hse
            have hsp := HSTEP.out w5 s1 o x y z HD5.out (by have h := HCK0.out; rw [HOO.out, HXX.out, HYY.out, HZZ.out]; exact h) H39.out uy uz
            unfold RefP at hsp
            rw [← hsr] at hsp
            have HSP := Lib.hid hsp
            have HSR := Lib.hid hsr
            have HSE := Lib.hid hse
            clear hsp hsr hse hc
            refine HSP.out.mono ?_
            rintro e w6 ⟨rfl, hd6, hc6⟩
            have HD6 := Lib.hid hd6
            have HC6 := Lib.hid (HC5.out.trans hc6 (fun _ _ h => h))
            clear hd6 hc6 HSP HD5 HC5
            by_cases hs0 : sr = 0
            · have q5 : (sr != 0) = false := by rw [bne_eq_false_iff_eq]; exact hs0
              have HST := Lib.hid (stI_go HIN.out HCK0.out (by rw [← HOO.out]; exact H39.out) (by rw [← HOO.out, ← HXX.out, ← HYY.out, ← HZZ.out, ← HSR.out]; exact hs0))
              clear hs0
              go_wp2_with fail
              go_roundw
              case rel =>
                refine ⟨d + 1, _, by omega, by go_num, HD6.out, HC6.out, ?_⟩
                rw [HRUN.out, HJ.out, run_go HST.out, ← HOO.out, ← HXX.out, ← HYY.out, ← HZZ.out]
                rw [show b - (d + 1) = b - d - 1 by omega]
              case measure => (simp [intOf]; try omega)
            · have q5 : (sr != 0) = true := by rw [bne_iff_ne]; exact hs0
              have HST := Lib.hid (stI_er HIN.out HCK0.out (by rw [← HOO.out]; exact H39.out) (by rw [← HOO.out, ← HXX.out, ← HYY.out, ← HZZ.out, ← HSR.out]; exact hs0))
              have hse : (stepI m s1 o x y z).1 = s1 ∧ 0 < sr := by
                rcases HSE.out with h | ⟨h1, _, h3⟩
                · exact absurd h hs0
                · exact ⟨h3, h1⟩
              have hsn : ((sr.toNat : Nat) : Int) = sr := Int.toNat_of_nonneg (by omega)
              clear hs0
              go_wp2_with fail
              refine bodyPost_ret (v := .tuple #[.int .i64 2, .int .i64 sr, .int .i64 d]) (by simp [results, Try.results13, Act.put]) rfl ?_
              unfold RunQ
              rw [HRUN.out, HJ.out, run_flt HST.out, ← HOO.out, ← HXX.out, ← HYY.out, ← HZZ.out, ← HSR.out]
              exact ⟨by show _ = Ending.returned (.tuple #[_, .int .i64 ((sr.toNat : Nat) : Int), _]); rw [hsn]; rfl, (by have h := HD6.out; rw [hse.1] at h; exact h), HC6.out⟩
        · have q3 : (ck != 0) = true := by rw [bne_iff_ne]; exact hck0
          have HST := Lib.hid (stI_ck HIN.out (by rw [← HCK.out]; exact hck0))
          have hsn : ((ck.toNat : Nat) : Int) = ck := Int.toNat_of_nonneg (by omega)
          clear hck0
          go_wp2_with fail
          refine bodyPost_ret (v := .tuple #[.int .i64 2, .int .i64 ck, .int .i64 d]) (by simp [results, Try.results13, Act.put]) rfl ?_
          unfold RunQ
          rw [HRUN.out, HJ.out, run_flt HST.out, ← HCK.out]
          exact ⟨by show _ = Ending.returned (.tuple #[_, .int .i64 ((ck.toNat : Nat) : Int), _]); rw [hsn]; rfl, HD4.out, HC4.out⟩
      · have HST := Lib.hid (stI_no hin)
        have HLD := Lib.hid (fun (w : World) (hd : DW w gy gb N m A cap s1) => show Calls Try.prog 27 #[.slice A Lm cap, .int .u32 va, .int .i64 4] w fun e w' => e = .returned (.tuple #[.int .u32 0, .int .i64 20]) ∧ w = w' by have h := refLoad_no (w := w) A Lm cap pc 4 (by rw [HLM.out]; exact hd.bw.l4) (by have := HPV.out; omega) (by omega) (by rw [HPC.out, HLM.out]; omega); rw [HPV.out] at h; exact h)
        clear hin
        go_upto_region 5 with fail
        obtain ⟨w0, hw0⟩ : ∃ x, x = wr := ⟨_, rfl⟩
        rw [← hw0] at HD HCH ⊢
        clear hw0
        have hS0 : (fun w' : World => w' = World.drew w0) (World.drew w0) := rfl
        refine wp_region_held (S := fun w' => w' = World.drew w0) (by kernel_rfl) ?_
        change wpAnyH _ _ _ _ _ _ _ _ (World.drew _)
        have cmv : (World.drew w0).cell? ⟨gy, 17, none⟩ = some (.slice A Lm cap) := by have h := HD.out.mv; rw [← HLM.out] at h; exact h
        have cat : (World.drew w0).cell? ⟨gy, 16, none⟩ = some (.int .u32 va) := by have h := HD.out.at_; rw [← HVA.out] at h; exact h
        refine takeH 0 (.pointer (some ⟨gy, 0, none⟩)) (some 19) rfl rfl (by kernel_rfl) (by kernel_rfl) (by kernel_rfl) (fun _ _ _ h => h) (.inl ⟨by kernel_rfl, fun w _ => by go_simp⟩) hS0 ?_
        refine takeH 1 (.pointer (some ⟨gy, 0, none⟩)) (some 20) rfl rfl (by kernel_rfl) (by kernel_rfl) (by kernel_rfl) (fun _ _ _ h => h) (.inl ⟨by kernel_rfl, fun w _ => by go_simp⟩) hS0 ?_
        refine takeH 2 (.pointer (some ⟨gy, 17, none⟩)) (some 21) rfl rfl (by kernel_rfl) (by kernel_rfl) (by kernel_rfl) (fun _ _ _ h => h) (.inl ⟨by kernel_rfl, fun w _ => by go_simp⟩) hS0 ?_
        refine takeH 3 (.slice A Lm cap) (some 22) rfl rfl (by kernel_rfl) (by kernel_rfl) (by kernel_rfl) (fun _ _ _ h => h) (.inl ⟨by kernel_rfl, fun w hw => by subst hw; have hc := cmv; go_simp⟩) hS0 ?_
        refine takeH 4 (.pointer (some ⟨gy, 0, none⟩)) (some 23) rfl rfl (by kernel_rfl) (by kernel_rfl) (by kernel_rfl) (fun _ _ _ h => h) (.inl ⟨by kernel_rfl, fun w _ => by go_simp⟩) hS0 ?_
        refine takeH 5 (.pointer (some ⟨gy, 0, none⟩)) (some 24) rfl rfl (by kernel_rfl) (by kernel_rfl) (by kernel_rfl) (fun _ _ _ h => h) (.inl ⟨by kernel_rfl, fun w _ => by go_simp⟩) hS0 ?_
        refine takeH 6 (.pointer (some ⟨gy, 16, none⟩)) (some 25) rfl rfl (by kernel_rfl) (by kernel_rfl) (by kernel_rfl) (fun _ _ _ h => h) (.inl ⟨by kernel_rfl, fun w _ => by go_simp⟩) hS0 ?_
        refine takeH 7 (.int .u32 va) (some 26) rfl rfl (by kernel_rfl) (by kernel_rfl) (by kernel_rfl) (fun _ _ _ h => h) (.inl ⟨by kernel_rfl, fun w hw => by subst hw; have hc := cat; go_simp⟩) hS0 ?_
        go_simp
        refine callH 8 rfl (by kernel_rfl) (by kernel_rfl) (some 27) rfl 27 #[.slice A Lm cap, .int .u32 va, .int .i64 4] ?hrun ((HLD.out (World.drew w0) (HD.out.keep (drewb w0))).mono ?_)
        case hrun => go_simp
        rintro e wx ⟨he, hwx⟩
        subst hwx
        refine ⟨_, he, rfl, ?_⟩
        refine takeH 9 (.tuple #[.int .u32 0, .int .i64 20]) (some 18) rfl rfl (by kernel_rfl) (by kernel_rfl) (by kernel_rfl) (fun _ _ _ h => h) (.inl ⟨by kernel_rfl, fun w _ => by go_simp⟩) hS0 ?_
        refine takeH 10 (.int .u32 0) (some 28) rfl rfl (by kernel_rfl) (by kernel_rfl) (by kernel_rfl) (fun _ _ _ h => h) (.inl ⟨by kernel_rfl, fun w _ => by go_simp⟩) hS0 ?_
        refine takeH 11 (.int .i64 20) (some 29) rfl rfl (by kernel_rfl) (by kernel_rfl) (by kernel_rfl) (fun _ _ _ h => h) (.inl ⟨by kernel_rfl, fun w _ => by go_simp⟩) hS0 ?_
        refine takeH 12 (.int .u32 0) (some 8) rfl rfl (by kernel_rfl) (by kernel_rfl) (by kernel_rfl) (fun _ _ _ h => h) (.inl ⟨by kernel_rfl, fun w _ => by go_simp⟩) hS0 ?_
        refine takeH 13 (.int .i64 20) (some 9) rfl rfl (by kernel_rfl) (by kernel_rfl) (by kernel_rfl) (fun _ _ _ h => h) (.inl ⟨by kernel_rfl, fun w _ => by go_simp⟩) hS0 ?_
        refine wpAnyH_done (by kernel_rfl) ?_ _
        go_simp
        have hb2 := drewb w0
        obtain ⟨w2, hw2⟩ : ∃ x, x = World.drew w0 := ⟨_, rfl⟩
        rw [← hw2] at hb2 ⊢
        have HD2 := Lib.hid (HD.out.keep hb2)
        have HC2 := Lib.hid (HCH.out.trans (Chg.of_below (dwS gy gb) hb2) (fun _ _ h => h))
        clear cmv cat hS0 he hw2 hb2 HD HCH
        go_wp2_with fail
        refine bodyPost_ret (v := .tuple #[.int .i64 2, .int .i64 20, .int .i64 d]) (by simp [results, Try.results13, Act.put]) rfl ?_
        unfold RunQ
        rw [HRUN.out, HJ.out, run_flt HST.out]
        exact ⟨rfl, HD2.out, HC2.out⟩
    · obtain rfl : d = b := by omega
      go_wp2_with fail
      refine bodyPost_ret (v := .tuple #[.int .i64 0, .int .i64 0, .int .i64 d]) (by simp [results, Try.results13, Act.put]) rfl ?_
      unfold RunQ
      rw [HRUN.out, Nat.sub_self]
      exact ⟨rfl, HD.out, HCH.out⟩
end Go.Proofs.Ytapcbfeifeobhaa

set_option linter.unusedVariables false
set_option linter.unusedSimpArgs false
namespace Go.Proofs.Ytapcbfeifeobhaa
open Go.RowKit
theorem refStep_all (gy gb N m : Nat) (A : Option Addr) (cap : Nat) : StepC gy gb N m A cap := fun w s o x y z h hck h39 hy hz => by
  obtain ⟨h1, h2, h3, h4⟩ := chk hck
  rcases (show o = 1 ∨ o = 2 ∨ o = 3 ∨ o = 4 ∨ o = 5 ∨ o = 6 ∨ o = 7 ∨ o = 8 ∨ o = 9 ∨ o = 10 ∨ o = 11 ∨ o = 12 ∨ o = 13 ∨ o = 14 ∨ o = 15 ∨ o = 16 ∨ o = 17 ∨ o = 18 ∨ o = 19 ∨ o = 20 ∨ o = 21 ∨ o = 22 ∨ o = 23 ∨ o = 24 ∨ o = 25 ∨ o = 26 ∨ o = 27 ∨ o = 28 ∨ o = 29 ∨ o = 30 ∨ o = 31 ∨ o = 32 ∨ o = 33 ∨ o = 34 ∨ o = 35 ∨ o = 36 ∨ o = 37 ∨ o = 38 by omega) with rfl | rfl | rfl | rfl | rfl | rfl | rfl | rfl | rfl | rfl | rfl | rfl | rfl | rfl | rfl | rfl | rfl | rfl | rfl | rfl | rfl | rfl | rfl | rfl | rfl | rfl | rfl | rfl | rfl | rfl | rfl | rfl | rfl | rfl | rfl | rfl | rfl | rfl
  · exact refStep_1 h x y z h3 hy hz
  · exact refStep_2 h x y z h3 hy hz
  · exact refStep_3 h x y z h3 hy hz
  · exact refStep_4 h x y z h3 hy hz
  · exact refStep_5 h x y z h3 hy hz
  · exact refStep_6 h x y z h3 hy hz
  · exact refStep_7 h x y z h3 hy hz
  · by_cases hc : s.R (z % 16) = 0
    · exact refStep_8a h x y z h3 hy hz hc
    · exact refStep_8b h x y z h3 hy hz hc
  · by_cases hc : s.R (z % 16) = 0
    · exact refStep_9a h x y z h3 hy hz hc
    · exact refStep_9b h x y z h3 hy hz hc
  · by_cases hc : s.R (z % 16) = 0
    · exact refStep_10a h x y z h3 hy hz hc
    · exact refStep_10b h x y z h3 hy hz hc
  · exact refStep_11 h x y z h3 hy hz
  · exact refStep_12 h x y z h3 hy hz
  · exact refStep_13 h x y z h3 hy hz
  · exact refStep_14 h x y z h3 hy hz
  · exact refStep_15 h x y z h3 hy hz
  · exact refStep_16 h x y z h3 hy hz
  · exact refStep_17 h x y z h3 hy hz
  · by_cases hc : wrap32 (s.R (y % 16)) < wrap32 (s.R (z % 16))
    · exact refStep_18a h x y z h3 hy hz hc
    · exact refStep_18b h x y z h3 hy hz hc
  · by_cases hc : s.R (y % 16) < s.R (z % 16)
    · exact refStep_19a h x y z h3 hy hz hc
    · exact refStep_19b h x y z h3 hy hz hc
  · by_cases hc : s.R (y % 16) = s.R (z % 16)
    · exact refStep_20a h x y z h3 hy hz hc
    · exact refStep_20b h x y z h3 hy hz hc
  · exact refStep_21 h x y z h3 hy hz
  · by_cases hc : ((s.R (y % 16) + near z % 4294967296) % 4294967296).toNat + 1 ≤ 64 * m
    · exact refStep_22a h x y z h3 hy hz hc
    · exact refStep_22b h x y z h3 hy hz hc
  · by_cases hc : ((s.R (y % 16) + near z % 4294967296) % 4294967296).toNat + 1 ≤ 64 * m
    · exact refStep_23a h x y z h3 hy hz hc
    · exact refStep_23b h x y z h3 hy hz hc
  · by_cases hc : ((s.R (y % 16) + near z % 4294967296) % 4294967296).toNat + 2 ≤ 64 * m
    · exact refStep_24a h x y z h3 hy hz hc
    · exact refStep_24b h x y z h3 hy hz hc
  · by_cases hc : ((s.R (y % 16) + near z % 4294967296) % 4294967296).toNat + 2 ≤ 64 * m
    · exact refStep_25a h x y z h3 hy hz hc
    · exact refStep_25b h x y z h3 hy hz hc
  · by_cases hc : ((s.R (y % 16) + near z % 4294967296) % 4294967296).toNat + 4 ≤ 64 * m
    · exact refStep_26a h x y z h3 hy hz hc
    · exact refStep_26b h x y z h3 hy hz hc
  · by_cases hc : ((s.R (y % 16) + near z % 4294967296) % 4294967296).toNat + 1 ≤ 64 * m
    · exact refStep_27a h x y z h3 hy hz hc
    · exact refStep_27b h x y z h3 hy hz hc
  · by_cases hc : ((s.R (y % 16) + near z % 4294967296) % 4294967296).toNat + 2 ≤ 64 * m
    · exact refStep_28a h x y z h3 hy hz hc
    · exact refStep_28b h x y z h3 hy hz hc
  · by_cases hc : ((s.R (y % 16) + near z % 4294967296) % 4294967296).toNat + 4 ≤ 64 * m
    · exact refStep_29a h x y z h3 hy hz hc
    · exact refStep_29b h x y z h3 hy hz hc
  · exact refStep_30 h x y z h3 hy hz
  · by_cases hc : s.R (x % 16) = 0
    · exact refStep_31a h x y z h3 hy hz hc
    · exact refStep_31b h x y z h3 hy hz hc
  · by_cases hc : s.R (x % 16) = 0
    · exact refStep_32a h x y z h3 hy hz hc
    · exact refStep_32b h x y z h3 hy hz hc
  · exact refStep_33 h x y z h3 hy hz
  · exact refStep_34 h x y z h3 hy hz
  · exact refStep_35 h x y z h3 hy hz
  · rcases h4 rfl with hc | hc
    · exact refStep_36a h x y z h3 hy hz hc
    · exact refStep_36b h x y z h3 hy hz hc
  · exact refStep_37 h x y z h3 hy hz
  · exact refStep_38 h x y z h3 hy hz
theorem refRun_in {w : World} {gy gb N m cap : Nat} {A : Option Addr} {s : Mach} (h : DW w gy gb N m A cap s) (b : Nat) (hb : b ≤ 65536) :
    Calls Try.prog 13 #[.pointer (some ⟨gy, 0, none⟩), .int .i64 b] w (RunQ gy gb N m A cap s b w) := refRun_c (refStep_all gy gb N m A cap) h b hb
end Go.Proofs.Ytapcbfeifeobhaa

set_option linter.unusedVariables false
set_option linter.unusedSimpArgs false
namespace Go.Proofs.Ytapcbfeifeobhaa
open Go.RowKit
theorem eqRegC {R : Nat → Int} (hr : ∀ i, i < 16 → 0 ≤ R i ∧ R i ≤ 4294967295) (w : World) : (Op.equalIn 10000 34 (.agg (rowArr 16 (regC R))) (.agg (rowArr 16 (regC R)))).run Try.prog w = .ok true w := by
  have e : rowArr 16 (regC R) = (((List.range 16).map fun i => R i).map (Value.int .u32)).toArray := by
    apply Array.ext'
    simp [rowArr, regC]
  have hw : ∀ z ∈ (List.range 16).map fun i => R i, (Lit.int .u32 z).wf = true := fun z hz => by
    obtain ⟨i, hi, rfl⟩ := List.mem_map.1 hz
    exact u32_wf (hr i (List.mem_range.1 hi))
  rw [e, equal_ints (P := Try.prog) (w := w) Try.underlying34 (by kernel_rfl) (by kernel_rfl) (by kernel_rfl) (by simp) (by simp) hw hw]
  simp
theorem stV_reg (s : Mach) (i : Nat) (h : i < 16) : stV s i = regC s.R i := by unfold stV regC; rw [if_pos h]
theorem cpV_reg (s : Mach) (mv : Value) (i : Nat) (h : i < 16) : cpV s mv i = regC s.R i := by unfold cpV regC; rw [if_pos h]
theorem MemW.readH {w : World} {g gm gs base m : Nat} {a : Option Addr} {us : Nat → Nat} {v : Value} {F : Nat × Nat → Option (Nat → Nat)} {mem : Nat → Nat} (h : MemW w g gm gs base m a us v F mem) (k : Nat) (hk : k ≤ 64 * m) :
    Calls Try.prog 16 #[.pointer (some ⟨gs, 0, none⟩), .int .u32 0, .int .i64 k] w fun e w' => ∃ gO, e = .returned (.tuple #[.slice (some ⟨gO, 0, none⟩) k k, .int .i64 0]) ∧ w.heap.size ≤ gO ∧ SI w' .u8 (.slice (some ⟨gO, 0, none⟩) k k) (memL mem k) ∧ Below w.heap.size w w' := by
  have hl := h.ok.len
  rw [morePs_len] at hl
  have hr := spaceRead_in h.tp h.sp h.ok 0 k (by omega) (by rw [morePs_len]; omega)
  refine hr.mono ?_
  rintro e w' ⟨gO, rfl, hgO, hrow, hb⟩
  refine ⟨gO, rfl, hgO, ?_, hb⟩
  have e1 : memL mem k = memL (fun j => spMem F (morePs 0 0 m) (0 + j)) k := memL_congr fun i hi => by
    show mem i = spMem F (morePs 0 0 m) (0 + i)
    rw [Nat.zero_add, h.mm i (by omega)]
  rw [e1]
  refine memL_row hrow (fun j hj => ?_) (by omega)
  show spMem F (morePs 0 0 m) (0 + j) < 256
  rw [Nat.zero_add, ← h.mm j (by omega)]
  exact h.m0 j (by omega)
set_option maxRecDepth 100000 in
set_option maxHeartbeats 16000000 in
theorem same_in {w : World} {g gm gs base m gx gy gb N cap : Nat} {a A : Option Addr} {us : Nat → Nat} {v : Value} {F : Nat × Nat → Option (Nat → Nat)} {s : Mach} (h : MW w g gm gs base m gx a us v F s) (d : DW w gy gb N m A cap s)
    (hs : SI w .u8 (.slice A (64 * m) cap) (memL s.mem (64 * m))) :
    Calls Try.prog 14 #[.pointer (some ⟨gx, 0, none⟩), .pointer (some ⟨gs, 0, none⟩), .pointer (some ⟨gy, 0, none⟩)] w fun e w' => e = .returned (.bool true) ∧ Below w.heap.size w w' := by
  have HB := Lib.hid (Below.refl w.heap.size w)
  have HMW := Lib.hid h
  have HD := Lib.hid d
  have HS := Lib.hid hs
  have hm32 := h.m32
  clear h d hs
  obtain ⟨K, hK⟩ : ∃ K, K = 64 * m := ⟨_, rfl⟩
  rw [← hK] at HS
  have HK := Lib.hid (Nat.le_of_eq hK)
  have HKE := Lib.hid hK
  clear hK
  obtain ⟨X, hX⟩ : ∃ X, X = rowArr 16 (regC s.R) := ⟨_, rfl⟩
  have HX := Lib.hid hX
  have HXS := Lib.hid (show (Try.prog.info? 34).map (·.size) = some X.size by rw [hX]; exact regs_size s.R)
  clear hX
  go_enter Try.func14, Try.ntmps14
  have hsz := spaceSize_in HMW.out.sp (by rw [HMW.out.len]; omega)
  rw [morePs_len, ← HKE.out] at hsz
  go_wp2_with fail
  refine hsz.mono ?_; rintro e wx ⟨rfl, hwx⟩
  subst hwx
  clear hsz
  go_wp2_with fail
  refine (HMW.out.memW.readH K HK.out).mono ?_; rintro e wt ⟨gO, rfl, _, hso, hbt⟩
  have HB2 := Lib.hid (HB.out.trans (hbt.mono HB.out.size))
  have HSO := Lib.hid hso
  have hgx : wt.rowIs gx 36 17 (stV s) := HMW.out.rw.of_block (hbt.block _ HMW.out.rw.lt)
  have HD2 := Lib.hid (HD.out.keep hbt)
  have HS2 := Lib.hid (HS.out.keep hbt)
  have HWF := Lib.hid HMW.out.wf
  clear HB HD HS HMW hso hbt HK
  have hsx : ∀ w', Below wt.heap.size wt w' → w'.rowIs gx 36 17 (stV s) := fun w' h => hgx.of_block (h.block _ hgx.lt)
  have HSX := Lib.hid hsx
  clear hsx hgx
  have hsy : ∀ w', Below wt.heap.size wt w' → DW w' gy gb N m A cap s := fun w' h => HD2.out.keep h
  have HSY := Lib.hid hsy
  clear hsy HD2
  have HEQ := Lib.hid (fun w => eqRegC HWF.out.r0 w)
  obtain ⟨tt, htt⟩ : ∃ t, t = s.at_ := ⟨_, rfl⟩
  have hax : ∀ w', Below wt.heap.size wt w' → w'.cell? ⟨gx, 16, none⟩ = some (.int .u32 tt) := fun w' h => by rw [htt]; exact (HSX.out w' h).cell (i := 16) (by omega)
  have HAX := Lib.hid hax
  clear hax
  have hay : ∀ w', Below wt.heap.size wt w' → w'.cell? ⟨gy, 16, none⟩ = some (.int .u32 tt) := fun w' h => by rw [htt]; exact (HSY.out w' h).at_
  have HAY := Lib.hid hay
  clear hay htt
  have hmv : ∀ w', Below wt.heap.size wt w' → w'.cell? ⟨gy, 17, none⟩ = some (.slice A K cap) := fun w' h => by rw [HKE.out]; exact (HSY.out w' h).mv
  have HMV := Lib.hid hmv
  clear hmv
  obtain ⟨st, hst⟩ : ∃ st, st = strOfNums (memL s.mem K) := ⟨_, rfl⟩
  have hcx : ∀ w', Below wt.heap.size wt w' → (convert 32 9 (.slice (some ⟨gO, 0, none⟩) K K)).run Try.prog w' = .ok (.string st) w' := fun w' h => by rw [hst]; exact (HSO.out.keep h).toString (P := Try.prog) Try.underlying32 Try.underlying5 Try.underlying9
  have HCX := Lib.hid hcx
  clear hcx
  have hcy : ∀ w', Below wt.heap.size wt w' → (convert 38 9 (.slice A K cap)).run Try.prog w' = .ok (.string st) w' := fun w' h => by rw [hst]; have q := (HS2.out.keep h).toString (P := Try.prog) Try.underlying38 Try.underlying5 Try.underlying9; exact q
  have HCY := Lib.hid hcy
  clear hcy
  clear hst HKE HWF
  go_upto_region 2 with fail
  have hS0 : (fun w' : World => Below wt.heap.size wt w') (World.drew wt) := drewb wt
  refine wp_region_held (S := fun w' => Below wt.heap.size wt w') (by kernel_rfl) ?_
  change wpAnyH _ _ _ _ _ _ _ _ (World.drew _)
  refine takeH 0 (.int .i64 0) (some 16) rfl rfl (by kernel_rfl) (by kernel_rfl) (by kernel_rfl) (fun _ _ _ h => h) (.inl ⟨by kernel_rfl, fun w _ => by go_simp⟩) hS0 ?_
  refine takeH 1 (.bool true) (some 17) rfl rfl (by kernel_rfl) (by kernel_rfl) (by kernel_rfl) (fun _ _ _ h => h) (.inl ⟨by kernel_rfl, fun w _ => by go_simp⟩) hS0 ?_
  refine takeH 2 (.bool true) (some 18) rfl rfl (by kernel_rfl) (by kernel_rfl) (by kernel_rfl) (fun _ _ _ h => h) (.inl ⟨by kernel_rfl, fun w _ => by go_simp⟩) hS0 ?_
  go_simp
  refine takeH 3 (.pointer (some ⟨gx, 0, none⟩)) (some 19) rfl rfl (by kernel_rfl) (by kernel_rfl) (by kernel_rfl) (fun _ _ _ h => h) (.inl ⟨by kernel_rfl, fun w _ => by go_simp⟩) hS0 ?_
  refine takeH 4 (.pointer (some ⟨gx, 0, none⟩)) (some 20) rfl rfl (by kernel_rfl) (by kernel_rfl) (by kernel_rfl) (fun _ _ _ h => h) (.inl ⟨by kernel_rfl, fun w _ => by go_simp⟩) hS0 ?_
  refine takeH 5 (.pointer (some ⟨gx, 0, none⟩)) (some 21) rfl rfl (by kernel_rfl) (by kernel_rfl) (by kernel_rfl) (fun _ _ _ h => h) (.inl ⟨by kernel_rfl, fun w _ => by go_simp⟩) hS0 ?_
  go_simp
  refine takeH 6 (.agg X) (some 22) rfl rfl (by kernel_rfl) (by kernel_rfl) (by kernel_rfl) (fun _ _ _ h => h) (yi_piece (by kernel_rfl) 34 (.tmp 21) rfl gx 0 (by go_simp) X _ (fun w' hw j v hj => by rw [HX.out] at hj; obtain ⟨h1, rfl⟩ := rowArr_get _ _ _ _ hj; rw [Nat.zero_add]; rw [(HSX.out w' hw).cell (by omega), stV_reg s j h1]) Try.underlying34 rfl HXS.out) hS0 ?_
  refine takeH 7 (.pointer (some ⟨gy, 0, none⟩)) (some 23) rfl rfl (by kernel_rfl) (by kernel_rfl) (by kernel_rfl) (fun _ _ _ h => h) (.inl ⟨by kernel_rfl, fun w _ => by go_simp⟩) hS0 ?_
  refine takeH 8 (.pointer (some ⟨gy, 0, none⟩)) (some 24) rfl rfl (by kernel_rfl) (by kernel_rfl) (by kernel_rfl) (fun _ _ _ h => h) (.inl ⟨by kernel_rfl, fun w _ => by go_simp⟩) hS0 ?_
  go_simp
  refine takeH 9 (.pointer (some ⟨gy, 0, none⟩)) (some 25) rfl rfl (by kernel_rfl) (by kernel_rfl) (by kernel_rfl) (fun _ _ _ h => h) (.inl ⟨by kernel_rfl, fun w _ => by go_simp⟩) hS0 ?_
  refine takeH 10 (.agg X) (some 26) rfl rfl (by kernel_rfl) (by kernel_rfl) (by kernel_rfl) (fun _ _ _ h => h) (yi_piece (by kernel_rfl) 34 (.tmp 25) rfl gy 0 (by go_simp) X _ (fun w' hw j v hj => by rw [HX.out] at hj; obtain ⟨h1, rfl⟩ := rowArr_get _ _ _ _ hj; rw [Nat.zero_add]; rw [(HSY.out w' hw).rw.cell (by omega), cpV_reg s _ j h1]) Try.underlying34 rfl HXS.out) hS0 ?_
  refine takeH 11 (.bool true) (some 27) rfl rfl (by kernel_rfl) (by kernel_rfl) (by kernel_rfl) (fun _ _ _ h => h) (.inl ⟨by kernel_rfl, fun w _ => exec_eql (xs := X) (ys := X) rfl (by go_simp) (by go_simp) (by kernel_rfl) (by rw [HX.out]; exact HEQ.out w)⟩) hS0 ?_
  go_simp
  refine takeH 12 (.bool true) (some 28) rfl rfl (by kernel_rfl) (by kernel_rfl) (by kernel_rfl) (fun _ _ _ h => h) (.inl ⟨by kernel_rfl, fun w _ => by go_simp⟩) hS0 ?_
  refine takeH 13 (.bool true) (some 29) rfl rfl (by kernel_rfl) (by kernel_rfl) (by kernel_rfl) (fun _ _ _ h => h) (.inl ⟨by kernel_rfl, fun w _ => by go_simp⟩) hS0 ?_
  refine takeH 14 (.pointer (some ⟨gx, 0, none⟩)) (some 30) rfl rfl (by kernel_rfl) (by kernel_rfl) (by kernel_rfl) (fun _ _ _ h => h) (.inl ⟨by kernel_rfl, fun w _ => by go_simp⟩) hS0 ?_
  go_simp
  refine takeH 15 (.pointer (some ⟨gx, 0, none⟩)) (some 31) rfl rfl (by kernel_rfl) (by kernel_rfl) (by kernel_rfl) (fun _ _ _ h => h) (.inl ⟨by kernel_rfl, fun w _ => by go_simp⟩) hS0 ?_
  refine takeH 16 (.pointer (some ⟨gx, 16, none⟩)) (some 32) rfl rfl (by kernel_rfl) (by kernel_rfl) (by kernel_rfl) (fun _ _ _ h => h) (.inl ⟨by kernel_rfl, fun w _ => by go_simp⟩) hS0 ?_
  refine takeH 17 (.int .u32 tt) (some 33) rfl rfl (by kernel_rfl) (by kernel_rfl) (by kernel_rfl) (fun _ _ _ h => h) (.inl ⟨by kernel_rfl, fun w hw => by have hc := HAX.out w hw; go_simp⟩) hS0 ?_
  go_simp
  refine takeH 18 (.pointer (some ⟨gy, 0, none⟩)) (some 34) rfl rfl (by kernel_rfl) (by kernel_rfl) (by kernel_rfl) (fun _ _ _ h => h) (.inl ⟨by kernel_rfl, fun w _ => by go_simp⟩) hS0 ?_
  refine takeH 19 (.pointer (some ⟨gy, 0, none⟩)) (some 35) rfl rfl (by kernel_rfl) (by kernel_rfl) (by kernel_rfl) (fun _ _ _ h => h) (.inl ⟨by kernel_rfl, fun w _ => by go_simp⟩) hS0 ?_
  refine takeH 20 (.pointer (some ⟨gy, 16, none⟩)) (some 36) rfl rfl (by kernel_rfl) (by kernel_rfl) (by kernel_rfl) (fun _ _ _ h => h) (.inl ⟨by kernel_rfl, fun w _ => by go_simp⟩) hS0 ?_
  go_simp
  refine takeH 21 (.int .u32 tt) (some 37) rfl rfl (by kernel_rfl) (by kernel_rfl) (by kernel_rfl) (fun _ _ _ h => h) (.inl ⟨by kernel_rfl, fun w hw => by have hc := HAY.out w hw; go_simp⟩) hS0 ?_
  refine takeH 22 (.bool true) (some 38) rfl rfl (by kernel_rfl) (by kernel_rfl) (by kernel_rfl) (fun _ _ _ h => h) (.inl ⟨by kernel_rfl, fun w _ => by go_simp⟩) hS0 ?_
  refine takeH 23 (.bool true) (some 39) rfl rfl (by kernel_rfl) (by kernel_rfl) (by kernel_rfl) (fun _ _ _ h => h) (.inl ⟨by kernel_rfl, fun w _ => by go_simp⟩) hS0 ?_
  go_simp
  refine takeH 24 (.bool true) (some 40) rfl rfl (by kernel_rfl) (by kernel_rfl) (by kernel_rfl) (fun _ _ _ h => h) (.inl ⟨by kernel_rfl, fun w _ => by go_simp⟩) hS0 ?_
  refine takeH 25 (.slice (some ⟨gO, 0, none⟩) K K) (some 41) rfl rfl (by kernel_rfl) (by kernel_rfl) (by kernel_rfl) (fun _ _ _ h => h) (.inl ⟨by kernel_rfl, fun w _ => by go_simp⟩) hS0 ?_
  refine takeH 26 (.string st) (some 42) rfl rfl (by kernel_rfl) (by kernel_rfl) (by kernel_rfl) (fun _ _ _ h => h) (yi_convert (by kernel_rfl) 32 9 (.tmp 41) rfl _ _ (by go_simp) (fun w hw => HCX.out w hw)) hS0 ?_
  go_simp
  refine takeH 27 (.pointer (some ⟨gy, 0, none⟩)) (some 43) rfl rfl (by kernel_rfl) (by kernel_rfl) (by kernel_rfl) (fun _ _ _ h => h) (.inl ⟨by kernel_rfl, fun w _ => by go_simp⟩) hS0 ?_
  refine takeH 28 (.pointer (some ⟨gy, 0, none⟩)) (some 44) rfl rfl (by kernel_rfl) (by kernel_rfl) (by kernel_rfl) (fun _ _ _ h => h) (.inl ⟨by kernel_rfl, fun w _ => by go_simp⟩) hS0 ?_
  refine takeH 29 (.pointer (some ⟨gy, 17, none⟩)) (some 45) rfl rfl (by kernel_rfl) (by kernel_rfl) (by kernel_rfl) (fun _ _ _ h => h) (.inl ⟨by kernel_rfl, fun w _ => by go_simp⟩) hS0 ?_
  go_simp
  refine takeH 30 (.slice A K cap) (some 46) rfl rfl (by kernel_rfl) (by kernel_rfl) (by kernel_rfl) (fun _ _ _ h => h) (.inl ⟨by kernel_rfl, fun w hw => by have hc := HMV.out w hw; go_simp⟩) hS0 ?_
  refine takeH 31 (.string st) (some 47) rfl rfl (by kernel_rfl) (by kernel_rfl) (by kernel_rfl) (fun _ _ _ h => h) (yi_convert (by kernel_rfl) 38 9 (.tmp 46) rfl _ _ (by go_simp) (fun w hw => HCY.out w hw)) hS0 ?_
  refine takeH 32 (.bool true) (some 48) rfl rfl (by kernel_rfl) (by kernel_rfl) (by kernel_rfl) (fun _ _ _ h => h) (.inl ⟨by kernel_rfl, fun w _ => by go_simp⟩) hS0 ?_
  go_simp
  refine takeH 33 (.bool true) (some 49) rfl rfl (by kernel_rfl) (by kernel_rfl) (by kernel_rfl) (fun _ _ _ h => h) (.inl ⟨by kernel_rfl, fun w _ => by go_simp⟩) hS0 ?_
  refine takeH 34 (.bool true) (some 6) rfl rfl (by kernel_rfl) (by kernel_rfl) (by kernel_rfl) (fun _ _ _ h => h) (.inl ⟨by kernel_rfl, fun w _ => by go_simp⟩) hS0 ?_
  refine wpAnyH_done (by kernel_rfl) ?_ _
  go_simp
  go_wp2_with fail
  go_ret
  exact ⟨rfl, HB2.out.trans ((drewb wt).mono HB2.out.size)⟩
end Go.Proofs.Ytapcbfeifeobhaa

set_option linter.unusedVariables false
set_option linter.unusedSimpArgs false
namespace Go.Proofs.Ytapcbfeifeobhaa
open Go.RowKit
open Go.Maps (Keyed)
section
variable {P : Program} (w : World)
theorem run_append_make0 (base : Nat) (t ti ty e : TypeId) (i : TypeInfo) (ht : P.underlying t = some (.slice e)) (hti : P.underlying ti = some (.int .i64)) (hi : P.info? e = some i) (hz : i.zero = some (.int .u8 0))
    (hsize : i.size = 1) (hby : i.bytes = 1) (v : Value) (n : Nat) (xs : List Value) (hown : w.ownsRow base e 1 v n xs) :
    (Builtin.append_ #[t, ti] ty #[v, .int .i64 0]).run P w = .ok v w := by
  have hw0 : IntKind.i64.wrap 0 = 0 := by decide
  rcases hown.2 with ⟨rfl, rfl⟩ | ⟨g, cap, cur, rfl, hbg, hg, hnc, hcm, hcs, htake⟩
  · simp [hw0, Builtin.append_, run_underlying ht, run_underlying hti, sizeOf, typeInfo, zeroValue, hi, hz, hsize, hby, asInt, asIntOf, Builtin.firstCells, storeCells, Builtin.zeroCells]
  · simp [hw0, Builtin.append_, run_underlying ht, run_underlying hti, sizeOf, typeInfo, zeroValue, hi, hz, hsize, hby, asInt, asIntOf, hnc, Builtin.firstCells, storeCells, Builtin.zeroCells]
/-- append of make of whatever length. -/
theorem run_append_makeN (base : Nat) (t ti ty e : TypeId) (i : TypeInfo) (ht : P.underlying t = some (.slice e)) (hti : P.underlying ti = some (.int .i64)) (hi : P.info? e = some i) (hz : i.zero = some (.int .u8 0))
    (hsize : i.size = 1) (hby : i.bytes = 1) (v : Value) (n : Nat) (xs : List Value) (hown : w.ownsRow base e 1 v n xs) (m : Nat)
    (h63 : n + m ≤ maxLen) (hbytes : (n + m) * 1 ≤ 140737488355328) (hbase : base ≤ w.heap.size) :
    ∃ v' w', (Builtin.append_ #[t, ti] ty #[v, .int .i64 m]).run P w = .ok v' w' ∧ w'.ownsRow base e 1 v' (n + m) (xs ++ nul8 m) ∧ w.grownBy w' v.ownBlock ∧ (v'.ownBlock = v.ownBlock ∨ v'.ownBlock = some w.heap.size) := by
  rcases Nat.eq_zero_or_pos m with rfl | hm
  · exact ⟨v, w, run_append_make0 w base t ti ty e i ht hti hi hz hsize hby v n xs hown, by simpa [nul8] using hown, World.grownBy.refl w _, .inl rfl⟩
  · exact run_append_make w base t ti ty e i ht hti hi hz hsize hby v n xs hown m hm h63 hbytes hbase
end
section
variable {P : Program} {ops : Array Oper} {Q : Exit → Act → World → Prop} {md : Region.Mode} {oi : Oper} {fuel : Nat} {listed : Array Bool} {a : Act} {w : World}
theorem appendMakeH {S : World → Prop} (i : Nat) (hi : ops[i]? = some oi) (hw : Region.wanted oi (yielded ops a.tmps) = true) (hr : Region.ready md ops listed = [i]) (d : Option Tmp) (hd : oi.dst = d) (s x : Operand) (t ti : TypeId)
    (ho : oi.op = .call { callee := .builtin .append, args := #[s, x], argTypes := #[t, ti] })
    (base : Nat) (e : TypeId) (ht : P.underlying t = some (.slice e)) (hti : P.underlying ti = some (.int .i64)) (hinfo : (P.info? e).map (fun i => (i.zero, i.size, i.bytes)) = some (some (.int .u8 0), 1, 1))
    (v : Value) (n m : Nat) (xs : List Value) (hs : a.eval s = v) (hown : w.ownsRow base e 1 v n xs) (hx : a.eval x = .int .i64 m)
    (h63 : n + m ≤ maxLen) (hbytes : (n + m) * 1 ≤ 140737488355328) (hbase : base ≤ w.heap.size)
    (h : ∀ v' w', w'.ownsRow base e 1 v' (n + m) (xs ++ nul8 m) → w.grownBy w' v.ownBlock → ∃ S' : World → Prop, (∀ w, S' w → S w) ∧ S' w' ∧ wpAnyH P md ops Q S' fuel (listed.setIfInBounds i true) (a.put d v') w') : wpAnyH P md ops Q S (fuel + 1) listed a w := by
  obtain ⟨ii, hii, hz, hz1, hz2⟩ := info_parts hinfo
  obtain ⟨v', w', hrun, h2, h3, _⟩ := run_append_makeN (P := P) w base t ti oi.type e ii ht hti hii hz hz1 hz2 v n xs hown m h63 hbytes hbase
  obtain ⟨S', k1, k2, k3⟩ := h v' w' h2 h3
  refine loudH i hi hw hr d hd v' w' ?_ S' k1 k2 k3
  unfold execOp
  simp only [ho, resolve, invoke, builtin, Sem.run_bind, Sem.run_pure, Result.andThen_ok, List.map_toArray, List.map_cons, List.map_nil, hs, hx, hrun]
theorem append_two {t t2 ty e e2 : TypeId} {v u : Value} (ht : P.underlying t = some (.slice e)) (ht2 : P.underlying t2 = some (.slice e2)) :
    (Builtin.append_ #[t, t2] ty #[v, u]).run P w = (Builtin.append_ #[t, t] ty #[v, u]).run P w := by
  cases v <;> simp [Builtin.append_, run_underlying ht, run_underlying ht2]
theorem appendH2 {S : World → Prop} (i : Nat) (hi : ops[i]? = some oi) (hw : Region.wanted oi (yielded ops a.tmps) = true) (hr : Region.ready md ops listed = [i]) (d : Option Tmp) (hd : oi.dst = d) (s x : Operand) (t t2 e2 : TypeId)
    (ho : oi.op = .call { callee := .builtin .append, args := #[s, x], argTypes := #[t, t2] }) (ht2 : P.underlying t2 = some (.slice e2))
    (base : Nat) (e : TypeId) (z : Value) (size bytes : Nat) (ht : P.underlying t = some (.slice e)) (hinfo : (P.info? e).map (fun i => (i.zero, i.size, i.bytes)) = some (some z, size, bytes)) (hzs : z.cells.size = size) (hsz : 0 < size)
    (v u : Value) (n m : Nat) (xs news : List Value) (hs : a.eval s = v) (hown : w.ownsRow base e size v n xs) (hx : a.eval x = u) (hsr : SR w u m size news) (h1 : ∀ u ∈ news, u.oneCell' = true)
    (h63 : n + m ≤ maxLen) (hbytes : (n + m) * bytes ≤ 140737488355328) (hbase : base ≤ w.heap.size)
    (h : ∀ v' w', w'.ownsRow base e size v' (n + m) (xs ++ news) → w.grownBy w' v.ownBlock → ∃ S' : World → Prop, (∀ w, S' w → S w) ∧ S' w' ∧ wpAnyH P md ops Q S' fuel (listed.setIfInBounds i true) (a.put d v') w') : wpAnyH P md ops Q S (fuel + 1) listed a w := by
  obtain ⟨v', w', hrun, h2, h3, _⟩ := run_append_sr (P := P) oi.type t base e z size bytes ht hinfo hzs hsz v u n m xs news hown hsr h1 h63 hbytes hbase
  obtain ⟨S', k1, k2, k3⟩ := h v' w' h2 h3
  refine loudH i hi hw hr d hd v' w' ?_ S' k1 k2 k3
  unfold execOp
  simp only [ho, resolve, invoke, builtin, Sem.run_bind, Sem.run_pure, Result.andThen_ok, List.map_toArray, List.map_cons, List.map_nil, hs, hx, append_two ht ht2, hrun]
end
theorem exec_boxD {P : Program} {ρ : Operand → Value} {o : Oper} {t : TypeId} {x : Operand} {cs : Array Value} (ho : o.op = .box t x) (hx : ρ x = .agg cs) (w : World) :
    (execOp ρ o).run P w = .ok (.value (.pointer (some ⟨w.heap.size, 0, none⟩))) (w.alloc (.cells cs t)) := by
  unfold execOp
  simp only [ho, hx]
  simp [Instr.box, go_sem]
theorem nul8_u8 (m : Nat) : nul8 m = (List.replicate m (0 : Int)).map (Value.int .u8) := by simp [nul8]
theorem memZ_pad (bs : List Int) (m : Nat) : memZ (bs ++ List.replicate m 0) = memZ bs := by
  funext i
  unfold memZ
  rw [List.getD_eq_getElem?_getD, List.getD_eq_getElem?_getD, List.getElem?_append]
  by_cases h : i < bs.length
  · rw [if_pos h]
  · rw [if_neg h, List.getElem?_eq_none (show bs.length ≤ i by omega), List.getElem?_replicate]
    split <;> rfl
/-- Bytes of the call's own, as a memory. -/
theorem own_mem {w : World} {base n : Nat} {v : Value} {zs : List Int} (h : w.ownsRow base 5 1 v n (zs.map (Value.int .u8))) (hz : ∀ z ∈ zs, 0 ≤ z ∧ z ≤ 255) (hn : n ≤ 100000) (hb : base < w.heap.size) :
    ∃ A cap gb N, v = .slice A n cap ∧ BW w gb N n A (memZ zs) ∧ n ≤ cap ∧ cap ≤ maxLen ∧ (A = none → cap = 0) ∧ base ≤ gb ∧ gb < w.heap.size := by
  have hl : zs.length = n := by have := h.1; simpa using this
  rcases h.2 with ⟨rfl, rfl⟩ | ⟨g, cap, cur, rfl, hbg, hg, hnc, hcm, hcs, htake⟩
  · exact ⟨none, 0, base, 0, rfl, ⟨Nat.le_refl _, by omega, fun h => absurd h (by omega), fun i hi => absurd hi (by omega)⟩, Nat.le_refl _, by simp [maxLen], fun _ => rfl, Nat.le_refl _, hb⟩
  · have hcs' : cur.size = cap := by simpa using hcs
    refine ⟨_, cap, g, cap, rfl, ⟨hnc, hn, fun hp => ⟨rfl, fun i => cur.getD i (.int .u8 0), ⟨cur, hg, hcs', fun i hi => ?_⟩, fun i hi => ?_⟩, fun i _ => memZ_lt hz i⟩, hnc, hcm, fun e => (by cases e), hbg, rowlt hg⟩
    · show cur[i]? = some (cur.getD i (.int .u8 0))
      rw [Array.getD_eq_getD_getElem?, Array.getElem?_eq_getElem (by omega)]; rfl
    · have h1 : cur.toList[i]? = some (.int .u8 (memZ zs i : Nat)) := by
        have h2 : (cur.toList.take n)[i]? = some (.int .u8 (memZ zs i : Nat)) := by
          have e : cur.toList.take n = zs.map (Value.int .u8) := by simpa using htake
          rw [e, List.getElem?_map, List.getElem?_eq_getElem (by omega)]
          have := hz (zs[i]'(by omega)) (List.getElem_mem _)
          simp [memZ, List.getD_eq_getElem?_getD, List.getElem?_eq_getElem (show i < zs.length by omega)]
          omega
        rw [List.getElem?_take_of_lt hi] at h2
        exact h2
      rw [Array.getElem?_toList] at h1
      show cur.getD i (.int .u8 0) = _
      rw [Array.getD_eq_getD_getElem?, h1]
      rfl
theorem DW.si {w : World} {gy gb N m cap : Nat} {A : Option Addr} {s : Mach} (h : DW w gy gb N m A cap s) (hc : A = none → cap = 0) (hm : cap ≤ maxLen) : SI w .u8 (.slice A (64 * m) cap) (memL s.mem (64 * m)) where
  sr := by
    refine ⟨by simp [memL], ?_⟩
    rcases Nat.eq_zero_or_pos (64 * m) with h0 | h0
    · rw [memL_len, h0]
      cases A with
      | none => exact .inl ⟨by rw [hc rfl], rfl⟩
      | some a => exact .inr ⟨a, cap, rfl, by omega, hm, fun h => absurd h (by omega)⟩
    · obtain ⟨rfl, f, hr, hf⟩ := h.bw.row h0
      refine .inr ⟨_, cap, by rw [memL_len], by rw [memL_len]; exact h.cp, hm, fun _ => ⟨rfl, hr.lt, fun i hi => ?_⟩⟩
      rw [memL_len] at hi
      rw [Nat.zero_add, h.bw.cell i (by omega)]
      simp [memL, List.getElem?_map, List.getElem?_range, show i < 64 * m by omega]
  wf := fun z hz => by
    simp only [memL, List.mem_map, List.mem_range] at hz
    obtain ⟨j, hj, rfl⟩ := hz
    have := h.wf.m0 j hj
    simp [Lit.wf, IntKind.min, IntKind.max, IntKind.bits, IntKind.signed]; omega
section
variable {w w' : World}
theorem DW.chg {gy gb N m cap : Nat} {A : Option Addr} {s : Mach} {S : Nat → Prop} (h : DW w gy gb N m A cap s) (c : Chg S w w') (h1 : ¬ S gy) (h2 : ¬ S gb) : DW w' gy gb N m A cap s :=
  ⟨h.rw.of_block (c.block gy h.rw.lt h1), h.bw.keepAt (fun hl => c.block gb hl h2), h.wf, h.cp, h.ne⟩
variable {g gm gs base m gx : Nat} {a : Option Addr} {us : Nat → Nat} {v : Value} {F : Nat × Nat → Option (Nat → Nat)} {s : Mach}
theorem MW.chgD {S : Nat → Prop} (h : MW w g gm gs base m gx a us v F s) (c : Chg S w w') (h1 : ¬ S g) (h2 : ¬ S gm) (h3 : ¬ S gs) (h4 : ∀ x, v.ownBlock = some x → ¬ S x) (h5 : ¬ S gx) : MW w' g gm gs base m gx a us v F s :=
  ⟨pt_chg h.tp c h1 h2, h.sp.chg c h3 h4, h.ok, h.mm, h.rw.of_block (c.block gx h.rw.lt h5), h.wf⟩
theorem MW.ltD (h : MW w g gm gs base m gx a us v F s) : gx < w.heap.size ∧ g < w.heap.size ∧ gm < w.heap.size ∧ gs < w.heap.size ∧ ∀ x, v.ownBlock = some x → x < w.heap.size :=
  ⟨h.rw.lt, h.tp.row.lt, h.tp.mp.lt, h.sp.row.lt, fun x hx => by obtain ⟨_, _, hb⟩ := own_blk h.sp.ov hx; exact rowlt hb⟩
/-- The program's machine lies below C. -/
structure LoM (C g gm gs gx : Nat) (v : Value) : Prop where
  x : gx < C
  g : g < C
  m : gm < C
  s : gs < C
  v : ∀ y, v.ownBlock = some y → y < C
theorem MW.lo (h : MW w g gm gs base m gx a us v F s) : LoM w.heap.size g gm gs gx v := ⟨h.ltD.1, h.ltD.2.1, h.ltD.2.2.1, h.ltD.2.2.2.1, h.ltD.2.2.2.2⟩
/-- What is done from C on leaves it alone. -/
theorem MW.hi {S : Nat → Prop} {C : Nat} (h : MW w g gm gs base m gx a us v F s) (l : LoM C g gm gs gx v) (c : Chg S w w') (hS : ∀ k, S k → C ≤ k) : MW w' g gm gs base m gx a us v F s :=
  h.chgD c (fun e => by have := hS _ e; have := l.g; omega) (fun e => by have := hS _ e; have := l.m; omega) (fun e => by have := hS _ e; have := l.s; omega) (fun x hx e => by have := hS _ e; have := l.v x hx; omega) (fun e => by have := hS _ e; have := l.x; omega)
theorem LoM.not {C k : Nat} (l : LoM C g gm gs gx v) (hk : C ≤ k) : ¬ mwS g gm gx k := fun h => by
  have h1 := l.x
  have h2 := l.g
  have h3 := l.m
  rcases h with rfl | rfl | rfl <;> omega
end
theorem SI.chgD {S : Nat → Prop} {w w' : World} {g n cap : Nat} {zs : List Int} (h : SI w .u8 (.slice (some ⟨g, 0, none⟩) n cap) zs) (c : Chg S w w') (hg : ¬ S g) : SI w' .u8 (.slice (some ⟨g, 0, none⟩) n cap) zs :=
  ⟨h.sr.keepAt c.size (fun a cp hv _ hl => by injection hv with e1 e2 e3; injection e1 with e1; subst e1; exact c.block g hl hg), h.wf⟩
theorem SI.cellN {w : World} {g n cap : Nat} {zs : List Int} (h : SI w .u8 (.slice (some ⟨g, 0, none⟩) n cap) zs) (k : Nat) (hk : k < zs.length) : ∃ b : Nat, b ≤ 255 ∧ w.cell? ⟨g, k, none⟩ = some (.int .u8 b) := by
  rcases h.cases with ⟨e, _⟩ | ⟨_, g', off, cap', hv, _, _, _, hc⟩
  · rw [e] at hk; exact absurd hk (Nat.not_lt_zero _)
  · injection hv with e1 _ _
    injection e1 with e1
    injection e1 with e1 e2 _
    subst e1
    subst e2
    have h1 := hc k hk
    have hz := wf_bytes h.wf (zs.getD k 0) (by rw [List.getD_eq_getElem?_getD, List.getElem?_eq_getElem hk]; exact List.getElem_mem _)
    rw [Nat.zero_add] at h1
    exact ⟨(zs.getD k 0).toNat, by omega, by rw [h1, Int.toNat_of_nonneg hz.1]⟩
theorem runM_le {st : Mach → Mach × Out} (b : Nat) (s : Mach) : ∃ s' y m d, runM st b 0 s = (s', y, m, d) ∧ y ≤ 2 := by
  rcases run_ways (st := st) b 0 s with ⟨s', h⟩ | ⟨s', n, d, q, h, _⟩ | ⟨s', n, d, q, h, _⟩
  · exact ⟨_, _, _, _, h, by omega⟩
  · exact ⟨_, _, _, _, h, by omega⟩
  · exact ⟨_, _, _, _, h, by omega⟩
theorem built_doc (R : Nat → Int) (M : Nat → Nat) (A : Option Addr) (n cap : Nat) : Try.prog.built 40 [(0, .agg (rowArr 16 (regC R))), (2, .slice A n cap)] = some (rowArr 18 (cpV ⟨R, 0, M⟩ (.slice A n cap))) := by kernel_rfl
/-- The document's machine, new. -/
theorem DW.new {w : World} {gy gb N m cap : Nat} {A : Option Addr} {R : Nat → Int} {M : Nat → Nat} (hr : w.rowIs gy 40 18 (cpV ⟨R, 0, M⟩ (.slice A (64 * m) cap))) (hb : BW w gb N (64 * m) A M) (hR : ∀ i, i < 16 → 0 ≤ R i ∧ R i ≤ 4294967295) (hc : 64 * m ≤ cap) (hne : gb ≠ gy) : DW w gy gb N m A cap ⟨R, 0, M⟩ :=
  ⟨hr, hb, ⟨hR, ⟨Int.le_refl 0, (by decide : (0 : Int) ≤ 4294967295)⟩, hb.m0⟩, hc, hne⟩
end Go.Proofs.Ytapcbfeifeobhaa

set_option linter.unusedVariables false
set_option linter.unusedSimpArgs false
namespace Go.Proofs.Ytapcbfeifeobhaa
open Go.RowKit
open Go.Maps (Keyed)
theorem instr_isD {W : World} {v : Value} (o : Arg Try.prog W 24 v) : ∃ a b c d : Nat, v = .agg #[.int .u8 a, .int .u8 b, .int .u8 c, .int .u8 d] ∧ a ≤ 255 ∧ b ≤ 255 ∧ c ≤ 255 ∧ d ≤ 255 := by
  obtain ⟨cs, rfl, h⟩ := Arg.flat (.inl ⟨_, Try.underlying24⟩) 4 (ks := [⟨0, .u8, 0⟩, ⟨0, .u8, 0⟩, ⟨0, .u8, 0⟩, ⟨0, .u8, 0⟩]) (by kernel_rfl) o
  obtain ⟨_, _, rfl, ⟨a, rfl, ha⟩, h1⟩ := FitsAll.cons h
  obtain ⟨_, _, rfl, ⟨b, rfl, hb⟩, h2⟩ := FitsAll.cons h1
  obtain ⟨_, _, rfl, ⟨c, rfl, hc⟩, h3⟩ := FitsAll.cons h2
  obtain ⟨_, _, rfl, ⟨d, rfl, hd⟩, h4⟩ := FitsAll.cons h3
  obtain rfl := FitsAll.nil h4
  have ha := wf_u8 ha
  have hb := wf_u8 hb
  have hc := wf_u8 hc
  have hd := wf_u8 hd
  exact ⟨a.toNat, b.toNat, c.toNat, d.toNat, by rw [Int.toNat_of_nonneg ha.1, Int.toNat_of_nonneg hb.1, Int.toNat_of_nonneg hc.1, Int.toNat_of_nonneg hd.1], by omega, by omega, by omega, by omega⟩
/-- The one operation that may come up stores. -/
theorem skipH {P : Program} {ops : Array Oper} {Q : Exit → Act → World → Prop} {md : Region.Mode} {S : World → Prop} {oi : Oper} {fuel : Nat} {listed : Array Bool} {a : Act} {w : World} (i : Nat) (hi : ops[i]? = some oi) (hw : Region.wanted oi (yielded ops a.tmps) = true) (hr : Region.ready md ops listed = [i]) (hd : oi.dst = none) (w' : World)
    (hrun : (execOp a.eval oi).run P w = .ok .skip w') (S' : World → Prop) (hS : ∀ w, S' w → S w) (hw' : S' w')
    (h : wpAnyH P md ops Q S' fuel (listed.setIfInBounds i true) a w') : wpAnyH P md ops Q S (fuel + 1) listed a w := by
  refine wpAnyH_ready (rs := [i]) hr (by simp) (AllReadyH.cons hi (fun K hK => ?_) AllReadyH.nil)
  rw [if_pos hw]
  unfold Oper.wp
  rw [hrun]
  exact hK.out _ _ (hS _ hw') (fun _ => wpAnyH_mono hS _ _ _ _ (by rw [hd]; exact h))
set_option maxRecDepth 100000 in
set_option maxHeartbeats 16000000 in
theorem cpuOnes_walk (W : World) (v0 v1 v2 v3 v4 : Value) (o0 : Arg Try.prog W 24 v0) (o1 : Arg Try.prog W 5 v1) (o2 : Arg Try.prog W 25 v2) (o3 : Arg Try.prog W 25 v3) (o4 : Arg Try.prog W 5 v4) :
    Calls Try.prog 3 #[v0, v1, v2, v3, v4] W fun e w' => e = .returned (.bool true) ∧ Below W.heap.size W w' := by
  obtain ⟨i0, i1, i2, i3, rfl, k1, k2, k3, k4⟩ := instr_isD o0
  obtain ⟨f0, rfl, hf0⟩ := Arg.int Try.underlying5 o1
  obtain ⟨y0, rfl, hy0⟩ := Arg.int Try.underlying25 o2
  obtain ⟨z0, rfl, hz0⟩ := Arg.int Try.underlying25 o3
  obtain ⟨c0, rfl, hc0⟩ := Arg.int Try.underlying5 o4
  have bf := wf_u8 hf0
  have by0 := wf_u32 hy0
  have bz0 := wf_u32 hz0
  have bc := wf_u8 hc0
  obtain ⟨f, rfl⟩ : ∃ n : Nat, f0 = n := ⟨f0.toNat, by omega⟩
  obtain ⟨yn, rfl⟩ : ∃ n : Nat, y0 = n := ⟨y0.toNat, by omega⟩
  obtain ⟨zn, rfl⟩ : ∃ n : Nat, z0 = n := ⟨z0.toNat, by omega⟩
  obtain ⟨c, rfl⟩ : ∃ n : Nat, c0 = n := ⟨c0.toNat, by omega⟩
  have hfb : f ≤ 255 := by omega
  have hyb : yn ≤ 4294967295 := by omega
  have hzb : zn ≤ 4294967295 := by omega
  have hcb : c ≤ 255 := by omega
  clear o0 o1 o2 o3 o4 hf0 hy0 hz0 hc0 bf by0 bz0 bc
  have HB := Lib.hid (Below.refl W.heap.size W)
  go_enter Try.func3, Try.ntmps3
  go_upto_region 1 with fail
  have hbw1 := bnew W (.cells #[.int .u8 (i0 : Nat), .int .u8 (i1 : Nat), .int .u8 (i2 : Nat), .int .u8 (i3 : Nat)] 24)
  have hlw1 := heap_alloc_last W (.cells #[.int .u8 (i0 : Nat), .int .u8 (i1 : Nat), .int .u8 (i2 : Nat), .int .u8 (i3 : Nat)] 24)
  have nHB := Lib.hid (HB.out.trans (hbw1.mono HB.out.size))
  clear HB
  have HB := nHB; clear nHB
  have HN := Lib.hid (hlw1)
  clear hbw1 hlw1
  obtain ⟨N, hN⟩ : ∃ k, k = W.heap.size := ⟨_, rfl⟩
  rw [← hN] at HN
  have GN := Lib.hid (Nat.le_of_eq hN.symm)
  rw [← hN]
  generalize W.alloc (.cells #[.int .u8 (i0 : Nat), .int .u8 (i1 : Nat), .int .u8 (i2 : Nat), .int .u8 (i3 : Nat)] 24) = w1 at *
  clear hN
  go_wp2_with fail
  refine (cpuAwake_in _).mono ?_; rintro e wA ⟨rfl, hb3⟩
  have nHB := Lib.hid (HB.out.trans (hb3.mono HB.out.size))
  have nHN := Lib.hid (bkeep hb3 HN.out)
  clear HB HN
  have HB := nHB; clear nHB
  have HN := nHN; clear nHN
  clear hb3
  have HCU := Lib.hid (CU.of_lit HN.out k1 k2 k3 k4)
  have HFIN := Lib.hid (fun wx (hc : CU wA wx N) => hc.bl HB.out GN.out HB.out.size)
  have hcA := rowcell HN.out
  have hfA := rowfree HN.out
  go_upto_region 4 with fail
  obtain ⟨w1, hw1⟩ : ∃ x, x = (((wA.setCell ⟨N, 0, none⟩ (.int .u8 (1 + (f : Int) % 38))).setCell ⟨N, 1, none⟩ (.int .u8 3)).setCell ⟨N, 2, none⟩ (.int .u8 4)).setCell ⟨N, 3, none⟩ (.int .u8 5) := ⟨_, rfl⟩
  have hcu1 : CU wA w1 N := by rw [hw1]; exact (((HCU.out.set 0 _ (by omega) (by omega)).set 1 _ (by decide) (by decide)).set 2 _ (by decide) (by decide)).set 3 _ (by decide) (by decide)
  rw [← hw1]
  clear hw1 hcA hfA k1 k2 k3 k4
  obtain ⟨o1, x1, y1, z1, hl1, q1, q2, q3, q4⟩ := hcu1.lit
  have HC1 := Lib.hid hcu1
  have HL1 := Lib.hid hl1
  have hc1 := rowcell hl1
  clear hcu1 hl1 HN HCU
  go_wp2_with fail
  refine (form_any o1 q1 _).mono ?_; rintro e w2 ⟨fm, rfl, hf1, hf2, hb2⟩
  have hcu2 := HC1.out.below hb2
  have hl2 := bkeep hb2 HL1.out
  have HC2 := Lib.hid hcu2
  have HL2 := Lib.hid hl2
  have hc2 := rowcell hl2
  have hf2' := rowfree hl2
  clear hcu2 hl2 hc1 hb2 HC1 HL1
  go_upto_block 0 with fail
  go_cut [] from 32 to 67 (fun wx => CU wA wx N)
  case first =>
    rcases (show fm = -1 ∨ fm = 0 ∨ fm = 1 ∨ fm = 2 ∨ fm = 3 ∨ fm = 4 ∨ fm = 5 ∨ fm = 6 ∨ fm = 7 ∨ fm = 8 by omega) with rfl | rfl | rfl | rfl | rfl | rfl | rfl | rfl | rfl | rfl
    · as_aux_lemma =>
        go_wp2_with fail
        go_meet
        repeat (first | exact HC2.out | refine CU.set ?_ _ _ ?_ ?_)
        all_goals omega
    · as_aux_lemma =>
        go_wp2_with fail
        go_meet
        repeat (first | exact HC2.out | refine CU.set ?_ _ _ ?_ ?_)
        all_goals omega
    · as_aux_lemma =>
        go_wp2_with fail
        go_meet
        repeat (first | exact HC2.out | refine CU.set ?_ _ _ ?_ ?_)
        all_goals omega
    · as_aux_lemma =>
        go_wp2_with fail
        go_meet
        repeat (first | exact HC2.out | refine CU.set ?_ _ _ ?_ ?_)
        all_goals omega
    · as_aux_lemma =>
        go_wp2_with fail
        go_meet
        repeat (first | exact HC2.out | refine CU.set ?_ _ _ ?_ ?_)
        all_goals omega
    · as_aux_lemma =>
        go_wp2_with fail
        go_meet
        repeat (first | exact HC2.out | refine CU.set ?_ _ _ ?_ ?_)
        all_goals omega
    · as_aux_lemma =>
        go_wp2_with fail
        go_meet
        repeat (first | exact HC2.out | refine CU.set ?_ _ _ ?_ ?_)
        all_goals omega
    · as_aux_lemma =>
        go_wp2_with fail
        go_meet
        repeat (first | exact HC2.out | refine CU.set ?_ _ _ ?_ ?_)
        all_goals omega
    · as_aux_lemma =>
        go_wp2_with fail
        go_meet
        repeat (first | exact HC2.out | refine CU.set ?_ _ _ ?_ ?_)
        all_goals omega
    · as_aux_lemma =>
        go_wp2_with fail
        go_meet
        repeat (first | exact HC2.out | refine CU.set ?_ _ _ ?_ ?_)
        all_goals omega
  case rest =>
    have hcut' := hcut
    obtain ⟨o2, x2, y2, z2, hl2, r1, r2, r3, r4⟩ := hcut.lit
    have hbw := HFIN.out _ hcut
    clear HB HC2 HL2 hc2 hf2' hcut'
    have HB := Lib.hid hbw
    have HL := Lib.hid hl2
    clear hbw hl2 hcut
    go_at_K
    go_step
    go_upto_if 70 with fail
    go_cut [2, 3] from 70 to 74 (fun s2 s3 wx => ∃ y z : Nat, y ≤ 4294967295 ∧ z ≤ 4294967295 ∧ s2 = .int .u32 y ∧ s3 = .int .u32 z ∧ wx = wc)
    case first =>
      by_cases h3 : c % 3 = 0
      · have g3 : (((c : Int) % 3) == 0) = true := by rw [beq_iff_eq]; omega
        go_wp2_with fail
        go_meet
        exact ⟨yn % 130, zn % 40, by omega, by omega, by simp, by simp, rfl⟩
      · have g3 : (((c : Int) % 3) == 0) = false := by rw [beq_eq_false_iff_ne]; omega
        go_wp2_with fail
        go_meet
        exact ⟨yn, zn, hyb, hzb, rfl, rfl, rfl⟩
    case rest =>
      obtain ⟨y, z, hy, hz, rfl, rfl, rfl⟩ := hcut
      go_at_K
      go_step
      have hc2 := rowcell HL.out
      go_wp2_with fail
      refine (opsPack_any o2 x2 y2 z2 _).mono ?_; rintro e w3 ⟨rfl, hb3⟩
      clear hc2
      have nHB := Lib.hid (HB.out.trans (hb3.mono HB.out.size))
      clear HB
      have HB := nHB; clear nHB
      clear hb3
      have hbw4 := bnew w3 (.cells #[.int .u8 (o2 : Nat), .int .u8 (x2 : Nat), .int .u8 (y2 : Nat), .int .u8 (z2 : Nat)] 28)
      have hlw4 := heap_alloc_last w3 (.cells #[.int .u8 (o2 : Nat), .int .u8 (x2 : Nat), .int .u8 (y2 : Nat), .int .u8 (z2 : Nat)] 28)
      have nHB := Lib.hid (HB.out.trans (hbw4.mono HB.out.size))
      clear HB
      have HB := nHB; clear nHB
      have HP := Lib.hid (hlw4)
      clear hbw4 hlw4
      go_upto_region 22 with fail
      obtain ⟨NP, hNP⟩ : ∃ k, k = w3.heap.size := ⟨_, rfl⟩
      rw [← hNP] at HP ⊢
      generalize w3.alloc (.cells #[.int .u8 (o2 : Nat), .int .u8 (x2 : Nat), .int .u8 (y2 : Nat), .int .u8 (z2 : Nat)] 28) = w4 at *
      have GNP := Lib.hid (Nat.le_of_eq hNP.symm)
      clear hNP
      obtain ⟨bs, hbs⟩ : ∃ l : List Int, l = [(o2 : Int), x2, y2, z2] := ⟨_, rfl⟩
      have hsr : SR w4 (.slice (some ⟨NP, 0, none⟩) 4 4) 4 1 (bs.map (Value.int .u8)) := by
        rw [hbs]
        exact ⟨rfl, .inr ⟨⟨NP, 0, none⟩, 4, rfl, Nat.le_refl _, by simp [maxLen], fun _ => ⟨rfl, rowlt HP.out, fun i hi => by
          show w4.cell? ⟨NP, 0 + i, none⟩ = _
          rw [Nat.zero_add, rowcell HP.out, ← Array.getElem?_toList]
          rfl⟩⟩⟩
      have hl4 : bs.length = 4 := by rw [hbs]; rfl
      have hbz : ∀ z ∈ bs, 0 ≤ z ∧ z ≤ 255 := fun z hz => by rw [hbs] at hz; simp only [List.mem_cons, List.not_mem_nil, or_false] at hz; rcases hz with rfl | rfl | rfl | rfl <;> omega
      have hsi : SI w4 .u8 (.slice (some ⟨NP, 0, none⟩) 4 4) bs := ⟨by rw [hl4]; exact hsr, fun z hz => by have := hbz z hz; simp [Lit.wf, IntKind.min, IntKind.max, IntKind.bits, IntKind.signed]; omega⟩
      have HSI := Lib.hid hsi
      have HBZ := Lib.hid hbz
      have HLEN := Lib.hid hl4
      clear hsr hsi hbz hl4 hbs
      go_wp2_with fail
      have hmem := memory_in w4 (some ⟨NP, 0, none⟩) 4 bs (by rw [HLEN.out]; exact HSI.out) HBZ.out 2 (by omega) (by rw [HLEN.out]; omega)
      rw [HLEN.out] at hmem
      refine hmem.mono ?_
      rintro e w5 ⟨g, gm, gs, base, a, us, v, F, rfl, hg, hgm, _, hmw, hb5⟩
      clear hmem
      have HG := Lib.hid (And.intro (Nat.le_trans HB.out.size hg) (Nat.le_trans HB.out.size hgm))
      have nHB := Lib.hid (HB.out.trans (hb5.mono HB.out.size))
      have nHSI := Lib.hid (HSI.out.keep hb5)
      clear HB HSI
      have HB := nHB; clear nHB
      have HSI := nHSI; clear nHSI
      clear hb5 hg hgm HP HL
      have HM := Lib.hid (hmw)
      clear hmw
      obtain ⟨s0, hs0⟩ : ∃ s : Mach, s = ⟨fun _ => 0, 0, memZ bs⟩ := ⟨_, rfl⟩
      go_upto_region 24 with fail
      have hb6 := bnew w5 (.cells #[.int .u32 0, .int .u32 0, .int .u32 0, .int .u32 0, .int .u32 0, .int .u32 0, .int .u32 0, .int .u32 0, .int .u32 0, .int .u32 0, .int .u32 0, .int .u32 0, .int .u32 0, .int .u32 0, .int .u32 0, .int .u32 0, .int .u32 0] 36)
      have hl6 := heap_alloc_last w5 (.cells #[.int .u32 0, .int .u32 0, .int .u32 0, .int .u32 0, .int .u32 0, .int .u32 0, .int .u32 0, .int .u32 0, .int .u32 0, .int .u32 0, .int .u32 0, .int .u32 0, .int .u32 0, .int .u32 0, .int .u32 0, .int .u32 0, .int .u32 0] 36)
      obtain ⟨gx, hgx⟩ : ∃ k, k = w5.heap.size := ⟨_, rfl⟩
      rw [← hgx] at hl6 ⊢
      generalize w5.alloc (.cells #[.int .u32 0, .int .u32 0, .int .u32 0, .int .u32 0, .int .u32 0, .int .u32 0, .int .u32 0, .int .u32 0, .int .u32 0, .int .u32 0, .int .u32 0, .int .u32 0, .int .u32 0, .int .u32 0, .int .u32 0, .int .u32 0, .int .u32 0] 36) = w6 at *
      have GX := Lib.hid (Nat.le_of_eq hgx.symm)
      clear hgx
      have hr6 : w6.rowIs gx 36 17 (fun _ => .int .u32 0) := ⟨_, hl6, rfl, fun i hi => by rcases (show i = 0 ∨ i = 1 ∨ i = 2 ∨ i = 3 ∨ i = 4 ∨ i = 5 ∨ i = 6 ∨ i = 7 ∨ i = 8 ∨ i = 9 ∨ i = 10 ∨ i = 11 ∨ i = 12 ∨ i = 13 ∨ i = 14 ∨ i = 15 ∨ i = 16 by omega) with rfl | rfl | rfl | rfl | rfl | rfl | rfl | rfl | rfl | rfl | rfl | rfl | rfl | rfl | rfl | rfl | rfl <;> rfl⟩
      have hb7 : Below w5.heap.size w5 (World.drew w6) := hb6.trans ((drewb w6).mono hb6.size)
      have hr7 : (World.drew w6).rowIs gx 36 17 (fun _ => .int .u32 0) := hr6
      have HB7 := Lib.hid hb7
      have HR7 := Lib.hid hr7
      clear hb6 hl6 hr6 hb7 hr7
      obtain ⟨xr, hxr⟩ : ∃ k, k = bits .xor .u32 (z : Int) (y : Int) := ⟨_, rfl⟩
      have bxr : 0 ≤ xr ∧ xr ≤ 4294967295 := by rw [hxr]; exact ⟨bits_lo_u32 .xor _ _, bits_hi_u32 .xor _ _⟩
      have fxr : bits .xor .u32 (z : Int) (y : Int) = xr := hxr.symm
      clear hxr
      obtain ⟨sm, hsm⟩ : ∃ k, k = ((y : Int) + (z : Int)) % 4294967296 := ⟨_, rfl⟩
      have bsm : 0 ≤ sm ∧ sm ≤ 4294967295 := by omega
      have fsm : ((y : Int) + (z : Int)) % 4294967296 = sm := hsm.symm
      clear hsm
      have hS0 : (fun _ : World => True) (World.drew w6) := trivial
      refine wp_region_held (S := fun _ => True) (by kernel_rfl) ?_
      change wpAnyH _ _ _ _ _ _ _ _ (World.drew _)
      generalize World.drew w6 = w7 at *
      refine takeH 0 (.pointer (some ⟨gx, 0, none⟩)) (some 81) rfl rfl (by kernel_rfl) (by kernel_rfl) (by kernel_rfl) (fun _ _ _ h => h) (.inl ⟨by kernel_rfl, fun w _ => by go_simp⟩) hS0 ?_
      refine takeH 1 (.pointer (some ⟨gx, 0, none⟩)) (some 82) rfl rfl (by kernel_rfl) (by kernel_rfl) (by kernel_rfl) (fun _ _ _ h => h) (.inl ⟨by kernel_rfl, fun w _ => by go_simp⟩) hS0 ?_
      refine takeH 2 (.pointer (some ⟨gx, 0, none⟩)) (some 83) rfl rfl (by kernel_rfl) (by kernel_rfl) (by kernel_rfl) (fun _ _ _ h => h) (.inl ⟨by kernel_rfl, fun w _ => by go_simp⟩) hS0 ?_
      refine takeH 3 (.pointer (some ⟨gx, 0, none⟩)) (some 84) rfl rfl (by kernel_rfl) (by kernel_rfl) (by kernel_rfl) (fun _ _ _ h => h) (.inl ⟨by kernel_rfl, fun w _ => by go_simp⟩) hS0 ?_
      refine takeH 4 (.int .u32 (z : Nat)) (some 85) rfl rfl (by kernel_rfl) (by kernel_rfl) (by kernel_rfl) (fun _ _ _ h => h) (.inl ⟨by kernel_rfl, fun w _ => by go_simp⟩) hS0 ?_
      refine takeH 5 (.int .u32 (y : Nat)) (some 86) rfl rfl (by kernel_rfl) (by kernel_rfl) (by kernel_rfl) (fun _ _ _ h => h) (.inl ⟨by kernel_rfl, fun w _ => by go_simp⟩) hS0 ?_
      go_simp
      refine takeH 6 (.int .u32 xr) (some 87) rfl rfl (by kernel_rfl) (by kernel_rfl) (by kernel_rfl) (fun _ _ _ h => h) (.inl ⟨by kernel_rfl, fun w _ => by go_simp⟩) hS0 ?_
      refine takeH 7 (.int .u32 (y : Nat)) (some 88) rfl rfl (by kernel_rfl) (by kernel_rfl) (by kernel_rfl) (fun _ _ _ h => h) (.inl ⟨by kernel_rfl, fun w _ => by go_simp⟩) hS0 ?_
      refine takeH 8 (.int .u32 (z : Nat)) (some 89) rfl rfl (by kernel_rfl) (by kernel_rfl) (by kernel_rfl) (fun _ _ _ h => h) (.inl ⟨by kernel_rfl, fun w _ => by go_simp⟩) hS0 ?_
      refine takeH 9 (.int .u32 (y : Nat)) (some 90) rfl rfl (by kernel_rfl) (by kernel_rfl) (by kernel_rfl) (fun _ _ _ h => h) (.inl ⟨by kernel_rfl, fun w _ => by go_simp⟩) hS0 ?_
      refine takeH 10 (.int .u32 (z : Nat)) (some 91) rfl rfl (by kernel_rfl) (by kernel_rfl) (by kernel_rfl) (fun _ _ _ h => h) (.inl ⟨by kernel_rfl, fun w _ => by go_simp⟩) hS0 ?_
      go_simp
      refine takeH 11 (.int .u32 sm) (some 92) rfl rfl (by kernel_rfl) (by kernel_rfl) (by kernel_rfl) (fun _ _ _ h => h) (.inl ⟨by kernel_rfl, fun w _ => by go_simp; rw [← fsm]; simp [IntKind.wrap, IntKind.bits, IntKind.signed]⟩) hS0 ?_
      refine takeH 12 (.pointer (some ⟨gx, 0, none⟩)) (some 93) rfl rfl (by kernel_rfl) (by kernel_rfl) (by kernel_rfl) (fun _ _ _ h => h) (.inl ⟨by kernel_rfl, fun w _ => by go_simp⟩) hS0 ?_
      go_simp
      refine takeH 13 (.pointer (some ⟨gx, 0, none⟩)) (some 94) rfl rfl (by kernel_rfl) (by kernel_rfl) (by kernel_rfl) (fun _ _ _ h => h) (.inl ⟨by kernel_rfl, fun w _ => by go_simp⟩) hS0 ?_
      go_simp
      refine takeH 14 (.pointer (some ⟨gx, 3, none⟩)) (some 95) rfl rfl (by kernel_rfl) (by kernel_rfl) (by kernel_rfl) (fun _ _ _ h => h) (.inl ⟨by kernel_rfl, fun w _ => by go_simp⟩) hS0 ?_
      go_simp
      refine takeH 16 (.pointer (some ⟨gx, 0, none⟩)) (some 96) rfl rfl (by kernel_rfl) (by kernel_rfl) (by kernel_rfl) (fun _ _ _ h => h) (.inl ⟨by kernel_rfl, fun w _ => by go_simp⟩) hS0 ?_
      go_simp
      refine takeH 17 (.pointer (some ⟨gx, 0, none⟩)) (some 97) rfl rfl (by kernel_rfl) (by kernel_rfl) (by kernel_rfl) (fun _ _ _ h => h) (.inl ⟨by kernel_rfl, fun w _ => by go_simp⟩) hS0 ?_
      go_simp
      refine takeH 20 (.pointer (some ⟨gx, 0, none⟩)) (some 99) rfl rfl (by kernel_rfl) (by kernel_rfl) (by kernel_rfl) (fun _ _ _ h => h) (.inl ⟨by kernel_rfl, fun w _ => by go_simp⟩) hS0 ?_
      go_simp
      refine takeH 21 (.pointer (some ⟨gx, 0, none⟩)) (some 100) rfl rfl (by kernel_rfl) (by kernel_rfl) (by kernel_rfl) (fun _ _ _ h => h) (.inl ⟨by kernel_rfl, fun w _ => by go_simp⟩) hS0 ?_
      go_simp
      refine takeH 24 (.pointer (some ⟨gx, 0, none⟩)) (some 102) rfl rfl (by kernel_rfl) (by kernel_rfl) (by kernel_rfl) (fun _ _ _ h => h) (.inl ⟨by kernel_rfl, fun w _ => by go_simp⟩) hS0 ?_
      go_simp
      refine takeH 25 (.pointer (some ⟨gx, 0, none⟩)) (some 103) rfl rfl (by kernel_rfl) (by kernel_rfl) (by kernel_rfl) (fun _ _ _ h => h) (.inl ⟨by kernel_rfl, fun w _ => by go_simp⟩) hS0 ?_
      go_simp
      refine skipH 15 rfl (by kernel_rfl) (by kernel_rfl) rfl (w7.setCell ⟨gx, 3, none⟩ (.int .u32 xr)) (exec_store_cell 25 _ _ rfl gx 3 (.int .u32 xr) (by go_simp) (by go_simp) (by kernel_rfl) (by kernel_rfl) rfl (by rw [HR7.out.cell (i := 3) (by omega)]; rfl) (HR7.out.frozen _)) (fun _ => True) (fun _ _ => trivial) trivial ?_
      have HR8 := Lib.hid (HR7.out.set 3 (.int .u32 xr))
      have HB8 := Lib.hid (HB7.out.setCell (p := ⟨gx, 3, none⟩) (show w5.heap.size ≤ gx from GX.out) (.int .u32 xr))
      generalize (w7.setCell ⟨gx, 3, none⟩ (.int .u32 xr)) = w8 at *
      clear HR7 HB7
      clear hS0
      have hS0 : (fun _ : World => True) w8 := trivial
      go_simp
      refine takeH 18 (.pointer (some ⟨gx, 4, none⟩)) (some 98) rfl rfl (by kernel_rfl) (by kernel_rfl) (by kernel_rfl) (fun _ _ _ h => h) (.inl ⟨by kernel_rfl, fun w _ => by go_simp⟩) hS0 ?_
      go_simp
      refine skipH 19 rfl (by kernel_rfl) (by kernel_rfl) rfl (w8.setCell ⟨gx, 4, none⟩ (.int .u32 (y : Nat))) (exec_store_cell 25 _ _ rfl gx 4 (.int .u32 (y : Nat)) (by go_simp) (by go_simp) (by kernel_rfl) (by kernel_rfl) rfl (by rw [HR8.out.cell (i := 4) (by omega)]; rfl) (HR8.out.frozen _)) (fun _ => True) (fun _ _ => trivial) trivial ?_
      have HR9 := Lib.hid (HR8.out.set 4 (.int .u32 (y : Nat)))
      have HB9 := Lib.hid (HB8.out.setCell (p := ⟨gx, 4, none⟩) (show w5.heap.size ≤ gx from GX.out) (.int .u32 (y : Nat)))
      generalize (w8.setCell ⟨gx, 4, none⟩ (.int .u32 (y : Nat))) = w9 at *
      clear HR8 HB8
      clear hS0
      have hS0 : (fun _ : World => True) w9 := trivial
      go_simp
      refine takeH 22 (.pointer (some ⟨gx, 5, none⟩)) (some 101) rfl rfl (by kernel_rfl) (by kernel_rfl) (by kernel_rfl) (fun _ _ _ h => h) (.inl ⟨by kernel_rfl, fun w _ => by go_simp⟩) hS0 ?_
      go_simp
      refine skipH 23 rfl (by kernel_rfl) (by kernel_rfl) rfl (w9.setCell ⟨gx, 5, none⟩ (.int .u32 (z : Nat))) (exec_store_cell 25 _ _ rfl gx 5 (.int .u32 (z : Nat)) (by go_simp) (by go_simp) (by kernel_rfl) (by kernel_rfl) rfl (by rw [HR9.out.cell (i := 5) (by omega)]; rfl) (HR9.out.frozen _)) (fun _ => True) (fun _ _ => trivial) trivial ?_
      have HR10 := Lib.hid (HR9.out.set 5 (.int .u32 (z : Nat)))
      have HB10 := Lib.hid (HB9.out.setCell (p := ⟨gx, 5, none⟩) (show w5.heap.size ≤ gx from GX.out) (.int .u32 (z : Nat)))
      generalize (w9.setCell ⟨gx, 5, none⟩ (.int .u32 (z : Nat))) = w10 at *
      clear HR9 HB9
      clear hS0
      have hS0 : (fun _ : World => True) w10 := trivial
      go_simp
      refine takeH 26 (.pointer (some ⟨gx, 15, none⟩)) (some 104) rfl rfl (by kernel_rfl) (by kernel_rfl) (by kernel_rfl) (fun _ _ _ h => h) (.inl ⟨by kernel_rfl, fun w _ => by go_simp⟩) hS0 ?_
      go_simp
      refine skipH 27 rfl (by kernel_rfl) (by kernel_rfl) rfl (w10.setCell ⟨gx, 15, none⟩ (.int .u32 sm)) (exec_store_cell 25 _ _ rfl gx 15 (.int .u32 sm) (by go_simp) (by go_simp) (by kernel_rfl) (by kernel_rfl) rfl (by rw [HR10.out.cell (i := 15) (by omega)]; rfl) (HR10.out.frozen _)) (fun _ => True) (fun _ _ => trivial) trivial ?_
      have HR11 := Lib.hid (HR10.out.set 15 (.int .u32 sm))
      have HB11 := Lib.hid (HB10.out.setCell (p := ⟨gx, 15, none⟩) (show w5.heap.size ≤ gx from GX.out) (.int .u32 sm))
      generalize (w10.setCell ⟨gx, 15, none⟩ (.int .u32 sm)) = w11 at *
      clear HR10 HB10
      clear hS0
      have hS0 : (fun _ : World => True) w11 := trivial
      go_simp
      refine wpAnyH_done (by kernel_rfl) ?_ _
      go_simp
      obtain ⟨R1, hR1⟩ : ∃ R1 : Nat → Int, R1 = fun i => if i = 15 then sm else if i = 5 then (z : Int) else if i = 4 then (y : Int) else if i = 3 then xr else 0 := ⟨_, rfl⟩
      have hR : ∀ i, i < 16 → 0 ≤ R1 i ∧ R1 i ≤ 4294967295 := fun i _ => by
        rw [hR1]
        dsimp only
        repeat' split
        all_goals omega
      obtain ⟨s1, hs1⟩ : ∃ s : Mach, s = ⟨R1, 0, memZ bs⟩ := ⟨_, rfl⟩
      have hrs : w11.rowIs gx 36 17 (stV s1) := HR11.out.congr (fun j hj => by
        rw [hs1, hR1]
        rcases (show j = 0 ∨ j = 1 ∨ j = 2 ∨ j = 3 ∨ j = 4 ∨ j = 5 ∨ j = 6 ∨ j = 7 ∨ j = 8 ∨ j = 9 ∨ j = 10 ∨ j = 11 ∨ j = 12 ∨ j = 13 ∨ j = 14 ∨ j = 15 ∨ j = 16 by omega) with rfl | rfl | rfl | rfl | rfl | rfl | rfl | rfl | rfl | rfl | rfl | rfl | rfl | rfl | rfl | rfl | rfl <;> rfl)
      have hmw : MW w11 g gm gs base 2 gx a us v F s1 := MemW.mw (s := s1) (by rw [hs1]; exact HM.out.keep HB11.out) hrs (fun i hi => by rw [hs1]; exact hR i hi) (by rw [hs1]; exact ⟨Int.le_refl 0, (by decide : (0 : Int) ≤ 4294967295)⟩)
      have HMW := Lib.hid hmw
      have HRR := Lib.hid hR
      have HS1 := Lib.hid hs1
      have HGX := Lib.hid (Nat.le_trans HB.out.size GX.out)
      have hB11 := HB11.out
      have nHB := Lib.hid (HB.out.trans (hB11.mono HB.out.size))
      have nHSI := Lib.hid (HSI.out.keep hB11)
      clear HB HSI
      have HB := nHB; clear nHB
      have HSI := nHSI; clear nHSI
      clear hB11 hrs hmw hR hR1 hs1 hs0 HR11 HB11 HM GX fxr fsm hS0
      obtain ⟨X, hX⟩ : ∃ X, X = rowArr 16 (regC R1) := ⟨_, rfl⟩
      have HX := Lib.hid hX
      have HXS := Lib.hid (show (Try.prog.info? 34).map (·.size) = some X.size by rw [hX]; exact regs_size R1)
      clear hX
      have hsr : ∀ w', Below w11.heap.size w11 w' → w'.rowIs gx 36 17 (stV s1) := fun w' h => HMW.out.rw.of_block (h.block _ HMW.out.rw.lt)
      have HSR := Lib.hid hsr
      clear hsr
      have HLO := Lib.hid HMW.out.lo
      have hsR : ∀ j, j < 16 → stV s1 j = regC R1 j := fun j h => by rw [HS1.out]; exact stV_reg _ j h
      have HSJ := Lib.hid hsR
      clear hsR
      go_upto_region 25 with fail
      have hS0 : (fun w' : World => Below w11.heap.size w11 w') (World.drew w11) := drewb w11
      refine wp_region_held (S := fun w' => Below w11.heap.size w11 w') (by kernel_rfl) ?_
      change wpAnyH _ _ _ _ _ _ _ _ (World.drew _)
      refine takeH 0 (.pointer (some ⟨gx, 0, none⟩)) (some 105) rfl rfl (by kernel_rfl) (by kernel_rfl) (by kernel_rfl) (fun _ _ _ h => h) (.inl ⟨by kernel_rfl, fun w _ => by go_simp⟩) hS0 ?_
      refine takeH 1 (.pointer (some ⟨gx, 0, none⟩)) (some 106) rfl rfl (by kernel_rfl) (by kernel_rfl) (by kernel_rfl) (fun _ _ _ h => h) (.inl ⟨by kernel_rfl, fun w _ => by go_simp⟩) hS0 ?_
      refine takeH 2 (.pointer (some ⟨gx, 0, none⟩)) (some 107) rfl rfl (by kernel_rfl) (by kernel_rfl) (by kernel_rfl) (fun _ _ _ h => h) (.inl ⟨by kernel_rfl, fun w _ => by go_simp⟩) hS0 ?_
      go_simp
      refine takeH 3 (.agg X) (some 108) rfl rfl (by kernel_rfl) (by kernel_rfl) (by kernel_rfl) (fun _ _ _ h => h) (yi_piece (by kernel_rfl) 34 (.tmp 107) rfl gx 0 (by go_simp) X _ (fun w' hw j v hj => by rw [HX.out] at hj; obtain ⟨h1, rfl⟩ := rowArr_get _ _ _ _ hj; rw [Nat.zero_add, (HSR.out w' hw).cell (by omega), HSJ.out j h1]) Try.underlying34 rfl HXS.out) hS0 ?_
      go_simp
      refine takeH 5 (.slice (some ⟨NP, 0, none⟩) 4 4) (some 110) rfl rfl (by kernel_rfl) (by kernel_rfl) (by kernel_rfl) (fun _ _ _ h => h) (.inl ⟨by kernel_rfl, fun w _ => by go_simp⟩) hS0 ?_
      go_simp
      have hS7 : Below w11.heap.size w11 ((World.drew w11).alloc (.cells #[] 5)) := bnewAfter (drewb w11) _
      refine loudH 4 rfl (by kernel_rfl) (by kernel_rfl) (some 109) rfl (.slice (some ⟨w11.heap.size, 0, none⟩) 0 0) ((World.drew w11).alloc (.cells #[] 5)) (by go_simp) (fun w' => Below w11.heap.size w11 w') (fun _ h => h) hS7 ?_
      have hown7 : ((World.drew w11).alloc (.cells #[] 5)).ownsRow w11.heap.size 5 1 (.slice (some ⟨w11.heap.size, 0, none⟩) 0 0) 0 [] := World.ownsRow_lit (World.drew w11) #[] 0 (Nat.le_refl _) (by simp [maxLen]) rfl
      have hsz7 : w11.heap.size < ((World.drew w11).alloc (.cells #[] 5)).heap.size := by rw [World.size_alloc]; exact Nat.lt_succ_self _
      generalize ((World.drew w11).alloc (.cells #[] 5)) = w12 at *
      have hsb := (HSI.out.keep hS7).sr
      rw [HLEN.out] at hsb
      go_simp
      refine appendH2 6 rfl (by kernel_rfl) (by kernel_rfl) (some 111) rfl (.tmp 109) (.tmp 110) 38 32 5 rfl Try.underlying32 w11.heap.size 5 (.int .u8 0) 1 1 Try.underlying38 u8_rowI rfl (by omega) (.slice (some ⟨w11.heap.size, 0, none⟩) 0 0) (.slice (some ⟨NP, 0, none⟩) 4 4) 0 4 [] (bs.map (Value.int .u8)) (by go_simp) hown7 (by go_simp) hsb (ints_one _ _) (by simp only [maxLen]; omega) (by omega) (Nat.le_of_lt hsz7) ?_
      intro v8 w8 ho8 hg8
      have hS8 : Below w11.heap.size w11 w8 := hS7.grown hg8 hS7.size (fun j hj => by simp [Value.ownBlock] at hj; omega)
      have hsz8 := hg8.size
      refine ⟨fun w' => Below w11.heap.size w11 w', fun _ h => h, hS8, ?_⟩
      rw [Nat.zero_add, List.nil_append] at ho8
      obtain ⟨ad8, c8, rfl⟩ := own_form ho8
      have hob8 : ∀ j, Value.ownBlock (.slice ad8 4 c8) = some j → w11.heap.size ≤ j := fun j hj => by obtain ⟨h, _⟩ := own_blk ho8 hj; exact h
      clear hown7 hsb hS7 hg8
      go_simp
      refine appendMakeH 7 rfl (by kernel_rfl) (by kernel_rfl) (some 112) rfl (.tmp 111) (.const (.int .i64 124)) 38 3 rfl w11.heap.size 5 Try.underlying38 Try.underlying3 u8_rowI (.slice ad8 4 c8) 4 124 (bs.map (Value.int .u8)) (by go_simp) ho8 (by go_simp) (by simp only [maxLen]; omega) (by omega) hS8.size ?_
      intro v9 w9 ho9 hg9
      have hS9 : Below w11.heap.size w11 w9 := hS8.grown hg9 hS8.size hob8
      have hsz9 := hg9.size
      refine ⟨fun w' => Below w11.heap.size w11 w', fun _ h => h, hS9, ?_⟩
      rw [show 4 + 124 = 64 * 2 from rfl, nul8_u8, ← List.map_append] at ho9
      obtain ⟨A9, cap9, gb, N9, rfl, hbw, hcp1, hcp2, hcp3, hgb1, hgb2⟩ := own_mem ho9 (fun z hz => by rcases List.mem_append.1 hz with h | h; exact HBZ.out z h; rw [List.eq_of_mem_replicate h]; exact ⟨by decide, by decide⟩) (by omega) (by omega)
      rw [memZ_pad] at hbw
      clear ho8 ho9 hS8 hg9 hob8 hsz8 hsz7
      obtain ⟨Y2, hY2⟩ : ∃ Y2, Y2 = rowArr 18 (cpV s1 (.slice A9 (64 * 2) cap9)) := ⟨_, rfl⟩
      have HY2 := Lib.hid hY2
      have HBD := Lib.hid (show Try.prog.built 40 [(0, .agg X), (2, .slice A9 128 cap9)] = some Y2 by rw [HX.out, hY2, HS1.out]; exact built_doc R1 (memZ bs) A9 (64 * 2) cap9)
      clear hY2
      go_simp
      refine takeH 8 (.agg Y2) (some 113) rfl rfl (by kernel_rfl) (by kernel_rfl) (by kernel_rfl) (fun _ _ _ h => h) (yi_build (by kernel_rfl) 40 _ rfl Y2 (by go_simp; exact HBD.out)) hS9 ?_
      have hS10 : Below w11.heap.size w11 (w9.alloc (.cells Y2 40)) := bnewAfter hS9 _
      refine loudH 9 rfl (by kernel_rfl) (by kernel_rfl) (some 114) rfl (.pointer (some ⟨w9.heap.size, 0, none⟩)) (w9.alloc (.cells Y2 40)) (exec_boxD rfl (by go_simp) _) (fun w' => Below w11.heap.size w11 w') (fun _ h => h) hS10 ?_
      have hrw10 : (w9.alloc (.cells Y2 40)).rowIs w9.heap.size 40 18 (cpV s1 (.slice A9 (64 * 2) cap9)) := rowIs_of_arr (by rw [← HY2.out]; exact heap_alloc_last w9 _)
      have hbw10 := hbw.keep (bnew w9 (.cells Y2 40))
      have hle9 := hS9.size
      obtain ⟨gy, hgy⟩ : ∃ k, k = w9.heap.size := ⟨_, rfl⟩
      rw [← hgy] at hrw10 hle9 hgb2 ⊢
      generalize (w9.alloc (.cells Y2 40)) = w10 at *
      clear hbw hS9 hgy hsz9
      go_simp
      refine takeH 10 (.pointer (some ⟨gy, 0, none⟩)) (some 14) rfl rfl (by kernel_rfl) (by kernel_rfl) (by kernel_rfl) (fun _ _ _ h => h) (.inl ⟨by kernel_rfl, fun w _ => by go_simp⟩) hS10 ?_
      refine wpAnyH_done (by kernel_rfl) ?_ _
      go_simp
      rw [HS1.out] at hrw10
      have hdw : DW w10 gy gb N9 2 A9 cap9 s1 := by rw [HS1.out]; exact DW.new hrw10 hbw10 HRR.out hcp1 (by omega)
      have HD := Lib.hid hdw
      have HMn := Lib.hid (HMW.out.keep hS10)
      have HBn := Lib.hid (HB.out.trans (hS10.mono HB.out.size))
      have HGY := Lib.hid (And.intro hle9 (And.intro hgb1 hgb2))
      have HCP := Lib.hid (And.intro hcp2 hcp3)
      obtain ⟨C, hC⟩ : ∃ C, C = w11.heap.size := ⟨_, rfl⟩
      have HC0 := Lib.hid HB.out.size
      rw [← hC] at HLO HGY HC0
      clear HB hC hS10 hrw10 hbw10 hdw hle9 hgb1 hgb2 hcp1 hcp2 hcp3 HMW HSR HBD HX HXS HY2 HS1 HSI HRR HSJ HBZ HLEN
      have HB := HBn
      have HM := HMn
      clear HBn HMn hS0
      go_wp2_with fail
      have hrun := run_in HM.out 1 (by omega)
      unfold RunP at hrun
      obtain ⟨s2, yy, m, d, hr, hy2⟩ := runM_le (st := stI 2) 1 s1
      have HR := Lib.hid hr
      rw [hr] at hrun
      refine hrun.mono ?_
      rintro e wa ⟨rfl, ⟨F2, hma⟩, hca⟩
      clear hrun hr
      have hgy := HGY.out
      have HBn := Lib.hid (Chg.go HB.out hca (fun k hk => by rcases hk with rfl | rfl | rfl; exact HGX.out; exact HG.out.1; exact HG.out.2) HB.out.size)
      have HDn := Lib.hid (HD.out.chg hca (HLO.out.not hgy.1) (HLO.out.not hgy.2.1))
      have HMn := Lib.hid hma
      have HGL := Lib.hid (Nat.lt_of_lt_of_le HD.out.rw.lt hca.size)
      clear HB HD HM hma hca
      have HB := HBn
      have HD := HDn
      have HM := HMn
      clear HBn HDn HMn
      unfold endA
      have hbwb := bnew wa (.cells #[.int .u8 (yy : Nat), .int .i64 (m : Nat), .int .i64 (d : Nat)] 43)
      have hlwb := heap_alloc_last wa (.cells #[.int .u8 (yy : Nat), .int .i64 (m : Nat), .int .i64 (d : Nat)] 43)
      have nHB := Lib.hid (HB.out.trans (hbwb.mono HB.out.size))
      have nHD := Lib.hid (HD.out.keep hbwb)
      have nHM := Lib.hid (HM.out.keep hbwb)
      clear HB HD HM
      have HB := nHB; clear nHB
      have HD := nHD; clear nHD
      have HM := nHM; clear nHM
      have HE := Lib.hid (hlwb)
      clear hbwb hlwb
      go_upto_region 27 with fail
      obtain ⟨NE, hNE⟩ : ∃ k, k = wa.heap.size := ⟨_, rfl⟩
      rw [← hNE] at HE ⊢
      generalize wa.alloc (.cells #[.int .u8 (yy : Nat), .int .i64 (m : Nat), .int .i64 (d : Nat)] 43) = wb at *
      have GNE := Lib.hid (Nat.le_of_eq hNE.symm)
      clear hNE
      have HNE := Lib.hid (Nat.lt_of_lt_of_le HGL.out GNE.out)
      clear HGL
      go_wp2_with fail
      have hrun := refRun_in HD.out 1 (by omega)
      unfold RunQ runA at hrun
      rw [HR.out] at hrun
      refine hrun.mono ?_
      rintro e wc2 ⟨rfl, hdc, hcc⟩
      clear hrun
      have hnE := HNE.out
      have HBn := Lib.hid (Chg.go HB.out hcc (fun k hk => by have := HC0.out; rcases hk with rfl | rfl; exact Nat.le_trans this hgy.1; exact Nat.le_trans this hgy.2.1) HB.out.size)
      have HMn := Lib.hid (HM.out.hi HLO.out hcc (fun k hk => by rcases hk with rfl | rfl; exact hgy.1; exact hgy.2.1))
      have HEn := Lib.hid (hcc.blk HE.out (fun h => by rcases h with h | h <;> omega))
      clear HB HD HM HE hcc
      have HB := HBn
      have HD := Lib.hid hdc
      have HM := HMn
      have HE := HEn
      clear HBn HMn HEn hdc
      have hcE := rowcell HE.out
      have y255 : (yy : Int) ≤ 255 := by omega
      go_wp2_with fail
      refine (same_in HM.out HD.out (HD.out.si HCP.out.2 HCP.out.1)).mono ?_
      rintro e wd ⟨rfl, hbd2⟩
      clear hcE
      have nHB := Lib.hid (HB.out.trans (hbd2.mono HB.out.size))
      clear HB
      have HB := nHB; clear nHB
      clear hbd2
      go_wp2_with fail
      go_ret
      exact ⟨rfl, HB.out⟩
end Go.Proofs.Ytapcbfeifeobhaa
