/- The rule's monitor: New, Judge, Keeps, Flows. -/
import Derived.Test.YtlclainjefchlaaConH
set_option linter.unusedVariables false
set_option linter.unusedSimpArgs false
namespace Go.Proofs.Ytlclainjefchlaa
open Go.RowKit

def okAct (rs : List RegL) (s c o : Int) (t : Bool) (x : Int) : Bool :=
  if x = 0 then leqI rs o s else if x = 1 ∨ x = 2 then decide (s = o) else if x = 3 ∨ x = 4 then leqI rs s o else if x = 5 then leqI rs s o && leqI rs o c else if x = 6 then t && leqI rs o s else false
def judgeI (rs : List RegL) (s c o : Int) (t : Bool) (x : Int) : Int :=
  if inB s rs.length = true ∧ inB o rs.length = true ∧ 0 ≤ x ∧ x < 7 then (if okAct rs s c o t x = true then 0 else 2) else 27

theorem monLoad (w : World) (a : Option Addr) : (loadVar 38 ⟨w.heap.size, 0, none⟩).run Try.prog (w.alloc (.cells #[.pointer a] 38)) = .ok (.agg #[.pointer a]) (w.alloc (.cells #[.pointer a] 38)) :=
  run_loadVar_piece _ 38 w.heap.size 0 #[.pointer a] _ (fun j v hv => by rw [Nat.zero_add, rowcell (heap_alloc_last w _)]; simpa using hv) Try.underlying38 rfl (by kernel_rfl)
set_option maxHeartbeats 2000000 in
theorem ruleNew_in (w : World) (a : Option Addr) : Calls Try.prog 16 #[.pointer a] w fun e w' => e = .returned (.agg #[.pointer a]) ∧ Below w.heap.size w w' := by
  go_enter Try.func16, Try.ntmps16
  go_wp2_with fail
  have hrun := monLoad w a
  exact bodyPost_ret (v := .agg #[.pointer a]) (by simp [results, Try.results16, Act.put, asAddr, hrun]) rfl ⟨rfl, bnew _ _⟩

set_option maxRecDepth 20000 in
set_option maxHeartbeats 8000000 in
theorem judge_in {w0 w : World} {a : Option Addr} {rs : List RegL} (hp : ConfP w0 a rs) (hb : Below w0.heap.size w0 w) (s c o : Int) (t : Bool) (x : Int) (hx0 : 0 ≤ x) (hx1 : x ≤ 255) :
    Calls Try.prog 18 #[.agg #[.pointer a], .agg #[.int .i64 s, .int .i64 c, .int .i64 o, .bool t, .int .u8 x]] w fun e w' => e = .returned (.int .i64 (judgeI rs s c o t x)) ∧ Below w.heap.size w w' := by
  have HP := Lib.hid (hp.keep hb)
  clear hp hb
  have hm := heap_alloc_last w (.cells #[.pointer a] 38)
  have ha := heap_alloc_last (w.alloc (.cells #[.pointer a] 38)) (.cells #[.int .i64 s, .int .i64 c, .int .i64 o, .bool t, .int .u8 x] 29)
  rw [show (w.alloc (.cells #[.pointer a] 38)).heap.size = w.heap.size + 1 by simp] at ha
  have hm' := bkeep (bnew (w.alloc (.cells #[.pointer a] 38)) (.cells #[.int .i64 s, .int .i64 c, .int .i64 o, .bool t, .int .u8 x] 29)) hm
  have hbw : Below w.heap.size w ((w.alloc (.cells #[.pointer a] 38)).alloc (.cells #[.int .i64 s, .int .i64 c, .int .i64 o, .bool t, .int .u8 x] 29)) := bnewAfter (bnew _ _) _
  clear hm
  go_enter Try.func18, Try.ntmps18
  go_wp2_with fail
  generalize (w.alloc (.cells #[.pointer a] 38)).alloc (.cells #[.int .i64 s, .int .i64 c, .int .i64 o, .bool t, .int .u8 x] 29) = w1 at *
  refine (HP.out.reg _ hbw s).mono ?_; rintro e w2 ⟨r1, rfl, _, hb2⟩
  have hb2' := bnext hbw hb2
  have HM2 := bkeep hb2 hm'
  have HA2 := bkeep hb2 ha
  unfold regV regArr
  cases hs : inB s rs.length with
  | false =>
    have HBB := Lib.hid (show judgeI rs s c o t x = 27 by simp [judgeI, hs])
    have HB2 := Lib.hid hb2'
    clear hb2 hb2' hbw hm' ha HP
    go_wp2_with fail
    go_ret
    exact ⟨ret_int (by rw [HBB.out]), bnewAfter HB2.out _⟩
  | true =>
    have hb3 : Below w2.heap.size w2 (w2.alloc (.cells #[.string r1.name, .int .u8 r1.lab.1, .int .u16 r1.lab.2, .int .i64 r1.bl, .int .i64 r1.no, .int .i64 r1.fr, .int .i64 r1.pr, .int .i64 r1.op, .int .i64 r1.cl] 58)) := bnew _ _
    have HB3 := Lib.hid (bnext hb2' hb3)
    have HM3 := Lib.hid (bkeep hb3 HM2)
    have HA3 := Lib.hid (bkeep hb3 HA2)
    have c1 := rowcell HM3.out
    have c2 := rowcell HA3.out
    clear hb2 hb2' hbw hm' ha hb3 HM2 HA2
    go_wp2_with fail
    generalize w2.alloc (.cells #[.string r1.name, .int .u8 r1.lab.1, .int .u16 r1.lab.2, .int .i64 r1.bl, .int .i64 r1.no, .int .i64 r1.fr, .int .i64 r1.pr, .int .i64 r1.op, .int .i64 r1.cl] 58) = w3 at *
    refine (HP.out.reg _ HB3.out o).mono ?_; rintro e w4 ⟨r2, rfl, _, hb4⟩
    unfold regV regArr
    have HB4 := Lib.hid (bnext HB3.out hb4)
    have HM4 := Lib.hid (bkeep hb4 HM3.out)
    have HA4 := Lib.hid (bkeep hb4 HA3.out)
    clear hb4 HM3 HA3 HB3 c1 c2
    have hb5 : Below w4.heap.size w4 (w4.alloc (.cells #[.string r2.name, .int .u8 r2.lab.1, .int .u16 r2.lab.2, .int .i64 r2.bl, .int .i64 r2.no, .int .i64 r2.fr, .int .i64 r2.pr, .int .i64 r2.op, .int .i64 r2.cl] 58)) := bnew _ _
    have HB5 := Lib.hid (bnext HB4.out hb5)
    have HM5 := Lib.hid (bkeep hb5 HM4.out)
    have HA5 := Lib.hid (bkeep hb5 HA4.out)
    have c1 := rowcell HM5.out
    have c2 := rowcell HA5.out
    clear hb5 HM4 HA4 HB4
    cases ho : inB o rs.length with
    | false =>
      have HBB := Lib.hid (show judgeI rs s c o t x = 27 by simp [judgeI, ho])
      clear HP
      go_wp2_with fail
      go_ret
      exact ⟨ret_int (by rw [HBB.out]), HB5.out⟩
    | true =>
      by_cases h7 : 7 ≤ x
      · have HBB := Lib.hid (show judgeI rs s c o t x = 27 by rw [judgeI, if_neg (by omega)])
        clear HP
        go_wp2_with fail
        go_ret
        exact ⟨ret_int (by rw [HBB.out]), HB5.out⟩
      · have HBB := Lib.hid (show judgeI rs s c o t x = if okAct rs s c o t x = true then 0 else 2 by rw [judgeI, if_pos ⟨hs, ho, hx0, by omega⟩])
        go_wp2_with fail
        generalize w4.alloc (.cells #[.string r2.name, .int .u8 r2.lab.1, .int .u16 r2.lab.2, .int .i64 r2.bl, .int .i64 r2.no, .int .i64 r2.fr, .int .i64 r2.pr, .int .i64 r2.op, .int .i64 r2.cl] 58) = w5 at *
        refine (HP.out.leq _ HB5.out o s).mono ?_; rintro e w6 ⟨rfl, hb6⟩
        have HB6 := Lib.hid (bnext HB5.out hb6)
        have HM6 := Lib.hid (bkeep hb6 HM5.out)
        have HA6 := Lib.hid (bkeep hb6 HA5.out)
        clear hb6 HM5 HA5 HB5 c1 c2
        have c1 := rowcell HM6.out
        have c2 := rowcell HA6.out
        go_wp2_with fail
        refine (HP.out.leq _ HB6.out s o).mono ?_; rintro e w7 ⟨rfl, hb7⟩
        have HB7 := Lib.hid (bnext HB6.out hb7)
        have HM7 := Lib.hid (bkeep hb7 HM6.out)
        have HA7 := Lib.hid (bkeep hb7 HA6.out)
        clear hb7 HM6 HA6 HB6 c1 c2
        have c1 := rowcell HM7.out
        have c2 := rowcell HA7.out
        obtain ⟨d, hd⟩ : ∃ d, d = leqI rs o s := ⟨_, rfl⟩
        obtain ⟨u, hu⟩ : ∃ u, u = leqI rs s o := ⟨_, rfl⟩
        have HD := Lib.hid hd
        have HU := Lib.hid hu
        rw [← hd, ← hu]
        clear hd hu
        have hk : x = 0 ∨ x = 1 ∨ x = 2 ∨ x = 3 ∨ x = 4 ∨ x = 5 ∨ x = 6 := by omega
        rcases hk with rfl | rfl | rfl | rfl | rfl | rfl | rfl
        · cases d
          · go_wp2_with fail
            go_ret
            exact ⟨ret_int (by rw [HBB.out]; simp [okAct, ← HD.out]), HB7.out⟩
          · go_wp2_with fail
            go_ret
            exact ⟨ret_int (by rw [HBB.out]; simp [okAct, ← HD.out]), HB7.out⟩
        · by_cases hso : s = o
          · subst hso
            go_wp2_with fail
            go_ret
            exact ⟨ret_int (by rw [HBB.out]; simp [okAct]), HB7.out⟩
          · have hso' : (s == o) = false := by rw [beq_eq_false_iff_ne]; exact hso
            go_wp2_with fail
            go_ret
            exact ⟨ret_int (by rw [HBB.out]; simp [okAct, hso]), HB7.out⟩
        · by_cases hso : s = o
          · subst hso
            go_wp2_with fail
            go_ret
            exact ⟨ret_int (by rw [HBB.out]; simp [okAct]), HB7.out⟩
          · have hso' : (s == o) = false := by rw [beq_eq_false_iff_ne]; exact hso
            go_wp2_with fail
            go_ret
            exact ⟨ret_int (by rw [HBB.out]; simp [okAct, hso]), HB7.out⟩
        · cases u
          · go_wp2_with fail
            go_ret
            exact ⟨ret_int (by rw [HBB.out]; simp [okAct, ← HU.out]), HB7.out⟩
          · go_wp2_with fail
            go_ret
            exact ⟨ret_int (by rw [HBB.out]; simp [okAct, ← HU.out]), HB7.out⟩
        · cases u
          · go_wp2_with fail
            go_ret
            exact ⟨ret_int (by rw [HBB.out]; simp [okAct, ← HU.out]), HB7.out⟩
          · go_wp2_with fail
            go_ret
            exact ⟨ret_int (by rw [HBB.out]; simp [okAct, ← HU.out]), HB7.out⟩
        · cases u
          · go_wp2_with fail
            go_ret
            exact ⟨ret_int (by rw [HBB.out]; simp [okAct, ← HU.out]), HB7.out⟩
          · go_wp2_with fail
            refine (HP.out.leq _ HB7.out o c).mono ?_; rintro e w8 ⟨rfl, hb8⟩
            have HB8 := Lib.hid (bnext HB7.out hb8)
            clear hb8
            obtain ⟨q, hq⟩ : ∃ q, q = leqI rs o c := ⟨_, rfl⟩
            have HQ := Lib.hid hq
            rw [← hq]
            clear hq
            cases q
            · go_wp2_with fail
              go_ret
              exact ⟨ret_int (by rw [HBB.out]; simp [okAct, ← HU.out, ← HQ.out]), HB8.out⟩
            · go_wp2_with fail
              go_ret
              exact ⟨ret_int (by rw [HBB.out]; simp [okAct, ← HU.out, ← HQ.out]), HB8.out⟩
        · cases t <;> cases d
          · go_wp2_with fail
            go_ret
            exact ⟨ret_int (by rw [HBB.out]; simp [okAct]), HB7.out⟩
          · go_wp2_with fail
            go_ret
            exact ⟨ret_int (by rw [HBB.out]; simp [okAct]), HB7.out⟩
          · go_wp2_with fail
            go_ret
            exact ⟨ret_int (by rw [HBB.out]; simp [okAct, ← HD.out]), HB7.out⟩
          · go_wp2_with fail
            go_ret
            exact ⟨ret_int (by rw [HBB.out]; simp [okAct, ← HD.out]), HB7.out⟩
end Go.Proofs.Ytlclainjefchlaa
