/- The law OpsBytes: its walk. -/
import Derived.Test.YtbdcbkmacpameaaOpsC
namespace Go.Proofs.Ytbdcbkmacpameaa
open Go.RowKit


theorem Arg.u8x4 {W : World} {v : Value} (o : Arg Try.prog W 29 v) : ∃ a b c d : Int, v = .agg #[.int .u8 a, .int .u8 b, .int .u8 c, .int .u8 d] ∧ (0 ≤ a ∧ a ≤ 255) ∧ (0 ≤ b ∧ b ≤ 255) ∧ (0 ≤ c ∧ c ≤ 255) ∧ (0 ≤ d ∧ d ≤ 255) := by
  obtain ⟨cs, rfl, _, n, hn⟩ := Arg.array Try.underlying29 o
  obtain ⟨zs, hl, hz, hw⟩ := Okay.ints Try.underlying29 Try.underlying5 (by kernel_rfl) (by kernel_rfl) hn
  match zs, hl with
  | [a, b, c, d], _ =>
    have e : cs = #[.int .u8 a, .int .u8 b, .int .u8 c, .int .u8 d] := Array.toList_inj.1 (by rw [hz]; rfl)
    exact ⟨a, b, c, d, by rw [e], wf_u8 (hw a (by simp)), wf_u8 (hw b (by simp)), wf_u8 (hw c (by simp)), wf_u8 (hw d (by simp))⟩


/-- Four bytes are as they are. -/
theorem eqArr4 (a b c d : Int) (ha : 0 ≤ a ∧ a ≤ 255) (hb : 0 ≤ b ∧ b ≤ 255) (hc : 0 ≤ c ∧ c ≤ 255) (hd : 0 ≤ d ∧ d ≤ 255) (w : World) :
    (Op.equalIn 10000 29 (.agg #[.int .u8 a, .int .u8 b, .int .u8 c, .int .u8 d]) (.agg #[.int .u8 a, .int .u8 b, .int .u8 c, .int .u8 d])).run Try.prog w = .ok true w := by
  have hw : ∀ z ∈ [a, b, c, d], (Lit.int .u8 z).wf = true := by
    intro z hz
    simp at hz
    rcases hz with rfl | rfl | rfl | rfl <;> exact u8_wf ‹_›
  have := equal_ints (w := w) (P := Try.prog) Try.underlying29 Try.underlying5 (by kernel_rfl) (by kernel_rfl) (xs := [a, b, c, d]) (ys := [a, b, c, d]) rfl rfl hw hw
  rwa [decide_eq_true rfl] at this

theorem keyLits_instr (a b c d : Int) (ha : 0 ≤ a ∧ a ≤ 255) (hb : 0 ≤ b ∧ b ≤ 255) (hc : 0 ≤ c ∧ c ≤ 255) (hd : 0 ≤ d ∧ d ≤ 255) :
    Try.prog.keyLits 2 33 [.int .u8 a, .int .u8 b, .int .u8 c, .int .u8 d] = some [.int .u8 a, .int .u8 b, .int .u8 c, .int .u8 d] := by
  have e : ∀ t, Try.prog.underlying t = some (.int .u8) → ∀ x : Int, 0 ≤ x ∧ x ≤ 255 → Try.prog.keyLits 1 t [.int .u8 x] = some [.int .u8 x] := fun t ht x hx => by simp [Program.keyLits, ht, u8_wf hx]
  have z1 : Try.prog.cellsOf 33 = 4 := by kernel_rfl
  have z2 : Try.prog.cellsOf 23 = 1 := by kernel_rfl
  have z3 : Try.prog.cellsOf 5 = 1 := by kernel_rfl
  unfold Program.keyLits
  simp [Try.underlying33, z1, z2, z3, e _ Try.underlying23 a ha, e _ Try.underlying5 b hb, e _ Try.underlying5 c hc, e _ Try.underlying5 d hd]

theorem formed_instr (a b c d : Int) : (Value.agg #[.int .u8 a, .int .u8 b, .int .u8 c, .int .u8 d]).formed Try.prog 33 = true := by
  have z1 : Try.prog.cellsOf 33 = 4 := by kernel_rfl
  simp [Value.formed, Try.underlying33, z1]

/-- An instruction is as it is. -/
theorem eqInstr (a b c d : Int) (ha : 0 ≤ a ∧ a ≤ 255) (hb : 0 ≤ b ∧ b ≤ 255) (hc : 0 ≤ c ∧ c ≤ 255) (hd : 0 ≤ d ∧ d ≤ 255) (w : World) :
    (Op.equalIn 10000 33 (.agg #[.int .u8 a, .int .u8 b, .int .u8 c, .int .u8 d]) (.agg #[.int .u8 a, .int .u8 b, .int .u8 c, .int .u8 d])).run Try.prog w = .ok true w :=
  equal_key 2 (by omega) (by kernel_rfl) (formed_instr a b c d) (formed_instr a b c d) (keyLits_instr a b c d ha hb hc hd) (keyLits_instr a b c d ha hb hc hd) (by simp)

theorem calls_int {f : FuncId} {args : Array Value} {w : World} {k : IntKind} {x y : Int} (h : x = y) (c : Calls Try.prog f args w fun e w' => e = .returned (.int k x) ∧ Below w.heap.size w w') :
    Calls Try.prog f args w fun e w' => e = .returned (.int k y) ∧ Below w.heap.size w w' := by rw [← h]; exact c

theorem opsWord_sum (a b c d : Int) (ha : 0 ≤ a) (ha' : a ≤ 255) (hb : 0 ≤ b) (hb' : b ≤ 255) (hc : 0 ≤ c) (hc' : c ≤ 255) (hd : 0 ≤ d) (hd' : d ≤ 255) (w : World) :
    Calls Try.prog 22 #[.agg #[.int .u8 a, .int .u8 b, .int .u8 c, .int .u8 d]] w fun e w' =>
      e = .returned (.int .u32 (((d * 256 + c) * 256 + b) * 256 + a)) ∧ Below w.heap.size w w' :=
  calls_int (by omega) (opsWord_any a b c d ha ha' hb hb' hc hc' hd hd' w)
theorem opsWord_bytes (n : Int) (h0 : 0 ≤ n) (h1 : n ≤ 4294967295) (w : World) :
    Calls Try.prog 22 #[.agg #[.int .u8 (n % 256), .int .u8 (n / 256 % 256), .int .u8 (n / 65536 % 256), .int .u8 (n / 16777216 % 256)]] w fun e w' =>
      e = .returned (.int .u32 n) ∧ Below w.heap.size w w' :=
  calls_int (by omega) (opsWord_any _ _ _ _ (by omega) (by omega) (by omega) (by omega) (by omega) (by omega) (by omega) (by omega) w)
theorem opsBytes_sum (a b c d : Int) (ha : 0 ≤ a) (ha' : a ≤ 255) (hb : 0 ≤ b) (hb' : b ≤ 255) (hc : 0 ≤ c) (hc' : c ≤ 255) (hd : 0 ≤ d) (hd' : d ≤ 255) (w : World) :
    Calls Try.prog 23 #[.int .u32 (((d * 256 + c) * 256 + b) * 256 + a)] w fun e w' =>
      e = .returned (.agg #[.int .u8 a, .int .u8 b, .int .u8 c, .int .u8 d]) ∧ Below w.heap.size w w' := by
  have := opsBytes_any (((d * 256 + c) * 256 + b) * 256 + a) (by omega) (by omega) w
  rwa [show (((d * 256 + c) * 256 + b) * 256 + a) % 256 = a by omega, show (((d * 256 + c) * 256 + b) * 256 + a) / 256 % 256 = b by omega, show (((d * 256 + c) * 256 + b) * 256 + a) / 65536 % 256 = c by omega,
    show (((d * 256 + c) * 256 + b) * 256 + a) / 16777216 % 256 = d by omega] at this
theorem opsWide_set (a b m : Int) (h0 : 0 ≤ m) (h1 : m ≤ 65535) (w : World) :
    Calls Try.prog 24 #[.agg #[.int .u8 a, .int .u8 b, .int .u8 (m % 256), .int .u8 (m / 256)]] w fun e w' => e = .returned (.int .u16 m) ∧ Below w.heap.size w w' :=
  calls_int (by omega) (opsWide_any _ _ _ _ (by omega) (by omega) (by omega) (by omega) w)
theorem opsJump_lo (a b c d : Int) (hc : 0 ≤ c) (hc' : c ≤ 255) (hd : 0 ≤ d) (h : d ≤ 127) (w : World) :
    Calls Try.prog 25 #[.agg #[.int .u8 a, .int .u8 b, .int .u8 c, .int .u8 d]] w fun e w' => e = .returned (.int .i64 (c + 256 * d)) ∧ Below w.heap.size w w' :=
  calls_int (by unfold jump; rw [if_pos (by omega)]) (opsJump_any a b c d hc hc' hd (by omega) w)
theorem opsJump_hi (a b c d : Int) (hc : 0 ≤ c) (hc' : c ≤ 255) (hd : d ≤ 255) (h : 127 < d) (w : World) :
    Calls Try.prog 25 #[.agg #[.int .u8 a, .int .u8 b, .int .u8 c, .int .u8 d]] w fun e w' => e = .returned (.int .i64 (c + 256 * d - 65536)) ∧ Below w.heap.size w w' :=
  calls_int (by unfold jump; rw [if_neg (by omega)]) (opsJump_any a b c d hc hc' (by omega) (by omega) w)
theorem opsNear_lo (a b c d : Int) (hd : 0 ≤ d) (h : d ≤ 127) (w : World) :
    Calls Try.prog 26 #[.agg #[.int .u8 a, .int .u8 b, .int .u8 c, .int .u8 d]] w fun e w' => e = .returned (.int .i32 d) ∧ Below w.heap.size w w' :=
  calls_int (by unfold near; rw [if_pos (by omega)]) (opsNear_any a b c d hd (by omega) w)
theorem opsNear_hi (a b c d : Int) (hd : d ≤ 255) (h : 127 < d) (w : World) :
    Calls Try.prog 26 #[.agg #[.int .u8 a, .int .u8 b, .int .u8 c, .int .u8 d]] w fun e w' => e = .returned (.int .i32 (d - 256)) ∧ Below w.heap.size w w' :=
  calls_int (by unfold near; rw [if_neg (by omega)]) (opsNear_any a b c d (by omega) hd w)

set_option maxHeartbeats 1000000 in
theorem opsBytes_walk (W : World) (v0 v1 v2 : Value) (o0 : Arg Try.prog W 29 v0) (o1 : Arg Try.prog W 30 v1) (o2 : Arg Try.prog W 31 v2) :
    Calls Try.prog 4 #[v0, v1, v2] W fun e w' => e = .returned (.bool true) ∧ Below W.heap.size W w' := by
  obtain ⟨a, b, c, d, rfl, ⟨ha, ha'⟩, ⟨hbl, hbu⟩, ⟨hc, hc'⟩, ⟨hd, hd'⟩⟩ := Arg.u8x4 o0
  obtain ⟨n, rfl, hn⟩ := Arg.int Try.underlying30 o1
  obtain ⟨m, rfl, hm⟩ := Arg.int Try.underlying31 o2
  obtain ⟨hn0, hn1⟩ := wf_u32 hn
  obtain ⟨hm0, hm1⟩ := wf_u16 hm
  clear o0 o1 o2 hn hm
  go_enter Try.func4, Try.ntmps4
  go_wp2_with fail
  go_at_call 15; refine (opsAwake_any _).mono ?_; rintro e w1 ⟨rfl, hb1⟩
  have B1 := bkeep hb1 (heap_alloc_last _ _)
  have hB := bnext (bnew _ _) hb1
  clear hb1
  have c1 := rowcell B1
  go_wp2_with fail
  go_at_call 19; refine (opsUnpack_any _ _ _ _ _).mono ?_; rintro e w2 ⟨rfl, hb2⟩
  replace B1 := bkeep hb2 B1
  replace hB := bnext hB hb2
  have z2 := rowlt B1
  clear hb2 c1
  have c2 := rowcell B1
  go_wp2_with fail
  go_rounds 5
  go_quiet (fail)
  have B2 : ((w2.alloc (Obj.cells #[Value.int IntKind.u8 a, Value.int IntKind.u8 b, Value.int IntKind.u8 c, Value.int IntKind.u8 d] 33)).drewN nq).heap[w2.heap.size]? = _ := heap_alloc_last _ _
  replace B1 : ((w2.alloc (Obj.cells #[Value.int IntKind.u8 a, Value.int IntKind.u8 b, Value.int IntKind.u8 c, Value.int IntKind.u8 d] 33)).drewN nq).heap[W.heap.size]? = _ := bkeep (bdrewN (bnew w2 _) nq) B1
  replace hB : Below W.heap.size W ((w2.alloc (Obj.cells #[Value.int IntKind.u8 a, Value.int IntKind.u8 b, Value.int IntKind.u8 c, Value.int IntKind.u8 d] 33)).drewN nq) := bdrewN (bnewAfter hB _) nq
  clear c2 z2
  generalize hw3 : ((w2.alloc (Obj.cells #[Value.int IntKind.u8 a, Value.int IntKind.u8 b, Value.int IntKind.u8 c, Value.int IntKind.u8 d] 33)).drewN nq) = w3 at *
  clear hw3
  generalize w2.heap.size = g2 at *
  have c1 := rowcell B1
  have c2 := rowcell B2
  have z1 := rowlt B1
  have z2 := rowlt B2
  go_wp2_with fail
  all_goals clear c1 z1 c2 z2
  all_goals (go_at_call 20; refine (opsSetWide_any _ _ _ _ _ (by omega) (by omega) _).mono ?_; rintro e w4 ⟨rfl, hb⟩; replace B1 := bkeep hb B1; replace B2 := bkeep hb B2; replace hB := bnext hB hb; clear hb)
  all_goals (have c1 := rowcell B1; have z1 := rowlt B1; have c2 := rowcell B2; have z2 := rowlt B2)
  all_goals go_wp2_with fail
  all_goals (replace B1 := bkeep (bnew w4 (Obj.cells #[Value.int IntKind.u8 a, Value.int IntKind.u8 b, Value.int IntKind.u8 (m % 256), Value.int IntKind.u8 (m / 256)] 33)) B1; replace B2 := bkeep (bnew w4 (Obj.cells #[Value.int IntKind.u8 a, Value.int IntKind.u8 b, Value.int IntKind.u8 (m % 256), Value.int IntKind.u8 (m / 256)] 33)) B2; have B3 := heap_alloc_last w4 (Obj.cells #[Value.int IntKind.u8 a, Value.int IntKind.u8 b, Value.int IntKind.u8 (m % 256), Value.int IntKind.u8 (m / 256)] 33); replace hB := bnewAfter hB (Obj.cells #[Value.int IntKind.u8 a, Value.int IntKind.u8 b, Value.int IntKind.u8 (m % 256), Value.int IntKind.u8 (m / 256)] 33))
  all_goals clear c1 z1 c2 z2
  all_goals
    have q1 := fun d os => rowcell (regrown_keep B1 d os)
    have q2 := fun d os => rowcell (regrown_keep B2 d os)
    have q3 := fun d os => rowcell (regrown_keep B3 d os)
    clear B1 B2 B3
    generalize w4.alloc (Obj.cells #[Value.int IntKind.u8 a, Value.int IntKind.u8 b, Value.int IntKind.u8 (m % 256), Value.int IntKind.u8 (m / 256)] 33) = w5 at *
    generalize w4.heap.size = g3 at *
    refine wp_region_quiet_below (by kernel_rfl) (by kernel_rfl) ?_
    simp only [List.append]
    have f1 := eqArr4 a b c d ⟨ha, ha'⟩ ⟨hbl, hbu⟩ ⟨hc, hc'⟩ ⟨hd, hd'⟩
    have f2 := eqInstr a b c d ⟨ha, ha'⟩ ⟨hbl, hbu⟩ ⟨hc, hc'⟩ ⟨hd, hd'⟩
    repeat (go_big_quiet_step (first
          | (go_at_call 21; exact Calls.regrown_of (opsPack_any _ _ _ _ _))
          | (go_at_call 22; with_reducible exact Calls.regrown_of (opsWord_sum a b c d ha ha' hbl hbu hc hc' hd hd' _))
          | (go_at_call 22; with_reducible exact Calls.regrown_of (opsWord_bytes n hn0 hn1 _))
          | (go_at_call 23; with_reducible exact Calls.regrown_of (opsBytes_any n hn0 hn1 _))
          | (go_at_call 23; with_reducible exact Calls.regrown_of (opsBytes_sum a b c d ha ha' hbl hbu hc hc' hd hd' _))
          | (go_at_call 24; with_reducible exact Calls.regrown_of (opsWide_any a b c d hc hc' hd hd' _))
          | (go_at_call 24; with_reducible exact Calls.regrown_of (opsWide_set a b m hm0 hm1 _))
          | (go_at_call 25; with_reducible exact Calls.regrown_of (opsJump_lo a b c d hc hc' hd (by assumption) _))
          | (go_at_call 25; with_reducible exact Calls.regrown_of (opsJump_hi a b c d hc hc' hd' (by assumption) _))
          | (go_at_call 26; with_reducible exact Calls.regrown_of (opsNear_lo a b c d hd (by assumption) _))
          | (go_at_call 26; with_reducible exact Calls.regrown_of (opsNear_hi a b c d hd' (by assumption) _))))
  all_goals
    refine wpQuiet_nil ?_
    intro w6 hw6
    have hB6 : Below W.heap.size W w6 := bnext hB (by obtain ⟨p, rfl⟩ := hw6; exact below_regrown w5 p.d p.os)
    clear hw6 q1 q2 q3
    go_wp2
    go_ret
  all_goals exact ⟨rfl, hB6⟩
end Go.Proofs.Ytbdcbkmacpameaa
