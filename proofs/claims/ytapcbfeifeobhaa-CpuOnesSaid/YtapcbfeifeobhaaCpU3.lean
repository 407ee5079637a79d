/- The machine in a world: its registers, its memory. cpu.memory: stores. cpu.memory: loads of a byte. cpu.memory: loads of two, of four bytes. -/
import Derived.Test.YtapcbfeifeobhaaCpuE
import Derived.Test.YtapcbfeifeobhaaCpuC
set_option linter.unusedVariables false
set_option linter.unusedSimpArgs false
namespace Go.Proofs.Ytapcbfeifeobhaa
open Go.RowKit
/-- What is right of a machine. -/
structure MOk (m : Nat) (s : Mach) : Prop where
  r0 : ∀ i, i < 16 → 0 ≤ s.R i ∧ s.R i ≤ 4294967295
  a0 : 0 ≤ s.at_ ∧ s.at_ ≤ 4294967295
  m0 : ∀ i, i < 64 * m → s.mem i < 256
/-- A machine of m pages: its state at block gx, its memory a space at block gs. -/
structure MW (w : World) (g gm gs base m gx : Nat) (a : Option Addr) (us : Nat → Nat) (v : Value) (F : Nat × Nat → Option (Nat → Nat)) (s : Mach) : Prop where
  tp : FP w g gm a us F
  sp : SpV w base gs g 0 (morePs 0 0 m) v
  ok : SpOk F (morePs 0 0 m)
  mm : ∀ i, i < 64 * m → s.mem i = spMem F (morePs 0 0 m) i
  rw : w.rowIs gx 36 17 (stV s)
  wf : MOk m s
def mwS (g gm gx : Nat) (k : Nat) : Prop := k = gx ∨ k = g ∨ k = gm
section
variable {w w' : World} {g gm gs base m gx : Nat} {a : Option Addr} {us : Nat → Nat} {v : Value} {F F' : Nat × Nat → Option (Nat → Nat)} {s s' : Mach}
theorem MW.keep (h : MW w g gm gs base m gx a us v F s) (hb : Below w.heap.size w w') : MW w' g gm gs base m gx a us v F s :=
  ⟨h.tp.keep hb, h.sp.keep hb, h.ok, h.mm, h.rw.of_block (hb.block gx h.rw.lt), h.wf⟩
theorem MW.m32 (h : MW w g gm gs base m gx a us v F s) : m ≤ 32 := by have := h.ok.len; rwa [morePs_len] at this
theorem MW.len (h : MW w g gm gs base m gx a us v F s) : (morePs 0 0 m).length = m := morePs_len 0 0 m
theorem MW.gx_ne (h : MW w g gm gs base m gx a us v F s) : gx ≠ g ∧ gx ≠ gm ∧ gx ≠ gs ∧ v.ownBlock ≠ some gx := by
  have hx := rowIs_arr h.rw
  have h1 := h.tp.ne_cells hx (by decide)
  refine ⟨h1.1, h1.2, fun e => ?_, fun e => ?_⟩
  · have h2 := rowIs_arr h.sp.row
    rw [← e, hx] at h2
    injection h2 with h2
    injection h2 with _ h2 _
    exact absurd h2 (by decide)
  · obtain ⟨_, cur, h2⟩ := own_blk h.sp.ov e
    rw [hx] at h2
    injection h2 with h2
    injection h2 with _ h2 _
    exact absurd h2 (by decide)
theorem MW.b255 (h : MW w g gm gs base m gx a us v F s) : ∀ i, i < 64 * (morePs 0 0 m).length → spMem F (morePs 0 0 m) i < 256 := fun i hi => by
  rw [h.len] at hi
  rw [← h.mm i hi]
  exact h.wf.m0 i hi
/-- The registers turn. -/
theorem MW.regs (h : MW w g gm gs base m gx a us v F s) (c : Chg (fun k => k = gx) w w') (hr : w'.rowIs gx 36 17 (stV s')) (hm : s'.mem = s.mem) (wf : MOk m s') : MW w' g gm gs base m gx a us v F s' :=
  ⟨pt_chg h.tp c (fun e => h.gx_ne.1 e.symm) (fun e => h.gx_ne.2.1 e.symm), h.sp.chg c (fun e => h.gx_ne.2.2.1 e.symm) (fun x hx e => h.gx_ne.2.2.2 (by rw [← e]; exact hx)), h.ok, fun i hi => by rw [hm]; exact h.mm i hi, hr, wf⟩
/-- The memory turns. -/
theorem MW.upd (h : MW w g gm gs base m gx a us v F s) {mm : Nat → Nat} (ht : FP w' g gm a us F') (hu : SpUpd F F' (morePs 0 0 m) mm) (c : Chg (fun k => k = g ∨ k = gm) w w') (hm : ∀ i, i < 64 * m → mm i < 256) : MW w' g gm gs base m gx a us v F' ⟨s.R, s.at_, mm⟩ :=
  ⟨ht, h.sp.chg2 h.tp c, hu.ok h.ok, fun i hi => (hu.mem i (by rw [h.len]; exact hi)).symm, h.rw.of_block (c.block gx h.rw.lt (fun e => by rcases e with e | e; exact h.gx_ne.1 e; exact h.gx_ne.2.1 e)), ⟨h.wf.r0, h.wf.a0, hm⟩⟩
end
theorem MOk.setR {m : Nat} {s : Mach} (h : MOk m s) (i : Nat) (x : Int) (h0 : 0 ≤ x) (h1 : x ≤ 4294967295) : MOk m (setR s i x) := by
  refine ⟨fun j hj => ?_, h.a0, h.m0⟩
  show 0 ≤ (if j = i then x else s.R j) ∧ (if j = i then x else s.R j) ≤ 4294967295
  split
  · exact ⟨h0, h1⟩
  · exact h.r0 j hj
def stN (mem : Nat → Nat) (at_ k n : Nat) (i : Nat) : Nat := if at_ ≤ i ∧ i < at_ + k then n / 2 ^ (8 * (i - at_)) % 256 else mem i
def bytesN (o : Nat) : Nat := if o = 24 ∨ o = 25 ∨ o = 28 then 2 else if o = 26 ∨ o = 29 then 4 else 1
def ldI (o : Nat) (n : Nat) : Int := if o = 23 then sx8 n else if o = 25 then sx16 n else n
/-- A number that is loaded, or stored; an error's number. -/
def memI (m : Nat) (s : Mach) (o x a : Nat) : Mach × Int :=
  if 64 * m < a + bytesN o then (s, 20)
  else if o = 27 ∨ o = 28 ∨ o = 29 then (⟨s.R, s.at_, stN s.mem a (bytesN o) (s.R x).toNat⟩, 0)
  else (setR s x (ldI o (ldN s.mem a (bytesN o))), 0)
theorem ldN_congr {m1 m2 : Nat → Nat} {at_ : Nat} : ∀ k, (∀ i, i < k → m1 (at_ + i) = m2 (at_ + i)) → ldN m1 at_ k = ldN m2 at_ k
  | 0, _ => rfl
  | k + 1, h => by
    show ldN m1 at_ k + m1 (at_ + k) * 256 ^ k = ldN m2 at_ k + m2 (at_ + k) * 256 ^ k
    rw [ldN_congr k (fun i hi => h i (by omega)), h k (by omega)]
def MemP (g gm gs base m gx : Nat) (a : Option Addr) (us : Nat → Nat) (v : Value) (s : Mach) (o x at_ : Nat) (w : World) (e : Ending) (w' : World) : Prop :=
  e = .returned (.int .i64 (memI m s o x at_).2) ∧ (∃ F', MW w' g gm gs base m gx a us v F' (memI m s o x at_).1) ∧ Chg (mwS g gm gx) w w'
theorem sx8_le (n : Int) : 0 ≤ sx8 n ∧ sx8 n ≤ 4294967295 := by unfold sx8; omega
theorem sx16_le (n : Int) : 0 ≤ sx16 n ∧ sx16 n ≤ 4294967295 := by unfold sx16; omega
end Go.Proofs.Ytapcbfeifeobhaa

set_option linter.unusedVariables false
set_option linter.unusedSimpArgs false
namespace Go.Proofs.Ytapcbfeifeobhaa
open Go.RowKit
set_option maxRecDepth 20000 in
set_option maxHeartbeats 8000000 in
theorem mem_27 {w : World} {g gm gs base m gx : Nat} {a : Option Addr} {us : Nat → Nat} {v : Value} {F : Nat × Nat → Option (Nat → Nat)} {s : Mach} (h : MW w g gm gs base m gx a us v F s) (x y z : Nat) (hx : x < 16) (at_ : Nat) (ha : at_ ≤ 4294967295) :
    Calls Try.prog 43 #[.pointer (some ⟨gx, 0, none⟩), .pointer (some ⟨gs, 0, none⟩), .agg #[.int .u8 (27 : Nat), .int .u8 x, .int .u8 y, .int .u8 z], .int .u32 at_] w (MemP g gm gs base m gx a us v s 27 x at_ w) := by
  have hb1 := bnew w (.cells #[.int .u8 (27 : Nat), .int .u8 x, .int .u8 y, .int .u8 z] 24)
  have hl1 := heap_alloc_last w (.cells #[.int .u8 (27 : Nat), .int .u8 x, .int .u8 y, .int .u8 z] 24)
  have hc := rowcell hl1
  have hh := h.keep hb1
  have HH := Lib.hid hh
  have HB1 := Lib.hid hb1
  have HL1 := Lib.hid hl1
  have hm32 := h.m32
  obtain ⟨rx, hrx⟩ : ∃ rx : Nat, (rx : Int) = s.R x := ⟨(s.R x).toNat, Int.toNat_of_nonneg (h.wf.r0 x hx).1⟩
  have cx : (w.alloc (.cells #[.int .u8 (27 : Nat), .int .u8 x, .int .u8 y, .int .u8 z] 24)).cell? ⟨gx, x, none⟩ = some (.int .u32 rx) := by
    rw [hh.rw.cell (i := x) (by omega)]; unfold stV; rw [if_pos hx, hrx]
  have hxi : (x : Int) < 16 := by omega
  have HRX := Lib.hid hrx
  have hgg : ¬ (w.heap.size = g ∨ w.heap.size = gm) := by have h1 := h.tp.row.lt; have h2 := h.tp.mp.lt; omega
  clear hb1 hl1 hh h hrx
  have hud : undef = Value.tuple #[] := rfl
  clear hud
  by_cases hin : at_ + 1 ≤ 64 * m
  · have hst := fun (w1 : World) (h1 : MW w1 g gm gs base m gx a us v F s) => spaceStore_in h1.tp h1.sp h1.ok at_ 1 ha (by rw [h1.len]; exact hin) rx
    have HST := Lib.hid hst
    have HIN := Lib.hid hin
    clear hst hin
    go_enter Try.func43, Try.ntmps43
    go_wp2_with fail
    obtain ⟨N, hN⟩ : ∃ N, N = w.heap.size := ⟨_, rfl⟩
    rw [← hN] at hc HL1 ⊢
    have HNG := Lib.hid (show ¬ (N = g ∨ N = gm) from by rw [hN]; exact hgg)
    have HGL := Lib.hid (show gx < (w.alloc (.cells #[.int .u8 (27 : Nat), .int .u8 x, .int .u8 y, .int .u8 z] 24)).heap.size from HH.out.rw.lt)
    generalize hw1 : w.alloc (.cells #[.int .u8 (27 : Nat), .int .u8 x, .int .u8 y, .int .u8 z] 24) = w1 at *
    clear hN hw1 hgg
    go_upto_region 14 with fail
    have hS0 : (fun w' : World => w'.heap[N]? = some (.cells #[.int .u8 (27 : Nat), .int .u8 x, .int .u8 y, .int .u8 z] 24 (0, 0)) ∧ w'.cell? ⟨gx, x, none⟩ = some (.int .u32 rx)) (World.drew w1) := ⟨HL1.out, cx⟩
    refine wp_region_held (S := fun w' => w'.heap[N]? = some (.cells #[.int .u8 (27 : Nat), .int .u8 x, .int .u8 y, .int .u8 z] 24 (0, 0)) ∧ w'.cell? ⟨gx, x, none⟩ = some (.int .u32 rx)) (by kernel_rfl) ?_
    change wpAnyH _ _ _ _ _ _ _ _ (World.drew _)
    refine takeH 0 (.pointer (some ⟨gs, 0, none⟩)) (some 27) rfl rfl (by kernel_rfl) (by kernel_rfl) (by kernel_rfl) (fun _ _ _ h => h) (.inl ⟨by kernel_rfl, fun w _ => by go_simp⟩) hS0 ?_
    refine takeH 1 (.int .u32 at_) (some 28) rfl rfl (by kernel_rfl) (by kernel_rfl) (by kernel_rfl) (fun _ _ _ h => h) (.inl ⟨by kernel_rfl, fun w _ => by go_simp⟩) hS0 ?_
    refine takeH 2 (.int .i64 1) (some 29) rfl rfl (by kernel_rfl) (by kernel_rfl) (by kernel_rfl) (fun _ _ _ h => h) (.inl ⟨by kernel_rfl, fun w _ => by go_simp⟩) hS0 ?_
    go_simp
    refine takeH 3 (.pointer (some ⟨gx, 0, none⟩)) (some 30) rfl rfl (by kernel_rfl) (by kernel_rfl) (by kernel_rfl) (fun _ _ _ h => h) (.inl ⟨by kernel_rfl, fun w _ => by go_simp⟩) hS0 ?_
    refine takeH 4 (.pointer (some ⟨N, 1, none⟩)) (some 31) rfl rfl (by kernel_rfl) (by kernel_rfl) (by kernel_rfl) (fun _ _ _ h => h) (.inl ⟨by kernel_rfl, fun w _ => by go_simp⟩) hS0 ?_
    refine takeH 5 (.int .u8 x) (some 32) rfl rfl (by kernel_rfl) (by kernel_rfl) (by kernel_rfl) (fun _ _ _ h => h) (.inl ⟨by kernel_rfl, fun w' hw => by have hc := rowcell hw.1 1; go_simp⟩) hS0 ?_
    go_simp
    refine takeH 6 (.pointer (some ⟨gx, 0, none⟩)) (some 33) rfl rfl (by kernel_rfl) (by kernel_rfl) (by kernel_rfl) (fun _ _ _ h => h) (.inl ⟨by kernel_rfl, fun w _ => by go_simp⟩) hS0 ?_
    refine takeH 7 (.pointer (some ⟨gx, 0, none⟩)) (some 34) rfl rfl (by kernel_rfl) (by kernel_rfl) (by kernel_rfl) (fun _ _ _ h => h) (.inl ⟨by kernel_rfl, fun w _ => by go_simp⟩) hS0 ?_
    refine takeH 8 (.pointer (some ⟨gx, x, none⟩)) (some 35) rfl rfl (by kernel_rfl) (by kernel_rfl) (by kernel_rfl) (fun _ _ _ h => h) (.inl ⟨by kernel_rfl, fun w _ => by go_simp⟩) hS0 ?_
    go_simp
    refine takeH 9 (.int .u32 rx) (some 36) rfl rfl (by kernel_rfl) (by kernel_rfl) (by kernel_rfl) (fun _ _ _ h => h) (.inl ⟨by kernel_rfl, fun w' hw => by have hc : w'.cell? ⟨gx, x, none⟩ = some (.int .u32 rx) := hw.2; go_simp⟩) hS0 ?_
    go_simp
    refine callH 10 rfl (by kernel_rfl) (by kernel_rfl) (some 37) rfl 59 #[.pointer (some ⟨gs, 0, none⟩), .int .u32 at_, .int .i64 1, .int .u32 rx] ?hrun ((HST.out _ (HH.out.keep (drewb w1))).mono ?_)
    case hrun => go_simp
    rintro e w2 ⟨he, F', ht, hu, hcg⟩
    have hS4 : (fun w' : World => w'.heap[N]? = some (.cells #[.int .u8 (27 : Nat), .int .u8 x, .int .u8 y, .int .u8 z] 24 (0, 0)) ∧ w'.cell? ⟨gx, x, none⟩ = some (.int .u32 rx)) w2 := ⟨hcg.blk hS0.1 HNG.out, by rw [World.cell?_of_block (w := World.drew w1) (a := ⟨gx, x, none⟩) (hcg.block gx HGL.out (fun e => by rcases e with e | e; exact HH.out.gx_ne.1 e; exact HH.out.gx_ne.2.1 e))]; exact cx⟩
    refine ⟨_, he, hS4, ?_⟩
    go_simp
    refine takeH 11 (.int .i64 0) (some 8) rfl rfl (by kernel_rfl) (by kernel_rfl) (by kernel_rfl) (fun _ _ _ h => h) (.inl ⟨by kernel_rfl, fun w _ => by go_simp⟩) hS4 ?_
    refine wpAnyH_done (by kernel_rfl) ?_ _
    go_simp
    have HT := Lib.hid ht
    have HU := Lib.hid hu
    have HCG := Lib.hid hcg
    have HH0 := Lib.hid (HH.out.keep (drewb w1))
    clear ht hu hcg cx hc hS0 hS4 he
    go_wp2_with fail
    go_ret
    have hn : ¬ (64 * m < at_ + bytesN 27) := by have := HIN.out; show ¬ (64 * m < at_ + 1); omega
    have e1 : memI m s 27 x at_ = (⟨s.R, s.at_, stN s.mem at_ 1 (s.R x).toNat⟩, 0) := by unfold memI; rw [if_neg hn]; rfl
    have hrt : (s.R x).toNat = rx := by have := HRX.out; omega
    have hmm : ∀ i, i < 64 * m → stN s.mem at_ 1 rx i = (if at_ ≤ i ∧ i < at_ + min 1 4 then rx / 2 ^ (8 * (i - at_)) % 256 else spMem F (morePs 0 0 m) i) := fun i hi => by
      unfold stN
      rw [show min 1 4 = 1 from rfl, HH.out.mm i hi]
    have hw := HH0.out.upd HT.out (mm := stN s.mem at_ 1 rx) ⟨HU.out.same, HU.out.out, fun i hi => by rw [HU.out.mem i hi]; exact (hmm i (by rwa [HH.out.len] at hi)).symm⟩ HCG.out (fun i hi => by
      unfold stN
      split
      · omega
      · exact HH.out.wf.m0 i hi)
    refine ⟨by rw [e1]; rfl, ⟨F', by rw [e1, hrt]; exact hw⟩, ?_⟩
    exact ((Chg.of_below (mwS g gm gx) HB1.out).trans (Chg.of_below (mwS g gm gx) (drewb w1)) (fun _ _ h => h)).trans HCG.out (fun k _ hk => .inr hk)
  · have hno := fun (w1 : World) (h1 : MW w1 g gm gs base m gx a us v F s) => spaceStore_no h1.sp h1.ok.len at_ ha (1 : Nat) (by omega) (by omega) rx (by rw [h1.len, insideB_nat]; exact decide_eq_false hin)
    have HNO := Lib.hid hno
    have HIN := Lib.hid hin
    clear hno hin
    go_enter Try.func43, Try.ntmps43
    go_wp2_with fail
    obtain ⟨N, hN⟩ : ∃ N, N = w.heap.size := ⟨_, rfl⟩
    rw [← hN] at hc HL1 ⊢
    have HNG := Lib.hid (show ¬ (N = g ∨ N = gm) from by rw [hN]; exact hgg)
    have HGL := Lib.hid (show gx < (w.alloc (.cells #[.int .u8 (27 : Nat), .int .u8 x, .int .u8 y, .int .u8 z] 24)).heap.size from HH.out.rw.lt)
    generalize hw1 : w.alloc (.cells #[.int .u8 (27 : Nat), .int .u8 x, .int .u8 y, .int .u8 z] 24) = w1 at *
    clear hN hw1 hgg
    go_upto_region 14 with fail
    have hS0 : (fun w' : World => w'.heap[N]? = some (.cells #[.int .u8 (27 : Nat), .int .u8 x, .int .u8 y, .int .u8 z] 24 (0, 0)) ∧ w'.cell? ⟨gx, x, none⟩ = some (.int .u32 rx)) (World.drew w1) := ⟨HL1.out, cx⟩
    refine wp_region_held (S := fun w' => w'.heap[N]? = some (.cells #[.int .u8 (27 : Nat), .int .u8 x, .int .u8 y, .int .u8 z] 24 (0, 0)) ∧ w'.cell? ⟨gx, x, none⟩ = some (.int .u32 rx)) (by kernel_rfl) ?_
    change wpAnyH _ _ _ _ _ _ _ _ (World.drew _)
    refine takeH 0 (.pointer (some ⟨gs, 0, none⟩)) (some 27) rfl rfl (by kernel_rfl) (by kernel_rfl) (by kernel_rfl) (fun _ _ _ h => h) (.inl ⟨by kernel_rfl, fun w _ => by go_simp⟩) hS0 ?_
    refine takeH 1 (.int .u32 at_) (some 28) rfl rfl (by kernel_rfl) (by kernel_rfl) (by kernel_rfl) (fun _ _ _ h => h) (.inl ⟨by kernel_rfl, fun w _ => by go_simp⟩) hS0 ?_
    refine takeH 2 (.int .i64 1) (some 29) rfl rfl (by kernel_rfl) (by kernel_rfl) (by kernel_rfl) (fun _ _ _ h => h) (.inl ⟨by kernel_rfl, fun w _ => by go_simp⟩) hS0 ?_
    go_simp
    refine takeH 3 (.pointer (some ⟨gx, 0, none⟩)) (some 30) rfl rfl (by kernel_rfl) (by kernel_rfl) (by kernel_rfl) (fun _ _ _ h => h) (.inl ⟨by kernel_rfl, fun w _ => by go_simp⟩) hS0 ?_
    refine takeH 4 (.pointer (some ⟨N, 1, none⟩)) (some 31) rfl rfl (by kernel_rfl) (by kernel_rfl) (by kernel_rfl) (fun _ _ _ h => h) (.inl ⟨by kernel_rfl, fun w _ => by go_simp⟩) hS0 ?_
    refine takeH 5 (.int .u8 x) (some 32) rfl rfl (by kernel_rfl) (by kernel_rfl) (by kernel_rfl) (fun _ _ _ h => h) (.inl ⟨by kernel_rfl, fun w' hw => by have hc := rowcell hw.1 1; go_simp⟩) hS0 ?_
    go_simp
    refine takeH 6 (.pointer (some ⟨gx, 0, none⟩)) (some 33) rfl rfl (by kernel_rfl) (by kernel_rfl) (by kernel_rfl) (fun _ _ _ h => h) (.inl ⟨by kernel_rfl, fun w _ => by go_simp⟩) hS0 ?_
    refine takeH 7 (.pointer (some ⟨gx, 0, none⟩)) (some 34) rfl rfl (by kernel_rfl) (by kernel_rfl) (by kernel_rfl) (fun _ _ _ h => h) (.inl ⟨by kernel_rfl, fun w _ => by go_simp⟩) hS0 ?_
    refine takeH 8 (.pointer (some ⟨gx, x, none⟩)) (some 35) rfl rfl (by kernel_rfl) (by kernel_rfl) (by kernel_rfl) (fun _ _ _ h => h) (.inl ⟨by kernel_rfl, fun w _ => by go_simp⟩) hS0 ?_
    go_simp
    refine takeH 9 (.int .u32 rx) (some 36) rfl rfl (by kernel_rfl) (by kernel_rfl) (by kernel_rfl) (fun _ _ _ h => h) (.inl ⟨by kernel_rfl, fun w' hw => by have hc : w'.cell? ⟨gx, x, none⟩ = some (.int .u32 rx) := hw.2; go_simp⟩) hS0 ?_
    go_simp
    refine callH 10 rfl (by kernel_rfl) (by kernel_rfl) (some 37) rfl 59 #[.pointer (some ⟨gs, 0, none⟩), .int .u32 at_, .int .i64 1, .int .u32 rx] ?hrun ((HNO.out _ (HH.out.keep (drewb w1))).mono ?_)
    case hrun => go_simp
    rintro e w2 ⟨he, rfl⟩
    refine ⟨_, he, hS0, ?_⟩
    go_simp
    refine takeH 11 (.int .i64 20) (some 8) rfl rfl (by kernel_rfl) (by kernel_rfl) (by kernel_rfl) (fun _ _ _ h => h) (.inl ⟨by kernel_rfl, fun w _ => by go_simp⟩) hS0 ?_
    refine wpAnyH_done (by kernel_rfl) ?_ _
    go_simp
    have HH0 := Lib.hid (HH.out.keep (drewb w1))
    clear hS0 cx hc he
    go_wp2_with fail
    go_ret
    have e1 : memI m s 27 x at_ = (s, 20) := by unfold memI; rw [if_pos (by have := HIN.out; show 64 * m < at_ + 1; omega)]
    refine ⟨by rw [e1]; rfl, ⟨F, by rw [e1]; exact HH0.out⟩, (Chg.of_below (mwS g gm gx) HB1.out).trans (Chg.of_below (mwS g gm gx) (drewb w1)) (fun _ _ h => h)⟩
set_option maxRecDepth 20000 in
set_option maxHeartbeats 8000000 in
theorem mem_28 {w : World} {g gm gs base m gx : Nat} {a : Option Addr} {us : Nat → Nat} {v : Value} {F : Nat × Nat → Option (Nat → Nat)} {s : Mach} (h : MW w g gm gs base m gx a us v F s) (x y z : Nat) (hx : x < 16) (at_ : Nat) (ha : at_ ≤ 4294967295) :
    Calls Try.prog 43 #[.pointer (some ⟨gx, 0, none⟩), .pointer (some ⟨gs, 0, none⟩), .agg #[.int .u8 (28 : Nat), .int .u8 x, .int .u8 y, .int .u8 z], .int .u32 at_] w (MemP g gm gs base m gx a us v s 28 x at_ w) := by
  have hb1 := bnew w (.cells #[.int .u8 (28 : Nat), .int .u8 x, .int .u8 y, .int .u8 z] 24)
  have hl1 := heap_alloc_last w (.cells #[.int .u8 (28 : Nat), .int .u8 x, .int .u8 y, .int .u8 z] 24)
  have hc := rowcell hl1
  have hh := h.keep hb1
  have HH := Lib.hid hh
  have HB1 := Lib.hid hb1
  have HL1 := Lib.hid hl1
  have hm32 := h.m32
  obtain ⟨rx, hrx⟩ : ∃ rx : Nat, (rx : Int) = s.R x := ⟨(s.R x).toNat, Int.toNat_of_nonneg (h.wf.r0 x hx).1⟩
  have cx : (w.alloc (.cells #[.int .u8 (28 : Nat), .int .u8 x, .int .u8 y, .int .u8 z] 24)).cell? ⟨gx, x, none⟩ = some (.int .u32 rx) := by
    rw [hh.rw.cell (i := x) (by omega)]; unfold stV; rw [if_pos hx, hrx]
  have hxi : (x : Int) < 16 := by omega
  have HRX := Lib.hid hrx
  have hgg : ¬ (w.heap.size = g ∨ w.heap.size = gm) := by have h1 := h.tp.row.lt; have h2 := h.tp.mp.lt; omega
  clear hb1 hl1 hh h hrx
  have hud : undef = Value.tuple #[] := rfl
  clear hud
  by_cases hin : at_ + 2 ≤ 64 * m
  · have hst := fun (w1 : World) (h1 : MW w1 g gm gs base m gx a us v F s) => spaceStore_in h1.tp h1.sp h1.ok at_ 2 ha (by rw [h1.len]; exact hin) rx
    have HST := Lib.hid hst
    have HIN := Lib.hid hin
    clear hst hin
    go_enter Try.func43, Try.ntmps43
    go_wp2_with fail
    obtain ⟨N, hN⟩ : ∃ N, N = w.heap.size := ⟨_, rfl⟩
    rw [← hN] at hc HL1 ⊢
    have HNG := Lib.hid (show ¬ (N = g ∨ N = gm) from by rw [hN]; exact hgg)
    have HGL := Lib.hid (show gx < (w.alloc (.cells #[.int .u8 (28 : Nat), .int .u8 x, .int .u8 y, .int .u8 z] 24)).heap.size from HH.out.rw.lt)
    generalize hw1 : w.alloc (.cells #[.int .u8 (28 : Nat), .int .u8 x, .int .u8 y, .int .u8 z] 24) = w1 at *
    clear hN hw1 hgg
    go_upto_region 14 with fail
    have hS0 : (fun w' : World => w'.heap[N]? = some (.cells #[.int .u8 (28 : Nat), .int .u8 x, .int .u8 y, .int .u8 z] 24 (0, 0)) ∧ w'.cell? ⟨gx, x, none⟩ = some (.int .u32 rx)) (World.drew w1) := ⟨HL1.out, cx⟩
    refine wp_region_held (S := fun w' => w'.heap[N]? = some (.cells #[.int .u8 (28 : Nat), .int .u8 x, .int .u8 y, .int .u8 z] 24 (0, 0)) ∧ w'.cell? ⟨gx, x, none⟩ = some (.int .u32 rx)) (by kernel_rfl) ?_
    change wpAnyH _ _ _ _ _ _ _ _ (World.drew _)
    refine takeH 0 (.pointer (some ⟨gs, 0, none⟩)) (some 27) rfl rfl (by kernel_rfl) (by kernel_rfl) (by kernel_rfl) (fun _ _ _ h => h) (.inl ⟨by kernel_rfl, fun w _ => by go_simp⟩) hS0 ?_
    refine takeH 1 (.int .u32 at_) (some 28) rfl rfl (by kernel_rfl) (by kernel_rfl) (by kernel_rfl) (fun _ _ _ h => h) (.inl ⟨by kernel_rfl, fun w _ => by go_simp⟩) hS0 ?_
    refine takeH 2 (.int .i64 2) (some 29) rfl rfl (by kernel_rfl) (by kernel_rfl) (by kernel_rfl) (fun _ _ _ h => h) (.inl ⟨by kernel_rfl, fun w _ => by go_simp⟩) hS0 ?_
    go_simp
    refine takeH 3 (.pointer (some ⟨gx, 0, none⟩)) (some 30) rfl rfl (by kernel_rfl) (by kernel_rfl) (by kernel_rfl) (fun _ _ _ h => h) (.inl ⟨by kernel_rfl, fun w _ => by go_simp⟩) hS0 ?_
    refine takeH 4 (.pointer (some ⟨N, 1, none⟩)) (some 31) rfl rfl (by kernel_rfl) (by kernel_rfl) (by kernel_rfl) (fun _ _ _ h => h) (.inl ⟨by kernel_rfl, fun w _ => by go_simp⟩) hS0 ?_
    refine takeH 5 (.int .u8 x) (some 32) rfl rfl (by kernel_rfl) (by kernel_rfl) (by kernel_rfl) (fun _ _ _ h => h) (.inl ⟨by kernel_rfl, fun w' hw => by have hc := rowcell hw.1 1; go_simp⟩) hS0 ?_
    go_simp
    refine takeH 6 (.pointer (some ⟨gx, 0, none⟩)) (some 33) rfl rfl (by kernel_rfl) (by kernel_rfl) (by kernel_rfl) (fun _ _ _ h => h) (.inl ⟨by kernel_rfl, fun w _ => by go_simp⟩) hS0 ?_
    refine takeH 7 (.pointer (some ⟨gx, 0, none⟩)) (some 34) rfl rfl (by kernel_rfl) (by kernel_rfl) (by kernel_rfl) (fun _ _ _ h => h) (.inl ⟨by kernel_rfl, fun w _ => by go_simp⟩) hS0 ?_
    refine takeH 8 (.pointer (some ⟨gx, x, none⟩)) (some 35) rfl rfl (by kernel_rfl) (by kernel_rfl) (by kernel_rfl) (fun _ _ _ h => h) (.inl ⟨by kernel_rfl, fun w _ => by go_simp⟩) hS0 ?_
    go_simp
    refine takeH 9 (.int .u32 rx) (some 36) rfl rfl (by kernel_rfl) (by kernel_rfl) (by kernel_rfl) (fun _ _ _ h => h) (.inl ⟨by kernel_rfl, fun w' hw => by have hc : w'.cell? ⟨gx, x, none⟩ = some (.int .u32 rx) := hw.2; go_simp⟩) hS0 ?_
    go_simp
    refine callH 10 rfl (by kernel_rfl) (by kernel_rfl) (some 37) rfl 59 #[.pointer (some ⟨gs, 0, none⟩), .int .u32 at_, .int .i64 2, .int .u32 rx] ?hrun ((HST.out _ (HH.out.keep (drewb w1))).mono ?_)
    case hrun => go_simp
    rintro e w2 ⟨he, F', ht, hu, hcg⟩
    have hS4 : (fun w' : World => w'.heap[N]? = some (.cells #[.int .u8 (28 : Nat), .int .u8 x, .int .u8 y, .int .u8 z] 24 (0, 0)) ∧ w'.cell? ⟨gx, x, none⟩ = some (.int .u32 rx)) w2 := ⟨hcg.blk hS0.1 HNG.out, by rw [World.cell?_of_block (w := World.drew w1) (a := ⟨gx, x, none⟩) (hcg.block gx HGL.out (fun e => by rcases e with e | e; exact HH.out.gx_ne.1 e; exact HH.out.gx_ne.2.1 e))]; exact cx⟩
    refine ⟨_, he, hS4, ?_⟩
    go_simp
    refine takeH 11 (.int .i64 0) (some 8) rfl rfl (by kernel_rfl) (by kernel_rfl) (by kernel_rfl) (fun _ _ _ h => h) (.inl ⟨by kernel_rfl, fun w _ => by go_simp⟩) hS4 ?_
    refine wpAnyH_done (by kernel_rfl) ?_ _
    go_simp
    have HT := Lib.hid ht
    have HU := Lib.hid hu
    have HCG := Lib.hid hcg
    have HH0 := Lib.hid (HH.out.keep (drewb w1))
    clear ht hu hcg cx hc hS0 hS4 he
    go_wp2_with fail
    go_ret
    have hn : ¬ (64 * m < at_ + bytesN 28) := by have := HIN.out; show ¬ (64 * m < at_ + 2); omega
    have e1 : memI m s 28 x at_ = (⟨s.R, s.at_, stN s.mem at_ 2 (s.R x).toNat⟩, 0) := by unfold memI; rw [if_neg hn]; rfl
    have hrt : (s.R x).toNat = rx := by have := HRX.out; omega
    have hmm : ∀ i, i < 64 * m → stN s.mem at_ 2 rx i = (if at_ ≤ i ∧ i < at_ + min 2 4 then rx / 2 ^ (8 * (i - at_)) % 256 else spMem F (morePs 0 0 m) i) := fun i hi => by
      unfold stN
      rw [show min 2 4 = 2 from rfl, HH.out.mm i hi]
    have hw := HH0.out.upd HT.out (mm := stN s.mem at_ 2 rx) ⟨HU.out.same, HU.out.out, fun i hi => by rw [HU.out.mem i hi]; exact (hmm i (by rwa [HH.out.len] at hi)).symm⟩ HCG.out (fun i hi => by
      unfold stN
      split
      · omega
      · exact HH.out.wf.m0 i hi)
    refine ⟨by rw [e1]; rfl, ⟨F', by rw [e1, hrt]; exact hw⟩, ?_⟩
    exact ((Chg.of_below (mwS g gm gx) HB1.out).trans (Chg.of_below (mwS g gm gx) (drewb w1)) (fun _ _ h => h)).trans HCG.out (fun k _ hk => .inr hk)
  · have hno := fun (w1 : World) (h1 : MW w1 g gm gs base m gx a us v F s) => spaceStore_no h1.sp h1.ok.len at_ ha (2 : Nat) (by omega) (by omega) rx (by rw [h1.len, insideB_nat]; exact decide_eq_false hin)
    have HNO := Lib.hid hno
    have HIN := Lib.hid hin
    clear hno hin
    go_enter Try.func43, Try.ntmps43
    go_wp2_with fail
    obtain ⟨N, hN⟩ : ∃ N, N = w.heap.size := ⟨_, rfl⟩
    rw [← hN] at hc HL1 ⊢
    have HNG := Lib.hid (show ¬ (N = g ∨ N = gm) from by rw [hN]; exact hgg)
    have HGL := Lib.hid (show gx < (w.alloc (.cells #[.int .u8 (28 : Nat), .int .u8 x, .int .u8 y, .int .u8 z] 24)).heap.size from HH.out.rw.lt)
    generalize hw1 : w.alloc (.cells #[.int .u8 (28 : Nat), .int .u8 x, .int .u8 y, .int .u8 z] 24) = w1 at *
    clear hN hw1 hgg
    go_upto_region 14 with fail
    have hS0 : (fun w' : World => w'.heap[N]? = some (.cells #[.int .u8 (28 : Nat), .int .u8 x, .int .u8 y, .int .u8 z] 24 (0, 0)) ∧ w'.cell? ⟨gx, x, none⟩ = some (.int .u32 rx)) (World.drew w1) := ⟨HL1.out, cx⟩
    refine wp_region_held (S := fun w' => w'.heap[N]? = some (.cells #[.int .u8 (28 : Nat), .int .u8 x, .int .u8 y, .int .u8 z] 24 (0, 0)) ∧ w'.cell? ⟨gx, x, none⟩ = some (.int .u32 rx)) (by kernel_rfl) ?_
    change wpAnyH _ _ _ _ _ _ _ _ (World.drew _)
    refine takeH 0 (.pointer (some ⟨gs, 0, none⟩)) (some 27) rfl rfl (by kernel_rfl) (by kernel_rfl) (by kernel_rfl) (fun _ _ _ h => h) (.inl ⟨by kernel_rfl, fun w _ => by go_simp⟩) hS0 ?_
    refine takeH 1 (.int .u32 at_) (some 28) rfl rfl (by kernel_rfl) (by kernel_rfl) (by kernel_rfl) (fun _ _ _ h => h) (.inl ⟨by kernel_rfl, fun w _ => by go_simp⟩) hS0 ?_
    refine takeH 2 (.int .i64 2) (some 29) rfl rfl (by kernel_rfl) (by kernel_rfl) (by kernel_rfl) (fun _ _ _ h => h) (.inl ⟨by kernel_rfl, fun w _ => by go_simp⟩) hS0 ?_
    go_simp
    refine takeH 3 (.pointer (some ⟨gx, 0, none⟩)) (some 30) rfl rfl (by kernel_rfl) (by kernel_rfl) (by kernel_rfl) (fun _ _ _ h => h) (.inl ⟨by kernel_rfl, fun w _ => by go_simp⟩) hS0 ?_
    refine takeH 4 (.pointer (some ⟨N, 1, none⟩)) (some 31) rfl rfl (by kernel_rfl) (by kernel_rfl) (by kernel_rfl) (fun _ _ _ h => h) (.inl ⟨by kernel_rfl, fun w _ => by go_simp⟩) hS0 ?_
    refine takeH 5 (.int .u8 x) (some 32) rfl rfl (by kernel_rfl) (by kernel_rfl) (by kernel_rfl) (fun _ _ _ h => h) (.inl ⟨by kernel_rfl, fun w' hw => by have hc := rowcell hw.1 1; go_simp⟩) hS0 ?_
    go_simp
    refine takeH 6 (.pointer (some ⟨gx, 0, none⟩)) (some 33) rfl rfl (by kernel_rfl) (by kernel_rfl) (by kernel_rfl) (fun _ _ _ h => h) (.inl ⟨by kernel_rfl, fun w _ => by go_simp⟩) hS0 ?_
    refine takeH 7 (.pointer (some ⟨gx, 0, none⟩)) (some 34) rfl rfl (by kernel_rfl) (by kernel_rfl) (by kernel_rfl) (fun _ _ _ h => h) (.inl ⟨by kernel_rfl, fun w _ => by go_simp⟩) hS0 ?_
    refine takeH 8 (.pointer (some ⟨gx, x, none⟩)) (some 35) rfl rfl (by kernel_rfl) (by kernel_rfl) (by kernel_rfl) (fun _ _ _ h => h) (.inl ⟨by kernel_rfl, fun w _ => by go_simp⟩) hS0 ?_
    go_simp
    refine takeH 9 (.int .u32 rx) (some 36) rfl rfl (by kernel_rfl) (by kernel_rfl) (by kernel_rfl) (fun _ _ _ h => h) (.inl ⟨by kernel_rfl, fun w' hw => by have hc : w'.cell? ⟨gx, x, none⟩ = some (.int .u32 rx) := hw.2; go_simp⟩) hS0 ?_
    go_simp
    refine callH 10 rfl (by kernel_rfl) (by kernel_rfl) (some 37) rfl 59 #[.pointer (some ⟨gs, 0, none⟩), .int .u32 at_, .int .i64 2, .int .u32 rx] ?hrun ((HNO.out _ (HH.out.keep (drewb w1))).mono ?_)
    case hrun => go_simp
    rintro e w2 ⟨he, rfl⟩
    refine ⟨_, he, hS0, ?_⟩
    go_simp
    refine takeH 11 (.int .i64 20) (some 8) rfl rfl (by kernel_rfl) (by kernel_rfl) (by kernel_rfl) (fun _ _ _ h => h) (.inl ⟨by kernel_rfl, fun w _ => by go_simp⟩) hS0 ?_
    refine wpAnyH_done (by kernel_rfl) ?_ _
    go_simp
    have HH0 := Lib.hid (HH.out.keep (drewb w1))
    clear hS0 cx hc he
    go_wp2_with fail
    go_ret
    have e1 : memI m s 28 x at_ = (s, 20) := by unfold memI; rw [if_pos (by have := HIN.out; show 64 * m < at_ + 2; omega)]
    refine ⟨by rw [e1]; rfl, ⟨F, by rw [e1]; exact HH0.out⟩, (Chg.of_below (mwS g gm gx) HB1.out).trans (Chg.of_below (mwS g gm gx) (drewb w1)) (fun _ _ h => h)⟩
set_option maxRecDepth 20000 in
set_option maxHeartbeats 8000000 in
theorem mem_29 {w : World} {g gm gs base m gx : Nat} {a : Option Addr} {us : Nat → Nat} {v : Value} {F : Nat × Nat → Option (Nat → Nat)} {s : Mach} (h : MW w g gm gs base m gx a us v F s) (x y z : Nat) (hx : x < 16) (at_ : Nat) (ha : at_ ≤ 4294967295) :
    Calls Try.prog 43 #[.pointer (some ⟨gx, 0, none⟩), .pointer (some ⟨gs, 0, none⟩), .agg #[.int .u8 (29 : Nat), .int .u8 x, .int .u8 y, .int .u8 z], .int .u32 at_] w (MemP g gm gs base m gx a us v s 29 x at_ w) := by
  have hb1 := bnew w (.cells #[.int .u8 (29 : Nat), .int .u8 x, .int .u8 y, .int .u8 z] 24)
  have hl1 := heap_alloc_last w (.cells #[.int .u8 (29 : Nat), .int .u8 x, .int .u8 y, .int .u8 z] 24)
  have hc := rowcell hl1
  have hh := h.keep hb1
  have HH := Lib.hid hh
  have HB1 := Lib.hid hb1
  have HL1 := Lib.hid hl1
  have hm32 := h.m32
  obtain ⟨rx, hrx⟩ : ∃ rx : Nat, (rx : Int) = s.R x := ⟨(s.R x).toNat, Int.toNat_of_nonneg (h.wf.r0 x hx).1⟩
  have cx : (w.alloc (.cells #[.int .u8 (29 : Nat), .int .u8 x, .int .u8 y, .int .u8 z] 24)).cell? ⟨gx, x, none⟩ = some (.int .u32 rx) := by
    rw [hh.rw.cell (i := x) (by omega)]; unfold stV; rw [if_pos hx, hrx]
  have hxi : (x : Int) < 16 := by omega
  have HRX := Lib.hid hrx
  have hgg : ¬ (w.heap.size = g ∨ w.heap.size = gm) := by have h1 := h.tp.row.lt; have h2 := h.tp.mp.lt; omega
  clear hb1 hl1 hh h hrx
  have hud : undef = Value.tuple #[] := rfl
  clear hud
  by_cases hin : at_ + 4 ≤ 64 * m
  · have hst := fun (w1 : World) (h1 : MW w1 g gm gs base m gx a us v F s) => spaceStore_in h1.tp h1.sp h1.ok at_ 4 ha (by rw [h1.len]; exact hin) rx
    have HST := Lib.hid hst
    have HIN := Lib.hid hin
    clear hst hin
    go_enter Try.func43, Try.ntmps43
    go_wp2_with fail
    obtain ⟨N, hN⟩ : ∃ N, N = w.heap.size := ⟨_, rfl⟩
    rw [← hN] at hc HL1 ⊢
    have HNG := Lib.hid (show ¬ (N = g ∨ N = gm) from by rw [hN]; exact hgg)
    have HGL := Lib.hid (show gx < (w.alloc (.cells #[.int .u8 (29 : Nat), .int .u8 x, .int .u8 y, .int .u8 z] 24)).heap.size from HH.out.rw.lt)
    generalize hw1 : w.alloc (.cells #[.int .u8 (29 : Nat), .int .u8 x, .int .u8 y, .int .u8 z] 24) = w1 at *
    clear hN hw1 hgg
    go_upto_region 14 with fail
    have hS0 : (fun w' : World => w'.heap[N]? = some (.cells #[.int .u8 (29 : Nat), .int .u8 x, .int .u8 y, .int .u8 z] 24 (0, 0)) ∧ w'.cell? ⟨gx, x, none⟩ = some (.int .u32 rx)) (World.drew w1) := ⟨HL1.out, cx⟩
    refine wp_region_held (S := fun w' => w'.heap[N]? = some (.cells #[.int .u8 (29 : Nat), .int .u8 x, .int .u8 y, .int .u8 z] 24 (0, 0)) ∧ w'.cell? ⟨gx, x, none⟩ = some (.int .u32 rx)) (by kernel_rfl) ?_
    change wpAnyH _ _ _ _ _ _ _ _ (World.drew _)
    refine takeH 0 (.pointer (some ⟨gs, 0, none⟩)) (some 27) rfl rfl (by kernel_rfl) (by kernel_rfl) (by kernel_rfl) (fun _ _ _ h => h) (.inl ⟨by kernel_rfl, fun w _ => by go_simp⟩) hS0 ?_
    refine takeH 1 (.int .u32 at_) (some 28) rfl rfl (by kernel_rfl) (by kernel_rfl) (by kernel_rfl) (fun _ _ _ h => h) (.inl ⟨by kernel_rfl, fun w _ => by go_simp⟩) hS0 ?_
    refine takeH 2 (.int .i64 4) (some 29) rfl rfl (by kernel_rfl) (by kernel_rfl) (by kernel_rfl) (fun _ _ _ h => h) (.inl ⟨by kernel_rfl, fun w _ => by go_simp⟩) hS0 ?_
    go_simp
    refine takeH 3 (.pointer (some ⟨gx, 0, none⟩)) (some 30) rfl rfl (by kernel_rfl) (by kernel_rfl) (by kernel_rfl) (fun _ _ _ h => h) (.inl ⟨by kernel_rfl, fun w _ => by go_simp⟩) hS0 ?_
    refine takeH 4 (.pointer (some ⟨N, 1, none⟩)) (some 31) rfl rfl (by kernel_rfl) (by kernel_rfl) (by kernel_rfl) (fun _ _ _ h => h) (.inl ⟨by kernel_rfl, fun w _ => by go_simp⟩) hS0 ?_
    refine takeH 5 (.int .u8 x) (some 32) rfl rfl (by kernel_rfl) (by kernel_rfl) (by kernel_rfl) (fun _ _ _ h => h) (.inl ⟨by kernel_rfl, fun w' hw => by have hc := rowcell hw.1 1; go_simp⟩) hS0 ?_
    go_simp
    refine takeH 6 (.pointer (some ⟨gx, 0, none⟩)) (some 33) rfl rfl (by kernel_rfl) (by kernel_rfl) (by kernel_rfl) (fun _ _ _ h => h) (.inl ⟨by kernel_rfl, fun w _ => by go_simp⟩) hS0 ?_
    refine takeH 7 (.pointer (some ⟨gx, 0, none⟩)) (some 34) rfl rfl (by kernel_rfl) (by kernel_rfl) (by kernel_rfl) (fun _ _ _ h => h) (.inl ⟨by kernel_rfl, fun w _ => by go_simp⟩) hS0 ?_
    refine takeH 8 (.pointer (some ⟨gx, x, none⟩)) (some 35) rfl rfl (by kernel_rfl) (by kernel_rfl) (by kernel_rfl) (fun _ _ _ h => h) (.inl ⟨by kernel_rfl, fun w _ => by go_simp⟩) hS0 ?_
    go_simp
    refine takeH 9 (.int .u32 rx) (some 36) rfl rfl (by kernel_rfl) (by kernel_rfl) (by kernel_rfl) (fun _ _ _ h => h) (.inl ⟨by kernel_rfl, fun w' hw => by have hc : w'.cell? ⟨gx, x, none⟩ = some (.int .u32 rx) := hw.2; go_simp⟩) hS0 ?_
    go_simp
    refine callH 10 rfl (by kernel_rfl) (by kernel_rfl) (some 37) rfl 59 #[.pointer (some ⟨gs, 0, none⟩), .int .u32 at_, .int .i64 4, .int .u32 rx] ?hrun ((HST.out _ (HH.out.keep (drewb w1))).mono ?_)
    case hrun => go_simp
    rintro e w2 ⟨he, F', ht, hu, hcg⟩
    have hS4 : (fun w' : World => w'.heap[N]? = some (.cells #[.int .u8 (29 : Nat), .int .u8 x, .int .u8 y, .int .u8 z] 24 (0, 0)) ∧ w'.cell? ⟨gx, x, none⟩ = some (.int .u32 rx)) w2 := ⟨hcg.blk hS0.1 HNG.out, by rw [World.cell?_of_block (w := World.drew w1) (a := ⟨gx, x, none⟩) (hcg.block gx HGL.out (fun e => by rcases e with e | e; exact HH.out.gx_ne.1 e; exact HH.out.gx_ne.2.1 e))]; exact cx⟩
    refine ⟨_, he, hS4, ?_⟩
    go_simp
    refine takeH 11 (.int .i64 0) (some 8) rfl rfl (by kernel_rfl) (by kernel_rfl) (by kernel_rfl) (fun _ _ _ h => h) (.inl ⟨by kernel_rfl, fun w _ => by go_simp⟩) hS4 ?_
    refine wpAnyH_done (by kernel_rfl) ?_ _
    go_simp
    have HT := Lib.hid ht
    have HU := Lib.hid hu
    have HCG := Lib.hid hcg
    have HH0 := Lib.hid (HH.out.keep (drewb w1))
    clear ht hu hcg cx hc hS0 hS4 he
    go_wp2_with fail
    go_ret
    have hn : ¬ (64 * m < at_ + bytesN 29) := by have := HIN.out; show ¬ (64 * m < at_ + 4); omega
    have e1 : memI m s 29 x at_ = (⟨s.R, s.at_, stN s.mem at_ 4 (s.R x).toNat⟩, 0) := by unfold memI; rw [if_neg hn]; rfl
    have hrt : (s.R x).toNat = rx := by have := HRX.out; omega
    have hmm : ∀ i, i < 64 * m → stN s.mem at_ 4 rx i = (if at_ ≤ i ∧ i < at_ + min 4 4 then rx / 2 ^ (8 * (i - at_)) % 256 else spMem F (morePs 0 0 m) i) := fun i hi => by
      unfold stN
      rw [show min 4 4 = 4 from rfl, HH.out.mm i hi]
    have hw := HH0.out.upd HT.out (mm := stN s.mem at_ 4 rx) ⟨HU.out.same, HU.out.out, fun i hi => by rw [HU.out.mem i hi]; exact (hmm i (by rwa [HH.out.len] at hi)).symm⟩ HCG.out (fun i hi => by
      unfold stN
      split
      · omega
      · exact HH.out.wf.m0 i hi)
    refine ⟨by rw [e1]; rfl, ⟨F', by rw [e1, hrt]; exact hw⟩, ?_⟩
    exact ((Chg.of_below (mwS g gm gx) HB1.out).trans (Chg.of_below (mwS g gm gx) (drewb w1)) (fun _ _ h => h)).trans HCG.out (fun k _ hk => .inr hk)
  · have hno := fun (w1 : World) (h1 : MW w1 g gm gs base m gx a us v F s) => spaceStore_no h1.sp h1.ok.len at_ ha (4 : Nat) (by omega) (by omega) rx (by rw [h1.len, insideB_nat]; exact decide_eq_false hin)
    have HNO := Lib.hid hno
    have HIN := Lib.hid hin
    clear hno hin
    go_enter Try.func43, Try.ntmps43
    go_wp2_with fail
    obtain ⟨N, hN⟩ : ∃ N, N = w.heap.size := ⟨_, rfl⟩
    rw [← hN] at hc HL1 ⊢
    have HNG := Lib.hid (show ¬ (N = g ∨ N = gm) from by rw [hN]; exact hgg)
    have HGL := Lib.hid (show gx < (w.alloc (.cells #[.int .u8 (29 : Nat), .int .u8 x, .int .u8 y, .int .u8 z] 24)).heap.size from HH.out.rw.lt)
    generalize hw1 : w.alloc (.cells #[.int .u8 (29 : Nat), .int .u8 x, .int .u8 y, .int .u8 z] 24) = w1 at *
    clear hN hw1 hgg
    go_upto_region 14 with fail
    have hS0 : (fun w' : World => w'.heap[N]? = some (.cells #[.int .u8 (29 : Nat), .int .u8 x, .int .u8 y, .int .u8 z] 24 (0, 0)) ∧ w'.cell? ⟨gx, x, none⟩ = some (.int .u32 rx)) (World.drew w1) := ⟨HL1.out, cx⟩
    refine wp_region_held (S := fun w' => w'.heap[N]? = some (.cells #[.int .u8 (29 : Nat), .int .u8 x, .int .u8 y, .int .u8 z] 24 (0, 0)) ∧ w'.cell? ⟨gx, x, none⟩ = some (.int .u32 rx)) (by kernel_rfl) ?_
    change wpAnyH _ _ _ _ _ _ _ _ (World.drew _)
    refine takeH 0 (.pointer (some ⟨gs, 0, none⟩)) (some 27) rfl rfl (by kernel_rfl) (by kernel_rfl) (by kernel_rfl) (fun _ _ _ h => h) (.inl ⟨by kernel_rfl, fun w _ => by go_simp⟩) hS0 ?_
    refine takeH 1 (.int .u32 at_) (some 28) rfl rfl (by kernel_rfl) (by kernel_rfl) (by kernel_rfl) (fun _ _ _ h => h) (.inl ⟨by kernel_rfl, fun w _ => by go_simp⟩) hS0 ?_
    refine takeH 2 (.int .i64 4) (some 29) rfl rfl (by kernel_rfl) (by kernel_rfl) (by kernel_rfl) (fun _ _ _ h => h) (.inl ⟨by kernel_rfl, fun w _ => by go_simp⟩) hS0 ?_
    go_simp
    refine takeH 3 (.pointer (some ⟨gx, 0, none⟩)) (some 30) rfl rfl (by kernel_rfl) (by kernel_rfl) (by kernel_rfl) (fun _ _ _ h => h) (.inl ⟨by kernel_rfl, fun w _ => by go_simp⟩) hS0 ?_
    refine takeH 4 (.pointer (some ⟨N, 1, none⟩)) (some 31) rfl rfl (by kernel_rfl) (by kernel_rfl) (by kernel_rfl) (fun _ _ _ h => h) (.inl ⟨by kernel_rfl, fun w _ => by go_simp⟩) hS0 ?_
    refine takeH 5 (.int .u8 x) (some 32) rfl rfl (by kernel_rfl) (by kernel_rfl) (by kernel_rfl) (fun _ _ _ h => h) (.inl ⟨by kernel_rfl, fun w' hw => by have hc := rowcell hw.1 1; go_simp⟩) hS0 ?_
    go_simp
    refine takeH 6 (.pointer (some ⟨gx, 0, none⟩)) (some 33) rfl rfl (by kernel_rfl) (by kernel_rfl) (by kernel_rfl) (fun _ _ _ h => h) (.inl ⟨by kernel_rfl, fun w _ => by go_simp⟩) hS0 ?_
    refine takeH 7 (.pointer (some ⟨gx, 0, none⟩)) (some 34) rfl rfl (by kernel_rfl) (by kernel_rfl) (by kernel_rfl) (fun _ _ _ h => h) (.inl ⟨by kernel_rfl, fun w _ => by go_simp⟩) hS0 ?_
    refine takeH 8 (.pointer (some ⟨gx, x, none⟩)) (some 35) rfl rfl (by kernel_rfl) (by kernel_rfl) (by kernel_rfl) (fun _ _ _ h => h) (.inl ⟨by kernel_rfl, fun w _ => by go_simp⟩) hS0 ?_
    go_simp
    refine takeH 9 (.int .u32 rx) (some 36) rfl rfl (by kernel_rfl) (by kernel_rfl) (by kernel_rfl) (fun _ _ _ h => h) (.inl ⟨by kernel_rfl, fun w' hw => by have hc : w'.cell? ⟨gx, x, none⟩ = some (.int .u32 rx) := hw.2; go_simp⟩) hS0 ?_
    go_simp
    refine callH 10 rfl (by kernel_rfl) (by kernel_rfl) (some 37) rfl 59 #[.pointer (some ⟨gs, 0, none⟩), .int .u32 at_, .int .i64 4, .int .u32 rx] ?hrun ((HNO.out _ (HH.out.keep (drewb w1))).mono ?_)
    case hrun => go_simp
    rintro e w2 ⟨he, rfl⟩
    refine ⟨_, he, hS0, ?_⟩
    go_simp
    refine takeH 11 (.int .i64 20) (some 8) rfl rfl (by kernel_rfl) (by kernel_rfl) (by kernel_rfl) (fun _ _ _ h => h) (.inl ⟨by kernel_rfl, fun w _ => by go_simp⟩) hS0 ?_
    refine wpAnyH_done (by kernel_rfl) ?_ _
    go_simp
    have HH0 := Lib.hid (HH.out.keep (drewb w1))
    clear hS0 cx hc he
    go_wp2_with fail
    go_ret
    have e1 : memI m s 29 x at_ = (s, 20) := by unfold memI; rw [if_pos (by have := HIN.out; show 64 * m < at_ + 4; omega)]
    refine ⟨by rw [e1]; rfl, ⟨F, by rw [e1]; exact HH0.out⟩, (Chg.of_below (mwS g gm gx) HB1.out).trans (Chg.of_below (mwS g gm gx) (drewb w1)) (fun _ _ h => h)⟩
end Go.Proofs.Ytapcbfeifeobhaa

set_option linter.unusedVariables false
set_option linter.unusedSimpArgs false
namespace Go.Proofs.Ytapcbfeifeobhaa
open Go.RowKit
set_option maxRecDepth 20000 in
set_option maxHeartbeats 8000000 in
theorem mem_22 {w : World} {g gm gs base m gx : Nat} {a : Option Addr} {us : Nat → Nat} {v : Value} {F : Nat × Nat → Option (Nat → Nat)} {s : Mach} (h : MW w g gm gs base m gx a us v F s) (x y z : Nat) (hx : x < 16) (at_ : Nat) (ha : at_ ≤ 4294967295) :
    Calls Try.prog 43 #[.pointer (some ⟨gx, 0, none⟩), .pointer (some ⟨gs, 0, none⟩), .agg #[.int .u8 (22 : Nat), .int .u8 x, .int .u8 y, .int .u8 z], .int .u32 at_] w (MemP g gm gs base m gx a us v s 22 x at_ w) := by
  have hb1 := bnew w (.cells #[.int .u8 (22 : Nat), .int .u8 x, .int .u8 y, .int .u8 z] 24)
  have hl1 := heap_alloc_last w (.cells #[.int .u8 (22 : Nat), .int .u8 x, .int .u8 y, .int .u8 z] 24)
  have hc := rowcell hl1
  have hh := h.keep hb1
  have HH := Lib.hid hh
  have HB1 := Lib.hid hb1
  have HL1 := Lib.hid hl1
  have hm32 := h.m32
  obtain ⟨rx, hrx⟩ : ∃ rx : Nat, (rx : Int) = s.R x := ⟨(s.R x).toNat, Int.toNat_of_nonneg (h.wf.r0 x hx).1⟩
  have cx : (w.alloc (.cells #[.int .u8 (22 : Nat), .int .u8 x, .int .u8 y, .int .u8 z] 24)).cell? ⟨gx, x, none⟩ = some (.int .u32 rx) := by
    rw [hh.rw.cell (i := x) (by omega)]; unfold stV; rw [if_pos hx, hrx]
  have hxi : (x : Int) < 16 := by omega
  have HRX := Lib.hid hrx
  clear hb1 hl1 hh h hrx
  have hud : undef = Value.tuple #[] := rfl
  clear hud
  by_cases hin : at_ + 1 ≤ 64 * m
  · have hld := fun (w1 : World) (h1 : MW w1 g gm gs base m gx a us v F s) => spaceLoad_val h1.tp h1.sp h1.ok at_ 1 ha (by omega) (by rw [h1.len]; exact hin) h1.b255
    have hlt := ldN_lt (mem := spMem F (morePs 0 0 m)) (at_ := at_) 1 (fun i hi => HH.out.b255 _ (by rw [HH.out.len]; omega))
    obtain ⟨x1, hx1⟩ : ∃ x1, x1 = ldN (spMem F (morePs 0 0 m)) at_ 1 := ⟨_, rfl⟩
    rw [← hx1] at hld hlt
    have hx1b : (x1 : Int) ≤ 4294967295 := by omega
    have HLD := Lib.hid hld
    have HIN := Lib.hid hin
    have HX1 := Lib.hid hx1
    clear hld hin hlt hx1
    go_enter Try.func43, Try.ntmps43
    go_wp2_with fail
    obtain ⟨N, hN⟩ : ∃ N, N = w.heap.size := ⟨_, rfl⟩
    rw [← hN] at hc ⊢
    have HN := Lib.hid hN
    generalize w.alloc (.cells #[.int .u8 (22 : Nat), .int .u8 x, .int .u8 y, .int .u8 z] 24) = w1 at *
    clear hN
    refine (HLD.out _ HH.out).mono ?_
    rintro e w2 ⟨rfl, hb2⟩
    have hl2 := bkeep hb2 HL1.out
    rw [← HN.out] at hl2
    have hc2 := rowcell hl2
    have hh2 := HH.out.keep hb2
    have cx2 : w2.cell? ⟨gx, x, none⟩ = some (.int .u32 rx) := by rw [hh2.rw.cell (i := x) (by omega)]; unfold stV; rw [if_pos hx, HRX.out]
    have HH2 := Lib.hid hh2
    have HB2 := Lib.hid (bnext HB1.out hb2)
    have HL2 := Lib.hid hl2
    clear hb2 hl2 hh2 cx hc
    go_wp2_with fail
    go_upto_region 23 with fail
    have hh3 := HH2.out.keep (drewb w2)
    have hl3 := bkeep (drewb w2) HL2.out
    have hc3 := rowcell hl3
    have cx3 : (World.drew w2).cell? ⟨gx, x, none⟩ = some (.int .u32 rx) := cx2
    have cf := hh3.rw.frozen
    have HH3 := Lib.hid hh3
    clear hc2 hl3 hh3 cx2
    refine wp_region_still_tail 7 (by kernel_rfl) (by kernel_rfl) ?_
    simp only [List.take_succ_cons, List.take_zero, List.drop_succ_cons, List.drop_zero]
    change wpStill _ _ (World.drew w2) _ _ _
    iterate 7 still_step
    refine wpStill_nil ?_
    change wpList _ _ _ _ _ (World.drew w2)
    go_wp2_with fail
    go_ret
    have hn : ¬ (64 * m < at_ + bytesN 22) := by have := HIN.out; show ¬ (64 * m < at_ + 1); omega
    have hcg := ldN_congr (m1 := s.mem) (m2 := spMem F (morePs 0 0 m)) (at_ := at_) 1 (fun i hi => HH.out.mm _ (by have := HIN.out; omega))
    have e1 : memI m s 22 x at_ = (setR s x (x1), 0) := by unfold memI; rw [if_neg hn, if_neg (by omega), show bytesN 22 = 1 from rfl, hcg, ← HX1.out]; rfl
    have o4 := one_setCell (World.drew w2) gx x (.int .u32 (x1))
    have hr4 := row_set HH3.out.rw x hx (x1)
    have hwf := HH3.out.wf.setR x (x1) (by omega) (by omega)
    refine ⟨by rw [e1]; rfl, ⟨F, by rw [e1]; exact HH3.out.regs (chgOne (Chg.of_below _ (Below.refl _ _)) o4 (fun x e => .inl (by cases e; rfl))) hr4 rfl hwf⟩, chgOne ((Chg.of_below (mwS g gm gx) HB2.out).trans (Chg.of_below (mwS g gm gx) (drewb w2)) (fun _ _ h => h)) o4 (fun x e => .inl (.inl (by cases e; rfl)))⟩
  · have hno := fun (w1 : World) (h1 : MW w1 g gm gs base m gx a us v F s) => spaceLoad_no h1.sp h1.ok.len at_ ha (1 : Nat) (by omega) (by omega) (by rw [h1.len, insideB_nat]; exact decide_eq_false hin)
    have HNO := Lib.hid hno
    have HIN := Lib.hid hin
    clear hno hin
    go_enter Try.func43, Try.ntmps43
    go_wp2_with fail
    refine (HNO.out _ HH.out).mono ?_
    rintro e w2 ⟨rfl, rfl⟩
    go_wp2_with fail
    go_ret
    have e1 : memI m s 22 x at_ = (s, 20) := by unfold memI; rw [if_pos (by have := HIN.out; show 64 * m < at_ + 1; omega)]
    refine ⟨by rw [e1]; rfl, ⟨F, by rw [e1]; exact HH.out⟩, Chg.of_below _ HB1.out⟩
set_option maxRecDepth 20000 in
set_option maxHeartbeats 8000000 in
theorem mem_23 {w : World} {g gm gs base m gx : Nat} {a : Option Addr} {us : Nat → Nat} {v : Value} {F : Nat × Nat → Option (Nat → Nat)} {s : Mach} (h : MW w g gm gs base m gx a us v F s) (x y z : Nat) (hx : x < 16) (at_ : Nat) (ha : at_ ≤ 4294967295) :
    Calls Try.prog 43 #[.pointer (some ⟨gx, 0, none⟩), .pointer (some ⟨gs, 0, none⟩), .agg #[.int .u8 (23 : Nat), .int .u8 x, .int .u8 y, .int .u8 z], .int .u32 at_] w (MemP g gm gs base m gx a us v s 23 x at_ w) := by
  have hb1 := bnew w (.cells #[.int .u8 (23 : Nat), .int .u8 x, .int .u8 y, .int .u8 z] 24)
  have hl1 := heap_alloc_last w (.cells #[.int .u8 (23 : Nat), .int .u8 x, .int .u8 y, .int .u8 z] 24)
  have hc := rowcell hl1
  have hh := h.keep hb1
  have HH := Lib.hid hh
  have HB1 := Lib.hid hb1
  have HL1 := Lib.hid hl1
  have hm32 := h.m32
  obtain ⟨rx, hrx⟩ : ∃ rx : Nat, (rx : Int) = s.R x := ⟨(s.R x).toNat, Int.toNat_of_nonneg (h.wf.r0 x hx).1⟩
  have cx : (w.alloc (.cells #[.int .u8 (23 : Nat), .int .u8 x, .int .u8 y, .int .u8 z] 24)).cell? ⟨gx, x, none⟩ = some (.int .u32 rx) := by
    rw [hh.rw.cell (i := x) (by omega)]; unfold stV; rw [if_pos hx, hrx]
  have hxi : (x : Int) < 16 := by omega
  have HRX := Lib.hid hrx
  clear hb1 hl1 hh h hrx
  have hud : undef = Value.tuple #[] := rfl
  clear hud
  by_cases hin : at_ + 1 ≤ 64 * m
  · have hld := fun (w1 : World) (h1 : MW w1 g gm gs base m gx a us v F s) => spaceLoad_val h1.tp h1.sp h1.ok at_ 1 ha (by omega) (by rw [h1.len]; exact hin) h1.b255
    have hlt := ldN_lt (mem := spMem F (morePs 0 0 m)) (at_ := at_) 1 (fun i hi => HH.out.b255 _ (by rw [HH.out.len]; omega))
    obtain ⟨x1, hx1⟩ : ∃ x1, x1 = ldN (spMem F (morePs 0 0 m)) at_ 1 := ⟨_, rfl⟩
    rw [← hx1] at hld hlt
    have hx1b : (x1 : Int) ≤ 4294967295 := by omega
    have HLD := Lib.hid hld
    have HIN := Lib.hid hin
    have HX1 := Lib.hid hx1
    clear hld hin hlt hx1
    go_enter Try.func43, Try.ntmps43
    go_wp2_with fail
    obtain ⟨N, hN⟩ : ∃ N, N = w.heap.size := ⟨_, rfl⟩
    rw [← hN] at hc ⊢
    have HN := Lib.hid hN
    generalize w.alloc (.cells #[.int .u8 (23 : Nat), .int .u8 x, .int .u8 y, .int .u8 z] 24) = w1 at *
    clear hN
    refine (HLD.out _ HH.out).mono ?_
    rintro e w2 ⟨rfl, hb2⟩
    have hl2 := bkeep hb2 HL1.out
    rw [← HN.out] at hl2
    have hc2 := rowcell hl2
    have hh2 := HH.out.keep hb2
    have cx2 : w2.cell? ⟨gx, x, none⟩ = some (.int .u32 rx) := by rw [hh2.rw.cell (i := x) (by omega)]; unfold stV; rw [if_pos hx, HRX.out]
    have HH2 := Lib.hid hh2
    have HB2 := Lib.hid (bnext HB1.out hb2)
    have HL2 := Lib.hid hl2
    clear hb2 hl2 hh2 cx hc
    go_wp2_with fail
    go_upto_region 23 with fail
    have hh3 := HH2.out.keep (drewb w2)
    have hl3 := bkeep (drewb w2) HL2.out
    have hc3 := rowcell hl3
    have cx3 : (World.drew w2).cell? ⟨gx, x, none⟩ = some (.int .u32 rx) := cx2
    have cf := hh3.rw.frozen
    have HH3 := Lib.hid hh3
    clear hc2 hl3 hh3 cx2
    refine wp_region_still_tail 7 (by kernel_rfl) (by kernel_rfl) ?_
    simp only [List.take_succ_cons, List.take_zero, List.drop_succ_cons, List.drop_zero]
    change wpStill _ _ (World.drew w2) _ _ _
    iterate 7 still_step
    refine wpStill_nil ?_
    change wpList _ _ _ _ _ (World.drew w2)
    go_wp2_with fail
    go_ret
    have hn : ¬ (64 * m < at_ + bytesN 23) := by have := HIN.out; show ¬ (64 * m < at_ + 1); omega
    have hcg := ldN_congr (m1 := s.mem) (m2 := spMem F (morePs 0 0 m)) (at_ := at_) 1 (fun i hi => HH.out.mm _ (by have := HIN.out; omega))
    have e1 : memI m s 23 x at_ = (setR s x (sx8 x1), 0) := by unfold memI; rw [if_neg hn, if_neg (by omega), show bytesN 23 = 1 from rfl, hcg, ← HX1.out]; rfl
    have o4 := one_setCell (World.drew w2) gx x (.int .u32 (sx8 x1))
    have hr4 := row_set HH3.out.rw x hx (sx8 x1)
    have hwf := HH3.out.wf.setR x (sx8 x1) (by exact (sx8_le _).1) (by exact (sx8_le _).2)
    refine ⟨by rw [e1]; rfl, ⟨F, by rw [e1]; exact HH3.out.regs (chgOne (Chg.of_below _ (Below.refl _ _)) o4 (fun x e => .inl (by cases e; rfl))) hr4 rfl hwf⟩, chgOne ((Chg.of_below (mwS g gm gx) HB2.out).trans (Chg.of_below (mwS g gm gx) (drewb w2)) (fun _ _ h => h)) o4 (fun x e => .inl (.inl (by cases e; rfl)))⟩
  · have hno := fun (w1 : World) (h1 : MW w1 g gm gs base m gx a us v F s) => spaceLoad_no h1.sp h1.ok.len at_ ha (1 : Nat) (by omega) (by omega) (by rw [h1.len, insideB_nat]; exact decide_eq_false hin)
    have HNO := Lib.hid hno
    have HIN := Lib.hid hin
    clear hno hin
    go_enter Try.func43, Try.ntmps43
    go_wp2_with fail
    refine (HNO.out _ HH.out).mono ?_
    rintro e w2 ⟨rfl, rfl⟩
    go_wp2_with fail
    go_ret
    have e1 : memI m s 23 x at_ = (s, 20) := by unfold memI; rw [if_pos (by have := HIN.out; show 64 * m < at_ + 1; omega)]
    refine ⟨by rw [e1]; rfl, ⟨F, by rw [e1]; exact HH.out⟩, Chg.of_below _ HB1.out⟩
end Go.Proofs.Ytapcbfeifeobhaa

set_option linter.unusedVariables false
set_option linter.unusedSimpArgs false
namespace Go.Proofs.Ytapcbfeifeobhaa
open Go.RowKit
set_option maxRecDepth 20000 in
set_option maxHeartbeats 8000000 in
theorem mem_24 {w : World} {g gm gs base m gx : Nat} {a : Option Addr} {us : Nat → Nat} {v : Value} {F : Nat × Nat → Option (Nat → Nat)} {s : Mach} (h : MW w g gm gs base m gx a us v F s) (x y z : Nat) (hx : x < 16) (at_ : Nat) (ha : at_ ≤ 4294967295) :
    Calls Try.prog 43 #[.pointer (some ⟨gx, 0, none⟩), .pointer (some ⟨gs, 0, none⟩), .agg #[.int .u8 (24 : Nat), .int .u8 x, .int .u8 y, .int .u8 z], .int .u32 at_] w (MemP g gm gs base m gx a us v s 24 x at_ w) := by
  have hb1 := bnew w (.cells #[.int .u8 (24 : Nat), .int .u8 x, .int .u8 y, .int .u8 z] 24)
  have hl1 := heap_alloc_last w (.cells #[.int .u8 (24 : Nat), .int .u8 x, .int .u8 y, .int .u8 z] 24)
  have hc := rowcell hl1
  have hh := h.keep hb1
  have HH := Lib.hid hh
  have HB1 := Lib.hid hb1
  have HL1 := Lib.hid hl1
  have hm32 := h.m32
  obtain ⟨rx, hrx⟩ : ∃ rx : Nat, (rx : Int) = s.R x := ⟨(s.R x).toNat, Int.toNat_of_nonneg (h.wf.r0 x hx).1⟩
  have cx : (w.alloc (.cells #[.int .u8 (24 : Nat), .int .u8 x, .int .u8 y, .int .u8 z] 24)).cell? ⟨gx, x, none⟩ = some (.int .u32 rx) := by
    rw [hh.rw.cell (i := x) (by omega)]; unfold stV; rw [if_pos hx, hrx]
  have hxi : (x : Int) < 16 := by omega
  have HRX := Lib.hid hrx
  clear hb1 hl1 hh h hrx
  have hud : undef = Value.tuple #[] := rfl
  clear hud
  by_cases hin : at_ + 2 ≤ 64 * m
  · have hld := fun (w1 : World) (h1 : MW w1 g gm gs base m gx a us v F s) => spaceLoad_val h1.tp h1.sp h1.ok at_ 2 ha (by omega) (by rw [h1.len]; exact hin) h1.b255
    have hlt := ldN_lt (mem := spMem F (morePs 0 0 m)) (at_ := at_) 2 (fun i hi => HH.out.b255 _ (by rw [HH.out.len]; omega))
    obtain ⟨x1, hx1⟩ : ∃ x1, x1 = ldN (spMem F (morePs 0 0 m)) at_ 2 := ⟨_, rfl⟩
    rw [← hx1] at hld hlt
    have hx1b : (x1 : Int) ≤ 4294967295 := by omega
    have HLD := Lib.hid hld
    have HIN := Lib.hid hin
    have HX1 := Lib.hid hx1
    clear hld hin hlt hx1
    go_enter Try.func43, Try.ntmps43
    go_wp2_with fail
    obtain ⟨N, hN⟩ : ∃ N, N = w.heap.size := ⟨_, rfl⟩
    rw [← hN] at hc ⊢
    have HN := Lib.hid hN
    generalize w.alloc (.cells #[.int .u8 (24 : Nat), .int .u8 x, .int .u8 y, .int .u8 z] 24) = w1 at *
    clear hN
    refine (HLD.out _ HH.out).mono ?_
    rintro e w2 ⟨rfl, hb2⟩
    have hl2 := bkeep hb2 HL1.out
    rw [← HN.out] at hl2
    have hc2 := rowcell hl2
    have hh2 := HH.out.keep hb2
    have cx2 : w2.cell? ⟨gx, x, none⟩ = some (.int .u32 rx) := by rw [hh2.rw.cell (i := x) (by omega)]; unfold stV; rw [if_pos hx, HRX.out]
    have HH2 := Lib.hid hh2
    have HB2 := Lib.hid (bnext HB1.out hb2)
    have HL2 := Lib.hid hl2
    clear hb2 hl2 hh2 cx hc
    go_wp2_with fail
    go_upto_region 23 with fail
    have hh3 := HH2.out.keep (drewb w2)
    have hl3 := bkeep (drewb w2) HL2.out
    have hc3 := rowcell hl3
    have cx3 : (World.drew w2).cell? ⟨gx, x, none⟩ = some (.int .u32 rx) := cx2
    have cf := hh3.rw.frozen
    have HH3 := Lib.hid hh3
    clear hc2 hl3 hh3 cx2
    refine wp_region_still_tail 7 (by kernel_rfl) (by kernel_rfl) ?_
    simp only [List.take_succ_cons, List.take_zero, List.drop_succ_cons, List.drop_zero]
    change wpStill _ _ (World.drew w2) _ _ _
    iterate 7 still_step
    refine wpStill_nil ?_
    change wpList _ _ _ _ _ (World.drew w2)
    go_wp2_with fail
    go_ret
    have hn : ¬ (64 * m < at_ + bytesN 24) := by have := HIN.out; show ¬ (64 * m < at_ + 2); omega
    have hcg := ldN_congr (m1 := s.mem) (m2 := spMem F (morePs 0 0 m)) (at_ := at_) 2 (fun i hi => HH.out.mm _ (by have := HIN.out; omega))
    have e1 : memI m s 24 x at_ = (setR s x (x1), 0) := by unfold memI; rw [if_neg hn, if_neg (by omega), show bytesN 24 = 2 from rfl, hcg, ← HX1.out]; rfl
    have o4 := one_setCell (World.drew w2) gx x (.int .u32 (x1))
    have hr4 := row_set HH3.out.rw x hx (x1)
    have hwf := HH3.out.wf.setR x (x1) (by omega) (by omega)
    refine ⟨by rw [e1]; rfl, ⟨F, by rw [e1]; exact HH3.out.regs (chgOne (Chg.of_below _ (Below.refl _ _)) o4 (fun x e => .inl (by cases e; rfl))) hr4 rfl hwf⟩, chgOne ((Chg.of_below (mwS g gm gx) HB2.out).trans (Chg.of_below (mwS g gm gx) (drewb w2)) (fun _ _ h => h)) o4 (fun x e => .inl (.inl (by cases e; rfl)))⟩
  · have hno := fun (w1 : World) (h1 : MW w1 g gm gs base m gx a us v F s) => spaceLoad_no h1.sp h1.ok.len at_ ha (2 : Nat) (by omega) (by omega) (by rw [h1.len, insideB_nat]; exact decide_eq_false hin)
    have HNO := Lib.hid hno
    have HIN := Lib.hid hin
    clear hno hin
    go_enter Try.func43, Try.ntmps43
    go_wp2_with fail
    refine (HNO.out _ HH.out).mono ?_
    rintro e w2 ⟨rfl, rfl⟩
    go_wp2_with fail
    go_ret
    have e1 : memI m s 24 x at_ = (s, 20) := by unfold memI; rw [if_pos (by have := HIN.out; show 64 * m < at_ + 2; omega)]
    refine ⟨by rw [e1]; rfl, ⟨F, by rw [e1]; exact HH.out⟩, Chg.of_below _ HB1.out⟩
set_option maxRecDepth 20000 in
set_option maxHeartbeats 8000000 in
theorem mem_25 {w : World} {g gm gs base m gx : Nat} {a : Option Addr} {us : Nat → Nat} {v : Value} {F : Nat × Nat → Option (Nat → Nat)} {s : Mach} (h : MW w g gm gs base m gx a us v F s) (x y z : Nat) (hx : x < 16) (at_ : Nat) (ha : at_ ≤ 4294967295) :
    Calls Try.prog 43 #[.pointer (some ⟨gx, 0, none⟩), .pointer (some ⟨gs, 0, none⟩), .agg #[.int .u8 (25 : Nat), .int .u8 x, .int .u8 y, .int .u8 z], .int .u32 at_] w (MemP g gm gs base m gx a us v s 25 x at_ w) := by
  have hb1 := bnew w (.cells #[.int .u8 (25 : Nat), .int .u8 x, .int .u8 y, .int .u8 z] 24)
  have hl1 := heap_alloc_last w (.cells #[.int .u8 (25 : Nat), .int .u8 x, .int .u8 y, .int .u8 z] 24)
  have hc := rowcell hl1
  have hh := h.keep hb1
  have HH := Lib.hid hh
  have HB1 := Lib.hid hb1
  have HL1 := Lib.hid hl1
  have hm32 := h.m32
  obtain ⟨rx, hrx⟩ : ∃ rx : Nat, (rx : Int) = s.R x := ⟨(s.R x).toNat, Int.toNat_of_nonneg (h.wf.r0 x hx).1⟩
  have cx : (w.alloc (.cells #[.int .u8 (25 : Nat), .int .u8 x, .int .u8 y, .int .u8 z] 24)).cell? ⟨gx, x, none⟩ = some (.int .u32 rx) := by
    rw [hh.rw.cell (i := x) (by omega)]; unfold stV; rw [if_pos hx, hrx]
  have hxi : (x : Int) < 16 := by omega
  have HRX := Lib.hid hrx
  clear hb1 hl1 hh h hrx
  have hud : undef = Value.tuple #[] := rfl
  clear hud
  by_cases hin : at_ + 2 ≤ 64 * m
  · have hld := fun (w1 : World) (h1 : MW w1 g gm gs base m gx a us v F s) => spaceLoad_val h1.tp h1.sp h1.ok at_ 2 ha (by omega) (by rw [h1.len]; exact hin) h1.b255
    have hlt := ldN_lt (mem := spMem F (morePs 0 0 m)) (at_ := at_) 2 (fun i hi => HH.out.b255 _ (by rw [HH.out.len]; omega))
    obtain ⟨x1, hx1⟩ : ∃ x1, x1 = ldN (spMem F (morePs 0 0 m)) at_ 2 := ⟨_, rfl⟩
    rw [← hx1] at hld hlt
    have hx1b : (x1 : Int) ≤ 4294967295 := by omega
    have HLD := Lib.hid hld
    have HIN := Lib.hid hin
    have HX1 := Lib.hid hx1
    clear hld hin hlt hx1
    go_enter Try.func43, Try.ntmps43
    go_wp2_with fail
    obtain ⟨N, hN⟩ : ∃ N, N = w.heap.size := ⟨_, rfl⟩
    rw [← hN] at hc ⊢
    have HN := Lib.hid hN
    generalize w.alloc (.cells #[.int .u8 (25 : Nat), .int .u8 x, .int .u8 y, .int .u8 z] 24) = w1 at *
    clear hN
    refine (HLD.out _ HH.out).mono ?_
    rintro e w2 ⟨rfl, hb2⟩
    have hl2 := bkeep hb2 HL1.out
    rw [← HN.out] at hl2
    have hc2 := rowcell hl2
    have hh2 := HH.out.keep hb2
    have cx2 : w2.cell? ⟨gx, x, none⟩ = some (.int .u32 rx) := by rw [hh2.rw.cell (i := x) (by omega)]; unfold stV; rw [if_pos hx, HRX.out]
    have HH2 := Lib.hid hh2
    have HB2 := Lib.hid (bnext HB1.out hb2)
    have HL2 := Lib.hid hl2
    clear hb2 hl2 hh2 cx hc
    go_wp2_with fail
    go_upto_region 23 with fail
    have hh3 := HH2.out.keep (drewb w2)
    have hl3 := bkeep (drewb w2) HL2.out
    have hc3 := rowcell hl3
    have cx3 : (World.drew w2).cell? ⟨gx, x, none⟩ = some (.int .u32 rx) := cx2
    have cf := hh3.rw.frozen
    have HH3 := Lib.hid hh3
    clear hc2 hl3 hh3 cx2
    refine wp_region_still_tail 7 (by kernel_rfl) (by kernel_rfl) ?_
    simp only [List.take_succ_cons, List.take_zero, List.drop_succ_cons, List.drop_zero]
    change wpStill _ _ (World.drew w2) _ _ _
    iterate 7 still_step
    refine wpStill_nil ?_
    change wpList _ _ _ _ _ (World.drew w2)
    go_wp2_with fail
    go_ret
    have hn : ¬ (64 * m < at_ + bytesN 25) := by have := HIN.out; show ¬ (64 * m < at_ + 2); omega
    have hcg := ldN_congr (m1 := s.mem) (m2 := spMem F (morePs 0 0 m)) (at_ := at_) 2 (fun i hi => HH.out.mm _ (by have := HIN.out; omega))
    have e1 : memI m s 25 x at_ = (setR s x (sx16 x1), 0) := by unfold memI; rw [if_neg hn, if_neg (by omega), show bytesN 25 = 2 from rfl, hcg, ← HX1.out]; rfl
    have o4 := one_setCell (World.drew w2) gx x (.int .u32 (sx16 x1))
    have hr4 := row_set HH3.out.rw x hx (sx16 x1)
    have hwf := HH3.out.wf.setR x (sx16 x1) (by exact (sx16_le _).1) (by exact (sx16_le _).2)
    refine ⟨by rw [e1]; rfl, ⟨F, by rw [e1]; exact HH3.out.regs (chgOne (Chg.of_below _ (Below.refl _ _)) o4 (fun x e => .inl (by cases e; rfl))) hr4 rfl hwf⟩, chgOne ((Chg.of_below (mwS g gm gx) HB2.out).trans (Chg.of_below (mwS g gm gx) (drewb w2)) (fun _ _ h => h)) o4 (fun x e => .inl (.inl (by cases e; rfl)))⟩
  · have hno := fun (w1 : World) (h1 : MW w1 g gm gs base m gx a us v F s) => spaceLoad_no h1.sp h1.ok.len at_ ha (2 : Nat) (by omega) (by omega) (by rw [h1.len, insideB_nat]; exact decide_eq_false hin)
    have HNO := Lib.hid hno
    have HIN := Lib.hid hin
    clear hno hin
    go_enter Try.func43, Try.ntmps43
    go_wp2_with fail
    refine (HNO.out _ HH.out).mono ?_
    rintro e w2 ⟨rfl, rfl⟩
    go_wp2_with fail
    go_ret
    have e1 : memI m s 25 x at_ = (s, 20) := by unfold memI; rw [if_pos (by have := HIN.out; show 64 * m < at_ + 2; omega)]
    refine ⟨by rw [e1]; rfl, ⟨F, by rw [e1]; exact HH.out⟩, Chg.of_below _ HB1.out⟩
set_option maxRecDepth 20000 in
set_option maxHeartbeats 8000000 in
theorem mem_26 {w : World} {g gm gs base m gx : Nat} {a : Option Addr} {us : Nat → Nat} {v : Value} {F : Nat × Nat → Option (Nat → Nat)} {s : Mach} (h : MW w g gm gs base m gx a us v F s) (x y z : Nat) (hx : x < 16) (at_ : Nat) (ha : at_ ≤ 4294967295) :
    Calls Try.prog 43 #[.pointer (some ⟨gx, 0, none⟩), .pointer (some ⟨gs, 0, none⟩), .agg #[.int .u8 (26 : Nat), .int .u8 x, .int .u8 y, .int .u8 z], .int .u32 at_] w (MemP g gm gs base m gx a us v s 26 x at_ w) := by
  have hb1 := bnew w (.cells #[.int .u8 (26 : Nat), .int .u8 x, .int .u8 y, .int .u8 z] 24)
  have hl1 := heap_alloc_last w (.cells #[.int .u8 (26 : Nat), .int .u8 x, .int .u8 y, .int .u8 z] 24)
  have hc := rowcell hl1
  have hh := h.keep hb1
  have HH := Lib.hid hh
  have HB1 := Lib.hid hb1
  have HL1 := Lib.hid hl1
  have hm32 := h.m32
  obtain ⟨rx, hrx⟩ : ∃ rx : Nat, (rx : Int) = s.R x := ⟨(s.R x).toNat, Int.toNat_of_nonneg (h.wf.r0 x hx).1⟩
  have cx : (w.alloc (.cells #[.int .u8 (26 : Nat), .int .u8 x, .int .u8 y, .int .u8 z] 24)).cell? ⟨gx, x, none⟩ = some (.int .u32 rx) := by
    rw [hh.rw.cell (i := x) (by omega)]; unfold stV; rw [if_pos hx, hrx]
  have hxi : (x : Int) < 16 := by omega
  have HRX := Lib.hid hrx
  clear hb1 hl1 hh h hrx
  have hud : undef = Value.tuple #[] := rfl
  clear hud
  by_cases hin : at_ + 4 ≤ 64 * m
  · have hld := fun (w1 : World) (h1 : MW w1 g gm gs base m gx a us v F s) => spaceLoad_val h1.tp h1.sp h1.ok at_ 4 ha (by omega) (by rw [h1.len]; exact hin) h1.b255
    have hlt := ldN_lt (mem := spMem F (morePs 0 0 m)) (at_ := at_) 4 (fun i hi => HH.out.b255 _ (by rw [HH.out.len]; omega))
    obtain ⟨x1, hx1⟩ : ∃ x1, x1 = ldN (spMem F (morePs 0 0 m)) at_ 4 := ⟨_, rfl⟩
    rw [← hx1] at hld hlt
    have hx1b : (x1 : Int) ≤ 4294967295 := by omega
    have HLD := Lib.hid hld
    have HIN := Lib.hid hin
    have HX1 := Lib.hid hx1
    clear hld hin hlt hx1
    go_enter Try.func43, Try.ntmps43
    go_wp2_with fail
    obtain ⟨N, hN⟩ : ∃ N, N = w.heap.size := ⟨_, rfl⟩
    rw [← hN] at hc ⊢
    have HN := Lib.hid hN
    generalize w.alloc (.cells #[.int .u8 (26 : Nat), .int .u8 x, .int .u8 y, .int .u8 z] 24) = w1 at *
    clear hN
    refine (HLD.out _ HH.out).mono ?_
    rintro e w2 ⟨rfl, hb2⟩
    have hl2 := bkeep hb2 HL1.out
    rw [← HN.out] at hl2
    have hc2 := rowcell hl2
    have hh2 := HH.out.keep hb2
    have cx2 : w2.cell? ⟨gx, x, none⟩ = some (.int .u32 rx) := by rw [hh2.rw.cell (i := x) (by omega)]; unfold stV; rw [if_pos hx, HRX.out]
    have HH2 := Lib.hid hh2
    have HB2 := Lib.hid (bnext HB1.out hb2)
    have HL2 := Lib.hid hl2
    clear hb2 hl2 hh2 cx hc
    go_wp2_with fail
    go_upto_region 23 with fail
    have hh3 := HH2.out.keep (drewb w2)
    have hl3 := bkeep (drewb w2) HL2.out
    have hc3 := rowcell hl3
    have cx3 : (World.drew w2).cell? ⟨gx, x, none⟩ = some (.int .u32 rx) := cx2
    have cf := hh3.rw.frozen
    have HH3 := Lib.hid hh3
    clear hc2 hl3 hh3 cx2
    refine wp_region_still_tail 7 (by kernel_rfl) (by kernel_rfl) ?_
    simp only [List.take_succ_cons, List.take_zero, List.drop_succ_cons, List.drop_zero]
    change wpStill _ _ (World.drew w2) _ _ _
    iterate 7 still_step
    refine wpStill_nil ?_
    change wpList _ _ _ _ _ (World.drew w2)
    go_wp2_with fail
    go_ret
    have hn : ¬ (64 * m < at_ + bytesN 26) := by have := HIN.out; show ¬ (64 * m < at_ + 4); omega
    have hcg := ldN_congr (m1 := s.mem) (m2 := spMem F (morePs 0 0 m)) (at_ := at_) 4 (fun i hi => HH.out.mm _ (by have := HIN.out; omega))
    have e1 : memI m s 26 x at_ = (setR s x (x1), 0) := by unfold memI; rw [if_neg hn, if_neg (by omega), show bytesN 26 = 4 from rfl, hcg, ← HX1.out]; rfl
    have o4 := one_setCell (World.drew w2) gx x (.int .u32 (x1))
    have hr4 := row_set HH3.out.rw x hx (x1)
    have hwf := HH3.out.wf.setR x (x1) (by omega) (by omega)
    refine ⟨by rw [e1]; rfl, ⟨F, by rw [e1]; exact HH3.out.regs (chgOne (Chg.of_below _ (Below.refl _ _)) o4 (fun x e => .inl (by cases e; rfl))) hr4 rfl hwf⟩, chgOne ((Chg.of_below (mwS g gm gx) HB2.out).trans (Chg.of_below (mwS g gm gx) (drewb w2)) (fun _ _ h => h)) o4 (fun x e => .inl (.inl (by cases e; rfl)))⟩
  · have hno := fun (w1 : World) (h1 : MW w1 g gm gs base m gx a us v F s) => spaceLoad_no h1.sp h1.ok.len at_ ha (4 : Nat) (by omega) (by omega) (by rw [h1.len, insideB_nat]; exact decide_eq_false hin)
    have HNO := Lib.hid hno
    have HIN := Lib.hid hin
    clear hno hin
    go_enter Try.func43, Try.ntmps43
    go_wp2_with fail
    refine (HNO.out _ HH.out).mono ?_
    rintro e w2 ⟨rfl, rfl⟩
    go_wp2_with fail
    go_ret
    have e1 : memI m s 26 x at_ = (s, 20) := by unfold memI; rw [if_pos (by have := HIN.out; show 64 * m < at_ + 4; omega)]
    refine ⟨by rw [e1]; rfl, ⟨F, by rw [e1]; exact HH.out⟩, Chg.of_below _ HB1.out⟩
end Go.Proofs.Ytapcbfeifeobhaa
