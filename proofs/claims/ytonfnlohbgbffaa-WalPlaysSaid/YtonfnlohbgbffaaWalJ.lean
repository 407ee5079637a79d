/- The laws of layer 4 (wal): Awake. -/
import Derived.Test.YtonfnlohbgbffaaWalI
import Derived.Test.YtonfnlohbgbffaaDiskF
set_option linter.unusedVariables false
set_option linter.unusedSimpArgs false
namespace Go.Proofs.Ytonfnlohbgbffaa
open Go.RowKit
open Go.Maps (Keyed)

theorem wpList_build {P : Program} {ops : Array Oper} {Q : Exit → Act → World → Prop} {a : Act} {rest : List Oper} {o : Oper} {w : World} (hw : Region.wanted o (yielded ops a.tmps) = true) (t : TypeId) (parts : Array (Nat × Operand)) (ho : o.op = .build t parts) (d : Option Tmp) (hd : o.dst = d)
    (cells : Array Value) (hf : P.built t (parts.map fun (i, x) => (i, a.eval x)).toList = some cells) (h : wpList P ops Q rest (a.put d (.agg cells)) w) : wpList P ops Q (o :: rest) a w :=
  wpList_by hw d hd (by unfold execOp; simp only [ho, Sem.run_bind, run_build w t _ cells hf, Result.andThen_ok]; rfl) h
def p7 (i : Nat) : Nat := if i = 0 then 7 else 0
theorem p7_u8 (i : Nat) : p7 i ≤ 255 := by unfold p7; split <;> omega
theorem pg_same {f : Nat → Nat} (hf : ∀ i, f i ≤ 255) (w : World) : (Op.equalIn 10000 52 (.agg (rowArr 64 (pgC f))) (.agg (rowArr 64 (pgC f)))).run Try.prog w = .ok true w :=
  equal_u8s (fun v hv => by
    obtain ⟨i, hi⟩ := List.mem_iff_getElem?.1 hv
    obtain ⟨h1, rfl⟩ := rowArr_get _ _ _ _ hi
    have := hf i
    exact ⟨f i, rfl, by omega, by omega⟩) (rowArr_size _ _) w
def dz : DSt := ⟨fun _ _ => 0, -1, false, 0⟩
theorem dzNew (n : Nat) (h : n ≤ 65536) (w : World) : Calls Try.prog 43 #[.int .i64 n] w fun e w' => ∃ gd gb, e = .returned (.tuple #[.pointer (some ⟨gd, 0, none⟩), .int .i64 0]) ∧ DXs w' gd gb n dz ∧ w.heap.size ≤ gd ∧ w.heap.size ≤ gb ∧ Below w.heap.size w w' := by
  refine (diskNew_ok n h w).mono ?_
  rintro e w' ⟨rfl, h1, h2⟩
  exact ⟨_, _, rfl, ⟨⟨⟨_, _, h1⟩, fun _ _ => by simp [dz], h, by simp [dz], by simp [dz]⟩, h1.c3⟩, by omega, Nat.le_refl _, h2⟩
section
variable {w w' : World} {gd gb gl gt gm n first : Nat} {F : Int → Option (Nat → Nat)} {bad : Int} {s s' : DSt}
theorem DXs.open_ (h : DXs w gd gb n s) (first : Nat) (hf : first + 31 ≤ n) :
    Calls Try.prog 44 #[.pointer (some ⟨gd, 0, none⟩), .int .i64 first] w fun e w' => ∃ gl, e = .returned (.tuple #[.pointer (some ⟨gl, 0, none⟩), .int .i64 0]) ∧ LXs w' gd gb gl n first s ∧ w.heap.size ≤ gl ∧ Below w.heap.size w w' :=
  (walOpen_ok h.toDX first hf).mono (fun e w' ⟨gl, h1, h2, h3, h4⟩ => ⟨gl, h1, ⟨h2, cell_keep h.cn (h4.block _ h.toDX.lt.1)⟩, h3, h4⟩)
theorem LXs.begin_ (h : LXs w gd gb gl n first s) :
    Calls Try.prog 47 #[.pointer (some ⟨gl, 0, none⟩)] w fun e w' => ∃ gt gm, e = .returned (.pointer (some ⟨gt, 0, none⟩)) ∧ TXs w' gd gb gl gt gm n first (fun _ => none) 0 s ∧ w.heap.size ≤ gt ∧ w.heap.size ≤ gm ∧ Below w.heap.size w w' :=
  (walBegin_ok h.toLX).mono (fun e w' ⟨gt, gm, h1, h2, h3, h4, h5⟩ => ⟨gt, gm, h1, ⟨h2, cell_keep h.cn (h5.block _ h.dx.lt.1)⟩, h3, h4, h5⟩)
theorem TXs.put_ (h : TXs w gd gb gl gt gm n first F bad s) (k : Nat) (hk : k < n) (hr : k < first ∨ first + 30 < k) (hN : F k ≠ none ∨ mapN w gm ≠ 30) {f : Nat → Nat} (hf : ∀ i, f i ≤ 255) :
    Calls Try.prog 34 #[.pointer (some ⟨gt, 0, none⟩), .int .i64 k, pageV f] w fun e w' => e = .returned (.int .i64 0) ∧ TXs w' gd gb gl gt gm n first (putF F k f) bad s ∧ Chg (fun b => b = gm) w w' :=
  (txnPut_ok h.toTX k hk hr hN hf).mono (fun e w' ⟨h1, h2, h3⟩ => ⟨h1, h.same h2 h3 (fun e => h.toTX.ne.2.1 e.symm), h3⟩)
theorem LXs.counts (h : DXs w gd gb n s) : Calls Try.prog 78 #[.pointer (some ⟨gd, 0, none⟩)] w fun e w' => ∃ r : Int, e = .returned (.tuple #[.int .i64 r, .int .i64 s.c]) ∧ ∃ k, w' = w.drewN k := by
  obtain ⟨x, y, hdk⟩ := h.dk
  have hx : (Value.int .i64 x) = .int .i64 s.c := Option.some.inj (hdk.c3.symm.trans h.cn)
  injection hx with _ hx
  subst hx
  exact (diskCounts_ok hdk).mono (fun e w' ⟨h1, h2⟩ => ⟨y, h1, h2⟩)
end
theorem mapN_none {w : World} {P : Program} {t : TypeId} {g : Nat} {kv : Int → Value} {vv : (Nat → Nat) → Value} (h : MK w P t g kv vv (fun _ => none)) : mapN w g = 0 := by
  have := h.len_le [] (fun a ha => absurd rfl ha)
  simpa using this
theorem keys_one {f : Nat → Nat} {k : Nat} {L : List Nat} (h : KeysOf (putF (fun _ => none) (k : Int) f) L) : L = [k] := by
  have h1 : k ∈ L := by
    obtain ⟨j, hj, e⟩ := h.all k (by unfold putF; simp)
    have : j = k := by omega
    exact this ▸ hj
  have h2 : ∀ j ∈ L, j = k := fun j hj => by
    have := h.yes j hj
    unfold putF at this
    split at this
    · omega
    · exact absurd rfl this
  match L, h1, h2, h.up with
  | [a], _, h2, _ => rw [h2 a (by simp)]
  | a :: b :: L, _, h2, hu => 
    rw [List.pairwise_cons] at hu
    have := hu.1 b (by simp)
    have := h2 a (by simp)
    have := h2 b (by simp)
    omega
theorem awake_plain (G : Nat → Nat → Nat) : (commit 1 G [40] (dz.put 1 (logB []))).2.1 = 0 ∧ (commit 1 G [40] (dz.put 1 (logB []))).2.2 = true ∧ (commit 1 G [40] (dz.put 1 (logB []))).1.c = 5 ∧ (commit 1 G [40] (dz.put 1 (logB []))).1.D 40 = G 40 := ⟨rfl, rfl, by kernel_rfl, rfl⟩
set_option maxRecDepth 20000 in
set_option maxHeartbeats 4000000 in
theorem walAwake_in (W : World) : Calls Try.prog 42 #[] W fun e w' => e = .returned (.bool true) ∧ Below W.heap.size W w' := by
  have HAW := Lib.hid awake_plain
  go_enter Try.func42, Try.ntmps42
  go_wp2_with fail
  refine (dzNew 50 (by omega) _).mono ?_
  rintro e w1 ⟨gd, gb, rfl, hd1, hl1, hl2, hb1⟩
  have HB1 := Lib.hid hb1
  have HLO := Lib.hid (show W.heap.size ≤ gd ∧ W.heap.size ≤ gb from ⟨hl1, hl2⟩)
  clear hb1 hl1 hl2
  go_wp2_with fail
  refine (hd1.open_ 1 (by omega)).mono ?_
  rintro e w2 ⟨gl, rfl, hx2, hl3, hb2⟩
  have HB2 := Lib.hid (bnext HB1.out hb2)
  clear hd1 hb2 hl3
  go_wp2_with fail
  refine (lxFormat hx2).mono ?_
  rintro e w3 ⟨rfl, hx3, hc3⟩
  have HB3 := Lib.hid (Chg.go HB2.out hc3 (fun k hk => by rcases hk with rfl | rfl; exact HLO.out.1; exact HLO.out.2) HB2.out.size)
  rw [show dz.code = 0 from rfl]
  clear hx2 hc3
  go_wp2_with fail
  refine hx3.begin_.mono ?_
  rintro e w4 ⟨gt, gm, rfl, ht4, hl4, hl5, hb4⟩
  have HB4 := Lib.hid (bnext HB3.out hb4)
  have HL2 := Lib.hid (show W.heap.size ≤ gt ∧ W.heap.size ≤ gm from ⟨Nat.le_trans HB3.out.size hl4, Nat.le_trans HB3.out.size hl5⟩)
  have HT4 := Lib.hid ht4
  clear hx3 ht4 hl4 hl5 hb4
  go_wp2_with (first
    | (refine wpList_build (by kernel_rfl) 52 #[(0, .const (.int .u8 7))] rfl (some 27) rfl (rowArr 64 (pgC p7)) (by kernel_rfl) ?_))
  refine (HT4.out.put_ 40 (by omega) (by omega) (.inr (by rw [mapN_none HT4.out.mp.mp]; omega)) p7_u8).mono ?_
  rintro e w5 ⟨rfl, ht5, hc5⟩
  have HT5 := Lib.hid ht5
  have HB5 := Lib.hid (Chg.go HB4.out hc5 (fun k hk => by subst hk; exact HL2.out.2) HB4.out.size)
  have hN5 : mapN w5 gm ≤ 30 := by
    have := ht5.mp.mp.len_le [40] (fun a ha => by
      unfold putF at ha
      split at ha
      · simp; omega
      · exact absurd rfl ha)
    simp at this
    omega
  clear ht5 hc5
  go_wp2_with fail
  refine (txnCommit_ok HT5.out hN5).mono ?_
  rintro e w6 ⟨L, hk, hlen, rfl, ht6, hc6⟩
  obtain rfl := keys_one hk
  obtain ⟨a1, a2, a3, a4⟩ := HAW.out (pageG (putF (fun _ => none) ((40 : Nat) : Int) p7))
  rw [a1]
  have HB6 := Lib.hid (Chg.go HB5.out hc6 (fun k hk => by rcases hk with (rfl | rfl) | rfl | rfl; exact HLO.out.1; exact HLO.out.2; exact HL2.out.2; exact HL2.out.1) HB5.out.size)
  have HT6 := Lib.hid ht6
  have HA4 := Lib.hid (show (commit 1 (pageG (putF (fun _ => none) ((40 : Nat) : Int) p7)) [40] (dz.put 1 (logB []))).1.D 40 = p7 from a4)
  obtain ⟨st, hst⟩ : ∃ st, st = (commit 1 (pageG (putF (fun _ => none) ((40 : Nat) : Int) p7)) [40] (dz.put 1 (logB []))).1 := ⟨_, rfl⟩
  rw [← hst] at HT6 HA4 a3
  have HA3 := Lib.hid a3
  clear hk hlen ht6 hc6 a1 a2 a3 a4 hst hN5 HAW
  go_wp2_with fail
  refine (LXs.counts HT6.out.lxs.dxs).mono ?_
  rintro e w7 ⟨r, rfl, q, rfl⟩
  rw [HA3.out]
  have HT7 := Lib.hid (HT6.out.keep (bdrewN (Below.refl _ _) q))
  have HB7 := Lib.hid (bdrewN HB6.out q)
  clear HT6
  generalize w6.drewN q = w7 at *
  go_wp2_with fail
  refine (dxGet HT7.out.lxs.dxs 40 (by omega)).mono ?_
  rintro e w8 ⟨rfl, hd8, hc8⟩
  rw [HA4.out]
  have HB8 := Lib.hid (Chg.go HB7.out hc8 (fun k hk => by rcases hk with rfl | rfl; exact HLO.out.1; exact HLO.out.2) HB7.out.size)
  clear hd8 hc8
  go_wp2_with (first
    | (refine wpList_new_row rfl 52 rfl (some 11) rfl 64 _ page_zero ?_; intro w9 G hg9 hr9 hb9; have HR9 := Lib.hid hr9; have HG9 := Lib.hid hg9; have HB9 := Lib.hid (bnext HB8.out hb9); clear hr9 hb9 hg9)
    | (refine wpList_row_store rfl 52 (.tmp 11) (.tmp 39) rfl rfl G 64 _ (pgC p7) (by go_simp) (by go_simp; try rfl) HR9.out (fun _ _ => rfl) block_size ?_; intro w10 hr10 o10; have HR10 := Lib.hid hr10; have HB10 := Lib.hid (bone HB9.out o10 (Nat.le_trans HB8.out.size HG9.out) HB9.out.size); clear hr10 o10)
    | (refine wpList_row_load (by kernel_rfl) 52 (.tmp 11) rfl (some 60) rfl G 64 (pgC p7) (by go_simp) HR10.out _ block_under rfl block_size ?_)
    | (refine wpList_build (by kernel_rfl) 52 #[(0, .const (.int .u8 7))] rfl (some 61) rfl (rowArr 64 (pgC p7)) (by kernel_rfl) ?_)
    | (refine wpList_by (v := .bool true) (by kernel_rfl) (some 62) rfl (exec_eql (b := true) (xs := rowArr 64 (pgC p7)) (ys := rowArr 64 (pgC p7)) rfl (by go_simp) (by go_simp) (by kernel_rfl) (pg_same p7_u8 _)) ?_))
  go_ret
  exact ⟨rfl, HB10.out⟩
end Go.Proofs.Ytonfnlohbgbffaa
