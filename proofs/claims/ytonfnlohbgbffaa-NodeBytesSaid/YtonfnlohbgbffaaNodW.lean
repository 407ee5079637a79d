/- Nodes: NodeBytes' walk. -/
import Derived.Test.YtonfnlohbgbffaaNodU
set_option linter.unusedVariables false
set_option linter.unusedSimpArgs false
namespace Go.Proofs.Ytonfnlohbgbffaa
open Go.RowKit

theorem or_one (x : Nat) (hx : x ≤ 255) : bits .or .u8 (x : Int) 1 = ((x + 1 - x % 2 : Nat) : Int) := by
  have key : ∀ y : Fin 256, bits .or .u8 ((y.val : Nat) : Int) 1 = ((y.val + 1 - y.val % 2 : Nat) : Int) := of_decide_eq_true (by kernel_rfl)
  exact key ⟨x, by omega⟩
/-- The law's node and bytes. -/
structure NW (W w : World) (G B : Nat) (m : NodL) (bf : Nat → Nat) : Prop where
  g : w.rowIs G 27 12 (nodF m)
  b : w.rowIs B 28 32 (byteF bf)
  bl : Below W.heap.size W w
  hG : W.heap.size ≤ G
  ne : G ≠ B
section
variable {W w w' : World} {G B : Nat} {m m' : NodL} {bf : Nat → Nat}
theorem NW.keep (h : NW W w G B m bf) (hb : Below w.heap.size w w') : NW W w' G B m bf :=
  ⟨h.g.of_block (hb.block G h.g.lt), h.b.of_block (hb.block B h.b.lt), h.bl.trans (hb.mono h.bl.size), h.hG, h.ne⟩
theorem nodF_set3 (m : NodL) (k l s i : Nat) (hi : i < 12) : (if i = 1 then Value.int .u8 l else if i = 3 then Value.int .u32 s else if i = 0 then Value.int .u8 k else nodF m i) = nodF { m with kd := k, lk := l, sz := s } i := by
  rcases i with _ | _ | _ | _ | _ | _ | _ | _ | _ | _ | _ | _ | i <;> first | rfl | omega
theorem nodF_set1 (m : NodL) (s i : Nat) (hi : i < 12) : (if i = 3 then Value.int .u32 s else nodF m i) = nodF { m with sz := s } i := by
  rcases i with _ | _ | _ | _ | _ | _ | _ | _ | _ | _ | _ | _ | i <;> first | rfl | omega
theorem NW.turn (h : NW W w G B m bf) (o : One w w' (some G)) (g : w'.rowIs G 27 12 (nodF m')) : NW W w' G B m' bf :=
  ⟨g, h.b.of_block (o.block B h.b.lt (fun e => h.ne (by injection e))), bone h.bl o h.hG h.bl.size, h.hG, h.ne⟩
end
theorem made32 (w : World) (f : Nat → Nat) : ((w.alloc (.cells n32 28)).setCells w.heap.size 0 (rowArr 32 (byteF f)).toList).rowIs w.heap.size 28 32 (byteF f) ∧ Below w.heap.size w ((w.alloc (.cells n32 28)).setCells w.heap.size 0 (rowArr 32 (byteF f)).toList) :=
  ⟨(rowIs_piece (m := 32) (off := 0) (h := byteF f) (rowIs_of_arr (n := 32) (f := byteF fun _ => 0) (heap_alloc_last w (.cells n32 28)))).congr (g := byteF f) (fun i hi => by rw [if_pos (by omega)]; rfl), below_setCells (Nat.le_refl _) _ _ _ (bnew w _)⟩
theorem madeN (w : World) (m : NodL) : ((w.alloc (.cells (nodA zeroN) 27)).setCells w.heap.size 0 (nodA m).toList).rowIs w.heap.size 27 12 (nodF m) ∧ Below w.heap.size w ((w.alloc (.cells (nodA zeroN) 27)).setCells w.heap.size 0 (nodA m).toList) :=
  ⟨(rowIs_piece (m := 12) (off := 0) (h := nodF m) (rowIs_of_arr (n := 12) (f := nodF zeroN) (heap_alloc_last w (.cells (nodA zeroN) 27)))).congr (g := nodF m) (fun i hi => by rw [if_pos (by omega)]; rfl), below_setCells (Nat.le_refl _) _ _ _ (bnew w _)⟩
theorem piece32 {w : World} {x : Nat} {f : Nat → Nat} (h : w.rowIs x 28 32 (byteF f)) : ∀ j v, (rowArr 32 (byteF f)).toList[j]? = some v → w.cell? ⟨x, 0 + j, none⟩ = some v := fun j v hv => by
  obtain ⟨h1, rfl⟩ := rowArr_get _ _ _ _ hv
  rw [Nat.zero_add]; exact h.cell h1
theorem pieceN {w : World} {x : Nat} {m : NodL} (h : w.rowIs x 27 12 (nodF m)) : ∀ j v, (nodA m).toList[j]? = some v → w.cell? ⟨x, 0 + j, none⟩ = some v := fun j v hv => by
  rw [nodA_row] at hv
  obtain ⟨h1, rfl⟩ := rowArr_get _ _ _ _ hv
  rw [Nat.zero_add]; exact h.cell h1
theorem or_u8 (a b : Nat) (ha : a ≤ 255) (hb : b ≤ 255) : ∃ c : Nat, c ≤ 255 ∧ bits .or .u8 (a : Int) (b : Int) = (c : Int) ∧ (c = 0 ↔ a = 0 ∧ b = 0) := by
  have hk : ∀ n : Int, 0 ≤ n → n < 2 ^ 8 → IntKind.u8.wrap n = n := fun n h0 h1 => by simp [IntKind.wrap, IntKind.bits, IntKind.signed]; omega
  have h := (bits_nat .u8 8 (by decide) hk a b (by omega) (by omega)).2
  have hlt : a ||| b < 2 ^ 8 := Nat.or_lt_two_pow (by omega) (by omega)
  refine ⟨a ||| b, by omega, h, ?_⟩
  simp
theorem eqNode_self (m : NodL) (h : m.ok) (w : World) : (Op.equalIn 10000 27 (.agg (nodA m)) (.agg (nodA m))).run Try.prog w = .ok true w := (eqNode m m h h w).trans (by rw [decide_eq_true rfl])
theorem zeroN_ok : zeroN.ok := by constructor <;> simp [zeroN]
theorem equal32 {bf : Nat → Nat} (hb : ∀ i, bf i ≤ 255) (w : World) : (Op.equalIn 10000 28 (.agg (rowArr 32 (byteF bf))) (.agg (rowArr 32 (byteF bf)))).run Try.prog w = .ok true w := by
  have e : rowArr 32 (byteF bf) = (((List.range 32).map fun i => ((bf i : Nat) : Int)).map (Value.int .u8)).toArray := by simp [rowArr, byteF, Function.comp_def]
  have hw : ∀ z ∈ (List.range 32).map (fun i => ((bf i : Nat) : Int)), (Lit.int .u8 z).wf = true := fun z hz => by
    obtain ⟨i, _, rfl⟩ := List.mem_map.1 hz
    have := hb i
    exact u8_wf ⟨by omega, by omega⟩
  rw [e, equal_ints (P := Try.prog) (w := w) Try.underlying28 Try.underlying5 (by kernel_rfl) (by kernel_rfl) (by simp) (by simp) hw hw]
  simp
theorem encDec {bf : Nat → Nat} (hb : ∀ i, bf i ≤ 255) (ht : tailZ bf) {X : Array Value} (hX : Hid (X = rowArr 32 (byteF bf))) (w : World) :
    Calls Try.prog 16 #[.agg (nodA (decN bf))] w fun e w' => e = .returned (.agg X) ∧ Below w.heap.size w w' :=
  (nodeEncode_in (decN bf) (decN_ok hb) w).mono (by
    rintro e w' ⟨rfl, h⟩
    refine ⟨?_, h⟩
    rw [hX.out]
    congr 2
    exact rowArr_congr (fun i hi => by unfold byteF; rw [encN_dec hb ht i hi]))
/-- What Decode answers, as two values. -/
theorem DecP.val {bf : Nat → Nat} {w w' : World} {e : Ending} (h : DecP bf w e w') : ∃ (y : NodL) (c : Int), e = .returned (.tuple #[.agg (nodA y), .int .i64 c]) ∧ Below w.heap.size w w' ∧
    ((tailZ bf ∧ (decN bf).right = true ∧ y = decN bf ∧ c = 0) ∨ (¬ (tailZ bf ∧ (decN bf).right = true) ∧ y = zeroN ∧ c = 28)) := by
  obtain ⟨hb, ⟨h1, h2, h3⟩ | ⟨h1, h3⟩⟩ := h
  · exact ⟨_, _, h3, hb, .inl ⟨h1, h2, rfl, rfl⟩⟩
  · exact ⟨_, _, h3, hb, .inr ⟨h1, rfl, rfl⟩⟩
set_option maxRecDepth 100000 in
set_option maxHeartbeats 16000000 in
theorem nodeBytes_walk (W : World) (v0 v1 v2 : Value) (o0 : Arg Try.prog W 27 v0) (o1 : Arg Try.prog W 28 v1) (o2 : Arg Try.prog W 4 v2) :
    Calls Try.prog 3 #[v0, v1, v2] W fun e w' => e = .returned (.bool true) ∧ Below W.heap.size W w' := by
  obtain ⟨n, hn, rfl⟩ := Arg.node o0
  obtain ⟨bf, hbf, rfl⟩ := Arg.bytes32 o1
  obtain ⟨rt, rfl⟩ := Arg.bool Try.underlying4 o2
  clear o0 o1 o2
  have HN := Lib.hid hn
  have HBF := Lib.hid hbf
  have hw : NW W ((W.alloc (.cells (nodA n) 27)).alloc (.cells (rowArr 32 (byteF bf)) 28)) W.heap.size (W.heap.size + 1) n bf := by
    have h1 := heap_alloc_last W (.cells (nodA n) 27)
    have h2 := heap_alloc_last (W.alloc (.cells (nodA n) 27)) (.cells (rowArr 32 (byteF bf)) 28)
    have b2 := bnew (W.alloc (.cells (nodA n) 27)) (.cells (rowArr 32 (byteF bf)) 28)
    rw [show (W.alloc (.cells (nodA n) 27)).heap.size = W.heap.size + 1 by simp] at h2
    exact ⟨rowIs_of_arr (n := 12) (f := nodF n) (bkeep b2 h1), rowIs_of_arr h2, bnewAfter (bnew W _) _, Nat.le_refl _, by omega⟩
  have HW := Lib.hid hw
  obtain ⟨X, hX⟩ : ∃ X, X = rowArr 32 (byteF bf) := ⟨_, rfl⟩
  have HX := Lib.hid hX
  rw [← hX] at HW ⊢
  clear hn hbf hw hX
  go_enter Try.func3, Try.ntmps3
  go_wp2_with fail
  refine (nodeAwake_any _).mono ?_; rintro e w1 ⟨rfl, hb1⟩
  have HW1 := Lib.hid (HW.out.keep hb1)
  obtain ⟨G, hG⟩ : ∃ G, G = W.heap.size := ⟨_, rfl⟩
  obtain ⟨B, hB⟩ : ∃ B, B = W.heap.size + 1 := ⟨_, rfl⟩
  rw [← hB, ← hG] at HW1
  rw [← hB, ← hG]
  clear hG hB hb1 HW
  go_upto_if 18 with fail
  go_cut [] (fun wx => ∃ m : NodL, m.ok ∧ NW W wx G B m bf)
  case first =>
    cases rt with
    | false =>
      go_wp2_with fail
      go_meet
      exact ⟨n, HN.out, HW1.out⟩
    | true =>
      have h0 := HW1.out.g
      have c0 : w1.cell? ⟨G, 0, none⟩ = some (.int .u8 n.kd) := h0.cell (i := 0) (by omega)
      have c1 : w1.cell? ⟨G, 1, none⟩ = some (.int .u8 n.lk) := h0.cell (i := 1) (by omega)
      have c3 : w1.cell? ⟨G, 3, none⟩ = some (.int .u32 n.sz) := h0.cell (i := 3) (by omega)
      have df := h0.frozen
      have hkd := HN.out.kd
      have hlk := HN.out.lk
      have hsz := HN.out.sz
      have for1 := or_one n.lk hlk
      obtain ⟨q, hq⟩ : ∃ q, q = n.kd % 6 := ⟨_, rfl⟩
      obtain ⟨z, hz⟩ : ∃ z, z = n.sz % 17000 := ⟨_, rfl⟩
      obtain ⟨l, hl⟩ : ∃ l, l = n.lk + 1 - n.lk % 2 := ⟨_, rfl⟩
      rw [← hl] at for1
      have f1 : (n.kd : Int) % 6 = q := by omega
      have f2 : (n.kd : Int).tmod 6 = q := by rw [Int.tmod_eq_emod_of_nonneg (by omega)]; omega
      have f3 : (n.sz : Int) % 17000 = z := by omega
      have f4 : (n.sz : Int).tmod 17000 = z := by rw [Int.tmod_eq_emod_of_nonneg (by omega)]; omega
      have HQ := Lib.hid (show q < 6 ∧ z < 17000 ∧ l ≤ 255 by omega)
      clear h0 hq hz hl
      go_upto_region 5 with fail
      have hA := ((HW1.out.g.set 0 (.int .u8 q)).set 3 (.int .u32 z)).set 1 (.int .u8 l)
      have hA2 := hA.congr (fun i hi => nodF_set3 n q l z i hi)
      have oA := ((one_setCell w1 G 0 (.int .u8 q)).trans (one_setCell _ G 3 (.int .u32 z))).trans (one_setCell _ G 1 (.int .u8 l))
      have HA := Lib.hid (HW1.out.turn oA hA2)
      clear hA hA2 oA c0 c1 c3 df for1 f1 f2 f3 f4 hkd hlk hsz
      generalize ((w1.setCell ⟨G, 0, none⟩ (.int .u8 q)).setCell ⟨G, 3, none⟩ (.int .u32 z)).setCell ⟨G, 1, none⟩ (.int .u8 l) = w2 at *
      have h2 := HA.out.g
      have c0 : w2.cell? ⟨G, 0, none⟩ = some (.int .u8 q) := h2.cell (i := 0) (by omega)
      have c3 : w2.cell? ⟨G, 3, none⟩ = some (.int .u32 z) := h2.cell (i := 3) (by omega)
      have df := h2.frozen
      have HOK := Lib.hid (show ∀ s, s < 17000 → NodL.ok { n with kd := q, lk := l, sz := s } from fun s hs => by
        have h := HN.out
        have hq := HQ.out
        exact ⟨by show q ≤ 255; omega, hq.2.2, h.gn, by show s < 4294967296; omega, h.d0, h.d1, h.d2, h.d3, h.d4, h.d5, h.sg, h.db⟩)
      clear h2
      by_cases hq2 : q = 2
      · have g1 : ((q : Int) == 2) = true := by rw [beq_iff_eq]; omega
        obtain ⟨r, hr⟩ : ∃ r, r = z % 16 := ⟨_, rfl⟩
        have f1 : (z : Int) % 16 = r := by omega
        have f2 : (z : Int).tmod 16 = r := by rw [Int.tmod_eq_emod_of_nonneg (by omega)]; omega
        have hz := HQ.out.2.1
        obtain ⟨y, hy⟩ : ∃ y, y = z - r := ⟨_, rfl⟩
        have f3 : IntKind.u32.wrap ((z : Int) - (r : Int)) = (y : Int) := by rw [u32_wrap_id _ (by omega) (by omega)]; omega
        have HY := Lib.hid (show y < 17000 by omega)
        clear hr hz hy hq2
        go_wp2_with fail
        go_meet
        refine ⟨_, HOK.out y HY.out, HA.out.turn (one_setCell w2 G 3 (.int .u32 y)) ((HA.out.g.set 3 (.int .u32 y)).congr (fun i hi => nodF_set1 _ y i hi))⟩
      · have g1 : ((q : Int) == 2) = false := by rw [beq_eq_false_iff_ne]; omega
        clear hq2
        go_wp2_with fail
        go_meet
        exact ⟨_, HOK.out z HQ.out.2.1, HA.out⟩
  case rest =>
    obtain ⟨m, hm, hw⟩ := hcut
    have HM := Lib.hid hm
    have HC := Lib.hid hw
    clear hm hw HW1 HN
    go_wp2_with (refine wpList_load_pieceTo rfl 27 (.tmp 3) rfl (some 41) rfl G 0 rfl (nodA m) _ (pieceN HC.out.g) Try.underlying27 rfl (by rw [nodA_row, rowArr_size]; exact node_size) ?_)
    refine (nodeEncode_in m HM.out _).mono ?_
    rintro e w2 ⟨rfl, hb2⟩
    have HC2 := Lib.hid (HC.out.keep hb2)
    clear HC hb2
    have h32 := rowIs_of_arr (n := 32) (f := byteF fun _ => 0) (heap_alloc_last w2 (.cells n32 28))
    have H32 := Lib.hid h32
    have hm2 := made32 w2 (encN m)
    have HX2 := Lib.hid hm2.1
    have HC3 := Lib.hid (HC2.out.keep hm2.2)
    clear h32 hm2
    go_wp2_with (first
      | (refine wpList_allocTo rfl 28 rfl (some 7) rfl (.agg n32) n32_zero ?_)
      | (with_reducible refine wpList_stop none rfl ?_))
    refine Lib.hid ?_
    rw [show (Value.agg n32).cells = n32 from rfl]
    obtain ⟨x, hx⟩ : ∃ x, x = w2.heap.size := ⟨_, rfl⟩
    rw [← hx] at H32 HX2 HC3 ⊢
    clear hx
    refine wpList_store_pieceTo rfl 28 (.tmp 7) (.tmp 42) rfl rfl x 0 (rowArr 32 (byteF (encN m))) rfl rfl (by rw [rowArr_size]; exact n32_size) (fun j hj => by rw [rowArr_size] at hj; rw [Nat.zero_add, H32.out.cell hj]; rfl) (fun j _ => H32.out.frozen _) (byteF_one _) ?_
    intro w3 hw3
    rw [← hw3] at HX2 HC3
    clear hw3 H32
    go_simp
    go_wp2_with (refine wpList_load_pieceTo rfl 28 (.tmp 7) rfl (some 44) rfl x 0 rfl (rowArr 32 (byteF (encN m))) _ (piece32 HX2.out) Try.underlying28 rfl (by rw [rowArr_size]; exact n32_size) ?_)
    refine (nodeDecode_in (encN m) (encN_le m) _).mono ?_
    intro e wd1 hdec1
    obtain ⟨y1, c1, rfl, hbd1, hcase1⟩ := hdec1.val
    have HCASE1 := Lib.hid hcase1
    clear hdec1 hcase1
    have HC4 := Lib.hid (HC3.out.keep hbd1)
    have HX4 := Lib.hid (HX2.out.of_block (hbd1.block x HX2.out.lt))
    clear HC3 HX2 hbd1
    have hN4 := rowIs_of_arr (n := 12) (f := nodF zeroN) (heap_alloc_last wd1 (.cells (nodA zeroN) 27))
    have HN4 := Lib.hid hN4
    have hm4 := madeN wd1 y1
    have HY5 := Lib.hid hm4.1
    have HC5 := Lib.hid (HC4.out.keep hm4.2)
    have HX5 := Lib.hid (HX4.out.of_block (hm4.2.block x HX4.out.lt))
    clear hN4 hm4
    go_wp2_with (first
      | (refine wpList_allocTo rfl 27 rfl (some 8) rfl (.agg (nodA zeroN)) node_zero ?_)
      | (with_reducible refine wpList_stop none rfl ?_))
    refine Lib.hid ?_
    rw [show (Value.agg (nodA zeroN)).cells = nodA zeroN from rfl]
    obtain ⟨y, hy⟩ : ∃ y, y = wd1.heap.size := ⟨_, rfl⟩
    rw [← hy] at HN4 HY5 HC5 HX5 ⊢
    clear hy HC4 HX4
    refine wpList_store_pieceTo rfl 27 (.tmp 8) (.tmp 46) rfl rfl y 0 (nodA y1) rfl rfl (by rw [nodA_row, rowArr_size]; exact node_size) (fun j hj => by rw [Nat.zero_add, HN4.out.cell (i := j) hj]; rfl) (fun j _ => HN4.out.frozen _) (nodA_one y1) ?_
    intro w5 hw5
    rw [← hw5] at HY5 HC5 HX5
    clear hw5 HN4
    go_simp
    go_wp2_with (refine wpList_load_pieceTo rfl 28 (.tmp 4) rfl (some 49) rfl B 0 rfl (rowArr 32 (byteF bf)) _ (piece32 HC5.out.b) Try.underlying28 rfl (by rw [rowArr_size]; exact n32_size) ?_)
    refine (nodeDecode_in bf HBF.out _).mono ?_
    intro e wd2 hdec2
    obtain ⟨y2, c2, rfl, hbd2, hcase2⟩ := hdec2.val
    have HCASE2 := Lib.hid hcase2
    clear hdec2 hcase2
    have HC6 := Lib.hid (HC5.out.keep hbd2)
    have HX6 := Lib.hid (HX5.out.of_block (hbd2.block x HX5.out.lt))
    have HY6 := Lib.hid (HY5.out.of_block (hbd2.block y HY5.out.lt))
    clear HC5 HX5 HY5 hbd2
    have hN6 := rowIs_of_arr (n := 12) (f := nodF zeroN) (heap_alloc_last wd2 (.cells (nodA zeroN) 27))
    have HN6 := Lib.hid hN6
    have hm6 := madeN wd2 y2
    have HZ7 := Lib.hid hm6.1
    have HC7 := Lib.hid (HC6.out.keep hm6.2)
    have HX7 := Lib.hid (HX6.out.of_block (hm6.2.block x HX6.out.lt))
    have HY7 := Lib.hid (HY6.out.of_block (hm6.2.block y HY6.out.lt))
    clear hN6 hm6
    go_wp2_with (first
      | (refine wpList_allocTo rfl 27 rfl (some 10) rfl (.agg (nodA zeroN)) node_zero ?_)
      | (with_reducible refine wpList_stop none rfl ?_))
    refine Lib.hid ?_
    rw [show (Value.agg (nodA zeroN)).cells = nodA zeroN from rfl]
    obtain ⟨z, hz⟩ : ∃ z, z = wd2.heap.size := ⟨_, rfl⟩
    rw [← hz] at HN6 HZ7 HC7 HX7 HY7 ⊢
    clear hz HC6 HX6 HY6
    refine wpList_store_pieceTo rfl 27 (.tmp 10) (.tmp 51) rfl rfl z 0 (nodA y2) rfl rfl (by rw [nodA_row, rowArr_size]; exact node_size) (fun j hj => by rw [Nat.zero_add, HN6.out.cell (i := j) hj]; rfl) (fun j _ => HN6.out.frozen _) (nodA_one y2) ?_
    intro w7 hw7
    rw [← hw7] at HZ7 HC7 HX7 HY7
    clear hw7 HN6
    go_simp
    go_wp2_with fail
    go_loopw [12, 55] (fun r12 r wx => ∃ (i tl : Nat), i ≤ 8 ∧ r = .int .i64 i ∧ r12 = .int .u8 tl ∧ tl ≤ 255 ∧ wx = w7 ∧ (tl = 0 ↔ ∀ q, 24 ≤ q → q < 24 + i → bf q = 0)) (fun _ r _ => 8 - (intOf r).toNat)
    case atStart => exact ⟨0, 0, by omega, rfl, rfl, by omega, rfl, ⟨fun _ q h1 h2 => by omega, fun _ => rfl⟩⟩
    case round =>
      obtain ⟨i, tl, hi, rfl, rfl, htl, rfl, htz⟩ := hrel
      have HTZ := Lib.hid htz
      clear htz
      by_cases hi8 : i < 8
      · have f1 : (i : Int) < 8 := by omega
        have cb : wr.cell? ⟨B, 24 + i, none⟩ = some (.int .u8 (bf (24 + i))) := HC7.out.b.cell (i := 24 + i) (by omega)
        obtain ⟨c, hc5, hor, hc0⟩ := or_u8 tl (bf (24 + i)) htl (HBF.out _)
        have HC0 := Lib.hid (show c = 0 ↔ ∀ q, 24 ≤ q → q < 24 + (i + 1) → bf q = 0 by
          rw [hc0, HTZ.out]
          constructor
          · rintro ⟨h1, h2⟩ q h3 h4
            by_cases h : q = 24 + i
            · rw [h]; exact h2
            · exact h1 q h3 (by omega)
          · intro h1
            exact ⟨fun q h3 h4 => h1 q h3 (by omega), h1 _ (by omega) (by omega)⟩)
        have HC5' := Lib.hid hc5
        obtain ⟨b5, hb5⟩ : ∃ b, b = bf (24 + i) := ⟨_, rfl⟩
        rw [← hb5] at cb hor
        clear hc0 hb5 hc5
        go_wp2_with fail
        go_roundw
        case rel => exact ⟨i + 1, c, by omega, by go_num, rfl, HC5'.out, trivial, HC0.out⟩
        case measure => simp [intOf]; omega
      · obtain rfl : i = 8 := by omega
        have HTL := Lib.hid (show tl = 0 ↔ tailZ bf from HTZ.out)
        go_wp2_with (refine wpList_load_pieceTo rfl 27 (.tmp 3) rfl (some 63) rfl G 0 rfl (nodA m) _ (pieceN HC7.out.g) Try.underlying27 rfl (by rw [nodA_row, rowArr_size]; exact node_size) ?_)
        refine (refCheck_in m HM.out _).mono ?_
        rintro e w8 ⟨rfl, hb8⟩
        have HC8 := Lib.hid (HC7.out.keep hb8)
        have HX8 := Lib.hid (HX7.out.of_block (hb8.block x HX7.out.lt))
        have HY8 := Lib.hid (HY7.out.of_block (hb8.block y HY7.out.lt))
        have HZ8 := Lib.hid (HZ7.out.of_block (hb8.block z HZ7.out.lt))
        clear hb8 HC7 HX7 HY7 HZ7 HTZ
        obtain ⟨cd, hcd⟩ : ∃ c : Int, c = if m.right then 0 else 28 := ⟨_, rfl⟩
        rw [← hcd]
        have HCD := Lib.hid hcd
        clear hcd
        go_upto_region 17 with fail
        obtain ⟨sE, hsE⟩ : ∃ s, s = strOfNums (ofNats (bytL m)) := ⟨_, rfl⟩
        have HSE := Lib.hid hsE
        clear hsE
        have HG8 := Lib.hid HC8.out.g
        go_cut [99] (fun s99 wx => s99 = .bool false ∧ Below w8.heap.size w8 wx)
        case first =>
         by_cases hr : m.right = true
         · have HR := Lib.hid hr
           clear hr
           have hS : Below w8.heap.size w8 (World.drew w8) := drewb w8
           refine wp_region_held (S := fun w' => Below w8.heap.size w8 w') (by kernel_rfl) ?_
           change wpAnyH _ _ _ _ _ _ _ _ (World.drew _)
           refine takeH 0 (.slice (some ⟨x, 0, none⟩) 32 32) (some 65) rfl rfl (by kernel_rfl) (by kernel_rfl) (by kernel_rfl) (fun _ _ _ h => h) (.inl ⟨by kernel_rfl, fun w _ => by go_simp⟩) hS ?_
           refine takeH 1 (.string sE) (some 66) rfl rfl (by kernel_rfl) (by kernel_rfl) (by kernel_rfl) (fun _ _ _ h => h) (yi_convert (by kernel_rfl) 34 9 (.tmp 65) rfl (.slice (some ⟨x, 0, none⟩) 32 32) (.string sE) (by go_simp) (fun w hw => by rw [HSE.out]; exact str_enc (HX8.out.of_block (hw.block x HX8.out.lt)))) hS ?_
           refine takeH 2 (.agg (nodA m)) (some 67) rfl rfl (by kernel_rfl) (by kernel_rfl) (by kernel_rfl) (fun _ _ _ h => h) (yi_piece (by kernel_rfl) 27 (.tmp 3) rfl G 0 (by go_simp) (nodA m) _ (fun w hw => pieceN (HG8.out.of_block (hw.block G HG8.out.lt))) Try.underlying27 rfl (by rw [nodA_row, rowArr_size]; exact node_size)) hS ?_
           refine callH 3 rfl (by kernel_rfl) (by kernel_rfl) (some 68) rfl 19 #[.agg (nodA m)] ?hrun ((refEncode_in m HM.out _).mono ?_)
           case hrun => go_simp
           rintro e w9 ⟨v9, rfl, hbs, hb9⟩
           have hS' : Below w8.heap.size w8 w9 := hS.trans (hb9.mono hS.size)
           refine ⟨_, rfl, hS', ?_⟩
           refine wpAnyH_mono (S' := fun w' => Below w9.heap.size w9 w') (fun w' h => hS'.trans (h.mono hS'.size)) _ _ _ _ ?_
           have HG9 := Lib.hid (HG8.out.of_block (hS'.block G HG8.out.lt))
           have HY9 := Lib.hid (HY8.out.of_block (hS'.block y HY8.out.lt))
           have HBS := Lib.hid hbs
           have HS9 := Lib.hid hS'
           clear hS hbs hb9 hS'
           have hS : Below w9.heap.size w9 w9 := Below.refl _ _
           refine takeH 4 (.string sE) (some 69) rfl rfl (by kernel_rfl) (by kernel_rfl) (by kernel_rfl) (fun _ _ _ h => h) (yi_convert (by kernel_rfl) 34 9 (.tmp 68) rfl v9 (.string sE) (by go_simp) (fun w hw => by rw [HSE.out]; exact str_ref HM.out (own_below HBS.out hw))) hS ?_
           refine takeH 5 (.bool false) (some 70) rfl rfl (by kernel_rfl) (by kernel_rfl) (by kernel_rfl) (fun _ _ _ h => h) (.inl ⟨by kernel_rfl, fun w _ => by go_simp⟩) hS ?_
           refine takeH 6 (.bool false) (some 71) rfl rfl (by kernel_rfl) (by kernel_rfl) (by kernel_rfl) (fun _ _ _ h => h) (.inl ⟨by kernel_rfl, fun w _ => by go_simp⟩) hS ?_
           refine takeH 7 (.agg (nodA m)) (some 72) rfl rfl (by kernel_rfl) (by kernel_rfl) (by kernel_rfl) (fun _ _ _ h => h) (yi_piece (by kernel_rfl) 27 (.tmp 3) rfl G 0 (by go_simp) (nodA m) _ (fun w hw => pieceN (HG9.out.of_block (hw.block G HG9.out.lt))) Try.underlying27 rfl (by rw [nodA_row, rowArr_size]; exact node_size)) hS ?_
           refine takeH 9 (.int .i64 cd) (some 74) rfl rfl (by kernel_rfl) (by kernel_rfl) (by kernel_rfl) (fun _ _ _ h => h) (.inl ⟨by kernel_rfl, fun w _ => by go_simp⟩) hS ?_
           refine callH 8 rfl (by kernel_rfl) (by kernel_rfl) (some 73) rfl 20 #[.agg (nodA m)] ?hrun3 ((nodeCheck_in m HM.out _).mono ?_)
           case hrun3 => go_simp
           rintro e w10 ⟨rfl, hb10⟩
           rw [← HCD.out]
           have hS2 : Below w9.heap.size w9 w10 := hb10
           clear hS
           have hS := hS2
           clear hS2 hb10
           refine ⟨_, rfl, hS, ?_⟩
           refine takeH 10 (.bool false) (some 75) rfl rfl (by kernel_rfl) (by kernel_rfl) (by kernel_rfl) (fun _ _ _ h => h) (.inl ⟨by kernel_rfl, fun w _ => by go_simp⟩) hS ?_
           refine takeH 11 (.bool false) (some 76) rfl rfl (by kernel_rfl) (by kernel_rfl) (by kernel_rfl) (fun _ _ _ h => h) (.inl ⟨by kernel_rfl, fun w _ => by go_simp⟩) hS ?_
           refine takeH 12 (.bool false) (some 77) rfl rfl (by kernel_rfl) (by kernel_rfl) (by kernel_rfl) (fun _ _ _ h => h) (.inl ⟨by kernel_rfl, fun w _ => by go_simp⟩) hS ?_
           have hcd : cd = 0 := by rw [HCD.out, HR.out]; rfl
           have hy1 : y1 = m ∧ c1 = 0 := by
             rcases HCASE1.out with ⟨_, _, h1, h2⟩ | ⟨h1, _⟩
             · exact ⟨by rw [h1, decN_enc HM.out], h2⟩
             · exact absurd ⟨tail_enc m, by rw [decN_enc HM.out]; exact HR.out⟩ h1
           have HYM := Lib.hid (show w9.rowIs y 27 12 (nodF m) by rw [← hy1.1]; exact HY9.out)
           have hc1 := hy1.2
           clear hy1
           subst hc1
           subst hcd
           refine takeH 13 (.int .i64 0) (some 78) rfl rfl (by kernel_rfl) (by kernel_rfl) (by kernel_rfl) (fun _ _ _ h => h) (.inl ⟨by kernel_rfl, fun w _ => by go_simp⟩) hS ?_
           refine takeH 14 (.int .i64 0) (some 79) rfl rfl (by kernel_rfl) (by kernel_rfl) (by kernel_rfl) (fun _ _ _ h => h) (.inl ⟨by kernel_rfl, fun w _ => by go_simp⟩) hS ?_
           refine takeH 15 (.bool false) (some 80) rfl rfl (by kernel_rfl) (by kernel_rfl) (by kernel_rfl) (fun _ _ _ h => h) (.inl ⟨by kernel_rfl, fun w _ => by go_simp⟩) hS ?_
           refine takeH 16 (.bool false) (some 81) rfl rfl (by kernel_rfl) (by kernel_rfl) (by kernel_rfl) (fun _ _ _ h => h) (.inl ⟨by kernel_rfl, fun w _ => by go_simp⟩) hS ?_
           refine takeH 17 (.bool false) (some 82) rfl rfl (by kernel_rfl) (by kernel_rfl) (by kernel_rfl) (fun _ _ _ h => h) (.inl ⟨by kernel_rfl, fun w _ => by go_simp⟩) hS ?_
           refine takeH 18 (.int .i64 0) (some 83) rfl rfl (by kernel_rfl) (by kernel_rfl) (by kernel_rfl) (fun _ _ _ h => h) (.inl ⟨by kernel_rfl, fun w _ => by go_simp⟩) hS ?_
           refine takeH 19 (.bool true) (some 84) rfl rfl (by kernel_rfl) (by kernel_rfl) (by kernel_rfl) (fun _ _ _ h => h) (.inl ⟨by kernel_rfl, fun w _ => by go_simp⟩) hS ?_
           refine takeH 20 (.bool true) (some 85) rfl rfl (by kernel_rfl) (by kernel_rfl) (by kernel_rfl) (fun _ _ _ h => h) (.inl ⟨by kernel_rfl, fun w _ => by go_simp⟩) hS ?_
           refine takeH 21 (.agg (nodA m)) (some 86) rfl rfl (by kernel_rfl) (by kernel_rfl) (by kernel_rfl) (fun _ _ _ h => h) (yi_piece (by kernel_rfl) 27 (.tmp 8) rfl y 0 (by go_simp) (nodA m) _ (fun w hw => pieceN (HYM.out.of_block (hw.block y HYM.out.lt))) Try.underlying27 rfl (by rw [nodA_row, rowArr_size]; exact node_size)) hS ?_
           refine takeH 22 (.agg (nodA m)) (some 87) rfl rfl (by kernel_rfl) (by kernel_rfl) (by kernel_rfl) (fun _ _ _ h => h) (yi_piece (by kernel_rfl) 27 (.tmp 3) rfl G 0 (by go_simp) (nodA m) _ (fun w hw => pieceN (HG9.out.of_block (hw.block G HG9.out.lt))) Try.underlying27 rfl (by rw [nodA_row, rowArr_size]; exact node_size)) hS ?_
           go_simp
           refine takeH 23 (.bool false) (some 88) rfl rfl (by kernel_rfl) (by kernel_rfl) (by kernel_rfl) (fun _ _ _ h => h) (.inl ⟨by kernel_rfl, fun w _ => exec_neq (xs := nodA m) (ys := nodA m) rfl (by go_simp) (by go_simp) (by kernel_rfl) (eqNode_self m HM.out w)⟩) hS ?_
           refine takeH 24 (.bool false) (some 89) rfl rfl (by kernel_rfl) (by kernel_rfl) (by kernel_rfl) (fun _ _ _ h => h) (.inl ⟨by kernel_rfl, fun w _ => by go_simp⟩) hS ?_
           refine takeH 25 (.bool false) (some 90) rfl rfl (by kernel_rfl) (by kernel_rfl) (by kernel_rfl) (fun _ _ _ h => h) (.inl ⟨by kernel_rfl, fun w _ => by go_simp⟩) hS ?_
           refine takeH 26 (.bool false) (some 91) rfl rfl (by kernel_rfl) (by kernel_rfl) (by kernel_rfl) (fun _ _ _ h => h) (.inl ⟨by kernel_rfl, fun w _ => by go_simp⟩) hS ?_
           refine takeH 27 (.int .i64 0) (some 92) rfl rfl (by kernel_rfl) (by kernel_rfl) (by kernel_rfl) (fun _ _ _ h => h) (.inl ⟨by kernel_rfl, fun w _ => by go_simp⟩) hS ?_
           refine takeH 28 (.bool false) (some 93) rfl rfl (by kernel_rfl) (by kernel_rfl) (by kernel_rfl) (fun _ _ _ h => h) (.inl ⟨by kernel_rfl, fun w _ => by go_simp⟩) hS ?_
           refine takeH 29 (.bool false) (some 94) rfl rfl (by kernel_rfl) (by kernel_rfl) (by kernel_rfl) (fun _ _ _ h => h) (.inl ⟨by kernel_rfl, fun w _ => by go_simp⟩) hS ?_
           refine takeH 30 (undef) (some 95) rfl rfl (by kernel_rfl) (by kernel_rfl) (by kernel_rfl) (fun _ _ _ h => h) (.inr ⟨by kernel_rfl, rfl⟩) hS ?_
           refine takeH 31 (undef) (some 96) rfl rfl (by kernel_rfl) (by kernel_rfl) (by kernel_rfl) (fun _ _ _ h => h) (.inr ⟨by kernel_rfl, rfl⟩) hS ?_
           refine takeH 32 (undef) (some 97) rfl rfl (by kernel_rfl) (by kernel_rfl) (by kernel_rfl) (fun _ _ _ h => h) (.inr ⟨by kernel_rfl, rfl⟩) hS ?_
           refine takeH 33 (.bool false) (some 98) rfl rfl (by kernel_rfl) (by kernel_rfl) (by kernel_rfl) (fun _ _ _ h => h) (.inl ⟨by kernel_rfl, fun w _ => by go_simp⟩) hS ?_
           refine takeH 34 (.bool false) (some 99) rfl rfl (by kernel_rfl) (by kernel_rfl) (by kernel_rfl) (fun _ _ _ h => h) (.inl ⟨by kernel_rfl, fun w _ => by go_simp⟩) hS ?_
           refine wpAnyH_done (by kernel_rfl) ?_ _
           go_simp
           go_wp2_with fail
           go_meet
           exact ⟨rfl, HS9.out.trans (hS.mono HS9.out.size)⟩
         · have HR := Lib.hid hr
           clear hr
           have hS : Below w8.heap.size w8 (World.drew w8) := drewb w8
           refine wp_region_held (S := fun w' => Below w8.heap.size w8 w') (by kernel_rfl) ?_
           change wpAnyH _ _ _ _ _ _ _ _ (World.drew _)
           refine takeH 0 (.slice (some ⟨x, 0, none⟩) 32 32) (some 65) rfl rfl (by kernel_rfl) (by kernel_rfl) (by kernel_rfl) (fun _ _ _ h => h) (.inl ⟨by kernel_rfl, fun w _ => by go_simp⟩) hS ?_
           refine takeH 1 (.string sE) (some 66) rfl rfl (by kernel_rfl) (by kernel_rfl) (by kernel_rfl) (fun _ _ _ h => h) (yi_convert (by kernel_rfl) 34 9 (.tmp 65) rfl (.slice (some ⟨x, 0, none⟩) 32 32) (.string sE) (by go_simp) (fun w hw => by rw [HSE.out]; exact str_enc (HX8.out.of_block (hw.block x HX8.out.lt)))) hS ?_
           refine takeH 2 (.agg (nodA m)) (some 67) rfl rfl (by kernel_rfl) (by kernel_rfl) (by kernel_rfl) (fun _ _ _ h => h) (yi_piece (by kernel_rfl) 27 (.tmp 3) rfl G 0 (by go_simp) (nodA m) _ (fun w hw => pieceN (HG8.out.of_block (hw.block G HG8.out.lt))) Try.underlying27 rfl (by rw [nodA_row, rowArr_size]; exact node_size)) hS ?_
           refine callH 3 rfl (by kernel_rfl) (by kernel_rfl) (some 68) rfl 19 #[.agg (nodA m)] ?hrun ((refEncode_in m HM.out _).mono ?_)
           case hrun => go_simp
           rintro e w9 ⟨v9, rfl, hbs, hb9⟩
           have hS' : Below w8.heap.size w8 w9 := hS.trans (hb9.mono hS.size)
           refine ⟨_, rfl, hS', ?_⟩
           refine wpAnyH_mono (S' := fun w' => Below w9.heap.size w9 w') (fun w' h => hS'.trans (h.mono hS'.size)) _ _ _ _ ?_
           have HG9 := Lib.hid (HG8.out.of_block (hS'.block G HG8.out.lt))
           have HY9 := Lib.hid (HY8.out.of_block (hS'.block y HY8.out.lt))
           have HBS := Lib.hid hbs
           have HS9 := Lib.hid hS'
           clear hS hbs hb9 hS'
           have hS : Below w9.heap.size w9 w9 := Below.refl _ _
           refine takeH 4 (.string sE) (some 69) rfl rfl (by kernel_rfl) (by kernel_rfl) (by kernel_rfl) (fun _ _ _ h => h) (yi_convert (by kernel_rfl) 34 9 (.tmp 68) rfl v9 (.string sE) (by go_simp) (fun w hw => by rw [HSE.out]; exact str_ref HM.out (own_below HBS.out hw))) hS ?_
           refine takeH 5 (.bool false) (some 70) rfl rfl (by kernel_rfl) (by kernel_rfl) (by kernel_rfl) (fun _ _ _ h => h) (.inl ⟨by kernel_rfl, fun w _ => by go_simp⟩) hS ?_
           refine takeH 6 (.bool false) (some 71) rfl rfl (by kernel_rfl) (by kernel_rfl) (by kernel_rfl) (fun _ _ _ h => h) (.inl ⟨by kernel_rfl, fun w _ => by go_simp⟩) hS ?_
           refine takeH 7 (.agg (nodA m)) (some 72) rfl rfl (by kernel_rfl) (by kernel_rfl) (by kernel_rfl) (fun _ _ _ h => h) (yi_piece (by kernel_rfl) 27 (.tmp 3) rfl G 0 (by go_simp) (nodA m) _ (fun w hw => pieceN (HG9.out.of_block (hw.block G HG9.out.lt))) Try.underlying27 rfl (by rw [nodA_row, rowArr_size]; exact node_size)) hS ?_
           refine takeH 9 (.int .i64 cd) (some 74) rfl rfl (by kernel_rfl) (by kernel_rfl) (by kernel_rfl) (fun _ _ _ h => h) (.inl ⟨by kernel_rfl, fun w _ => by go_simp⟩) hS ?_
           refine callH 8 rfl (by kernel_rfl) (by kernel_rfl) (some 73) rfl 20 #[.agg (nodA m)] ?hrun3 ((nodeCheck_in m HM.out _).mono ?_)
           case hrun3 => go_simp
           rintro e w10 ⟨rfl, hb10⟩
           rw [← HCD.out]
           have hS2 : Below w9.heap.size w9 w10 := hb10
           clear hS
           have hS := hS2
           clear hS2 hb10
           refine ⟨_, rfl, hS, ?_⟩
           refine takeH 10 (.bool false) (some 75) rfl rfl (by kernel_rfl) (by kernel_rfl) (by kernel_rfl) (fun _ _ _ h => h) (.inl ⟨by kernel_rfl, fun w _ => by go_simp⟩) hS ?_
           refine takeH 11 (.bool false) (some 76) rfl rfl (by kernel_rfl) (by kernel_rfl) (by kernel_rfl) (fun _ _ _ h => h) (.inl ⟨by kernel_rfl, fun w _ => by go_simp⟩) hS ?_
           refine takeH 12 (.bool false) (some 77) rfl rfl (by kernel_rfl) (by kernel_rfl) (by kernel_rfl) (fun _ _ _ h => h) (.inl ⟨by kernel_rfl, fun w _ => by go_simp⟩) hS ?_
           have hcd : cd = 28 := by rw [HCD.out, if_neg HR.out]
           have hy1 : y1 = zeroN ∧ c1 = 28 := by
             rcases HCASE1.out with ⟨_, h0, h1, h2⟩ | ⟨h1, h2⟩
             · exact absurd (by rw [decN_enc HM.out] at h0; exact h0) HR.out
             · exact h2
           have HYM := Lib.hid (show w9.rowIs y 27 12 (nodF zeroN) by rw [← hy1.1]; exact HY9.out)
           have hc1 := hy1.2
           clear hy1
           subst hc1
           subst hcd
           refine takeH 13 (.int .i64 28) (some 78) rfl rfl (by kernel_rfl) (by kernel_rfl) (by kernel_rfl) (fun _ _ _ h => h) (.inl ⟨by kernel_rfl, fun w _ => by go_simp⟩) hS ?_
           refine takeH 14 (.int .i64 28) (some 79) rfl rfl (by kernel_rfl) (by kernel_rfl) (by kernel_rfl) (fun _ _ _ h => h) (.inl ⟨by kernel_rfl, fun w _ => by go_simp⟩) hS ?_
           refine takeH 15 (.bool false) (some 80) rfl rfl (by kernel_rfl) (by kernel_rfl) (by kernel_rfl) (fun _ _ _ h => h) (.inl ⟨by kernel_rfl, fun w _ => by go_simp⟩) hS ?_
           refine takeH 16 (.bool false) (some 81) rfl rfl (by kernel_rfl) (by kernel_rfl) (by kernel_rfl) (fun _ _ _ h => h) (.inl ⟨by kernel_rfl, fun w _ => by go_simp⟩) hS ?_
           refine takeH 17 (.bool false) (some 82) rfl rfl (by kernel_rfl) (by kernel_rfl) (by kernel_rfl) (fun _ _ _ h => h) (.inl ⟨by kernel_rfl, fun w _ => by go_simp⟩) hS ?_
           refine takeH 18 (.int .i64 28) (some 83) rfl rfl (by kernel_rfl) (by kernel_rfl) (by kernel_rfl) (fun _ _ _ h => h) (.inl ⟨by kernel_rfl, fun w _ => by go_simp⟩) hS ?_
           refine takeH 19 (.bool false) (some 84) rfl rfl (by kernel_rfl) (by kernel_rfl) (by kernel_rfl) (fun _ _ _ h => h) (.inl ⟨by kernel_rfl, fun w _ => by go_simp⟩) hS ?_
           refine takeH 20 (.bool false) (some 85) rfl rfl (by kernel_rfl) (by kernel_rfl) (by kernel_rfl) (fun _ _ _ h => h) (.inl ⟨by kernel_rfl, fun w _ => by go_simp⟩) hS ?_
           refine takeH 21 (undef) (some 86) rfl rfl (by kernel_rfl) (by kernel_rfl) (by kernel_rfl) (fun _ _ _ h => h) (.inr ⟨by kernel_rfl, rfl⟩) hS ?_
           refine takeH 22 (undef) (some 87) rfl rfl (by kernel_rfl) (by kernel_rfl) (by kernel_rfl) (fun _ _ _ h => h) (.inr ⟨by kernel_rfl, rfl⟩) hS ?_
           refine takeH 23 (undef) (some 88) rfl rfl (by kernel_rfl) (by kernel_rfl) (by kernel_rfl) (fun _ _ _ h => h) (.inr ⟨by kernel_rfl, rfl⟩) hS ?_
           go_simp
           refine takeH 24 (.bool false) (some 89) rfl rfl (by kernel_rfl) (by kernel_rfl) (by kernel_rfl) (fun _ _ _ h => h) (.inl ⟨by kernel_rfl, fun w _ => by go_simp⟩) hS ?_
           refine takeH 25 (.bool false) (some 90) rfl rfl (by kernel_rfl) (by kernel_rfl) (by kernel_rfl) (fun _ _ _ h => h) (.inl ⟨by kernel_rfl, fun w _ => by go_simp⟩) hS ?_
           refine takeH 26 (.bool false) (some 91) rfl rfl (by kernel_rfl) (by kernel_rfl) (by kernel_rfl) (fun _ _ _ h => h) (.inl ⟨by kernel_rfl, fun w _ => by go_simp⟩) hS ?_
           refine takeH 27 (.int .i64 28) (some 92) rfl rfl (by kernel_rfl) (by kernel_rfl) (by kernel_rfl) (fun _ _ _ h => h) (.inl ⟨by kernel_rfl, fun w _ => by go_simp⟩) hS ?_
           refine takeH 28 (.bool true) (some 93) rfl rfl (by kernel_rfl) (by kernel_rfl) (by kernel_rfl) (fun _ _ _ h => h) (.inl ⟨by kernel_rfl, fun w _ => by go_simp⟩) hS ?_
           refine takeH 29 (.bool true) (some 94) rfl rfl (by kernel_rfl) (by kernel_rfl) (by kernel_rfl) (fun _ _ _ h => h) (.inl ⟨by kernel_rfl, fun w _ => by go_simp⟩) hS ?_
           refine takeH 30 (.agg (nodA zeroN)) (some 95) rfl rfl (by kernel_rfl) (by kernel_rfl) (by kernel_rfl) (fun _ _ _ h => h) (yi_piece (by kernel_rfl) 27 (.tmp 8) rfl y 0 (by go_simp) (nodA zeroN) _ (fun w hw => pieceN (HYM.out.of_block (hw.block y HYM.out.lt))) Try.underlying27 rfl (by rw [nodA_row, rowArr_size]; exact node_size)) hS ?_
           refine takeH 31 (.agg (nodA zeroN)) (some 96) rfl rfl (by kernel_rfl) (by kernel_rfl) (by kernel_rfl) (fun _ _ _ h => h) (yi_build (by kernel_rfl) 27 #[] rfl (nodA zeroN) (by kernel_rfl)) hS ?_
           go_simp
           refine takeH 32 (.bool false) (some 97) rfl rfl (by kernel_rfl) (by kernel_rfl) (by kernel_rfl) (fun _ _ _ h => h) (.inl ⟨by kernel_rfl, fun w _ => exec_neq (xs := nodA zeroN) (ys := nodA zeroN) rfl (by go_simp) (by go_simp) (by kernel_rfl) (eqNode_self zeroN zeroN_ok w)⟩) hS ?_
           refine takeH 33 (.bool false) (some 98) rfl rfl (by kernel_rfl) (by kernel_rfl) (by kernel_rfl) (fun _ _ _ h => h) (.inl ⟨by kernel_rfl, fun w _ => by go_simp⟩) hS ?_
           refine takeH 34 (.bool false) (some 99) rfl rfl (by kernel_rfl) (by kernel_rfl) (by kernel_rfl) (fun _ _ _ h => h) (.inl ⟨by kernel_rfl, fun w _ => by go_simp⟩) hS ?_
           refine wpAnyH_done (by kernel_rfl) ?_ _
           go_simp
           go_wp2_with fail
           go_meet
           exact ⟨rfl, HS9.out.trans (hS.mono HS9.out.size)⟩
        case rest =>
          obtain ⟨rfl, hwc⟩ := hcut
          have HG9 := Lib.hid (HC8.out.g.of_block (hwc.block G HC8.out.g.lt))
          have HB9 := Lib.hid (HC8.out.b.of_block (hwc.block B HC8.out.b.lt))
          have HZ9 := Lib.hid (HZ8.out.of_block (hwc.block z HZ8.out.lt))
          have HBL := Lib.hid (HC8.out.bl.trans (hwc.mono HC8.out.bl.size))
          clear hwc HX8 HY8
          obtain ⟨wo, hwo⟩ : ∃ wo, wo = wc := ⟨_, rfl⟩
          subst hwo
          go_upto_region 19 with fail
          go_cut [107] (fun s107 wx => s107 = .bool false ∧ Below wo.heap.size wo wx)
          case first =>
            have hS : Below wo.heap.size wo (World.drew wo) := drewb wo
            obtain ⟨b, hb⟩ : ∃ b, b = decide (m = m.blank) := ⟨_, rfl⟩
            have HB := Lib.hid hb
            clear hb
            refine wp_region_held (S := fun w' => Below wo.heap.size wo w') (by kernel_rfl) ?_
            change wpAnyH _ _ _ _ _ _ _ _ (World.drew _)
            refine takeH 0 (.agg (nodA m)) (some 100) rfl rfl (by kernel_rfl) (by kernel_rfl) (by kernel_rfl) (fun _ _ _ h => h) (yi_piece (by kernel_rfl) 27 (.tmp 3) rfl G 0 (by go_simp) (nodA m) _ (fun w hw => pieceN (HG9.out.of_block (hw.block G HG9.out.lt))) Try.underlying27 rfl (by rw [nodA_row, rowArr_size]; exact node_size)) hS ?_
            refine takeH 2 (.agg (nodA m)) (some 102) rfl rfl (by kernel_rfl) (by kernel_rfl) (by kernel_rfl) (fun _ _ _ h => h) (yi_piece (by kernel_rfl) 27 (.tmp 3) rfl G 0 (by go_simp) (nodA m) _ (fun w hw => pieceN (HG9.out.of_block (hw.block G HG9.out.lt))) Try.underlying27 rfl (by rw [nodA_row, rowArr_size]; exact node_size)) hS ?_
            refine takeH 3 (.pointer (some ⟨G, 2, none⟩)) (some 103) rfl rfl (by kernel_rfl) (by kernel_rfl) (by kernel_rfl) (fun _ _ _ h => h) (.inl ⟨by kernel_rfl, fun w _ => by go_simp⟩) hS ?_
            refine takeH 4 (.int .u16 m.gn) (some 104) rfl rfl (by kernel_rfl) (by kernel_rfl) (by kernel_rfl) (fun _ _ _ h => h) (.inl ⟨by kernel_rfl, fun w hw => by have hc : w.cell? ⟨G, 2, none⟩ = some (.int .u16 m.gn) := (HG9.out.of_block (hw.block G HG9.out.lt)).cell (i := 2) (by omega); go_simp⟩) hS ?_
            refine takeH 5 (.agg (nodA m.blank)) (some 105) rfl rfl (by kernel_rfl) (by kernel_rfl) (by kernel_rfl) (fun _ _ _ h => h) (yi_build (by kernel_rfl) 27 #[(2, .tmp 104)] rfl (nodA m.blank) (by go_simp; kernel_rfl)) hS ?_
            go_simp
            refine takeH 6 (.bool b) (some 106) rfl rfl (by kernel_rfl) (by kernel_rfl) (by kernel_rfl) (fun _ _ _ h => h) (.inl ⟨by kernel_rfl, fun w _ => exec_eql (xs := nodA m) (ys := nodA m.blank) rfl (by go_simp) (by go_simp) (by kernel_rfl) (by rw [HB.out]; exact eqNode m m.blank HM.out HM.out.blank w)⟩) hS ?_
            refine callH 1 rfl (by kernel_rfl) (by kernel_rfl) (some 101) rfl 21 #[.agg (nodA m)] ?hrun4 ((nodeBlank_in m HM.out _).mono ?_)
            case hrun4 => go_simp
            rintro e w11 ⟨rfl, hb11⟩
            rw [← HB.out]
            have hS2 : Below wo.heap.size wo w11 := hS.trans (hb11.mono hS.size)
            clear hS
            have hS := hS2
            clear hS2 hb11
            refine ⟨_, rfl, hS, ?_⟩
            have hbb : (b != b) = false := by simp
            refine takeH 7 (.bool false) (some 107) rfl rfl (by kernel_rfl) (by kernel_rfl) (by kernel_rfl) (fun _ _ _ h => h) (.inl ⟨by kernel_rfl, fun w _ => by go_simp⟩) hS ?_
            refine wpAnyH_done (by kernel_rfl) ?_ _
            go_simp
            go_wp2_with fail
            go_meet
            exact ⟨rfl, hS⟩
          case rest =>
            obtain ⟨rfl, hwd⟩ := hcut
            have HB10 := Lib.hid (HB9.out.of_block (hwd.block B HB9.out.lt))
            have HZ10 := Lib.hid (HZ9.out.of_block (hwd.block z HZ9.out.lt))
            have HBL2 := Lib.hid (HBL.out.trans (hwd.mono HBL.out.size))
            clear hwd HG9 HB9 HZ9 HBL
            rcases HCASE2.out with ⟨ht, hr2, hy2, hc2⟩ | ⟨_, hy2, hc2⟩
            · subst hy2
              subst hc2
              have HOK2 := Lib.hid (decN_ok HBF.out)
              have HRT := Lib.hid (show (if (decN bf).right = true then (0 : Int) else 28) = 0 from if_pos hr2)
              have HTA := Lib.hid ht
              have htl0 : tl = 0 := HTL.out.2 ht
              have g1 : ((tl : Int) == 0) = true := by rw [beq_iff_eq]; omega
              clear ht hr2 htl0
              go_upto_region 23 with fail
              have hS : Below wc.heap.size wc (World.drew wc) := drewb wc
              refine wp_region_held (S := fun w' => Below wc.heap.size wc w') (by kernel_rfl) ?_
              change wpAnyH _ _ _ _ _ _ _ _ (World.drew _)
              refine takeH 0 (.int .u8 tl) (some 117) rfl rfl (by kernel_rfl) (by kernel_rfl) (by kernel_rfl) (fun _ _ _ h => h) (.inl ⟨by kernel_rfl, fun w _ => by go_simp⟩) hS ?_
              refine takeH 1 (.bool true) (some 118) rfl rfl (by kernel_rfl) (by kernel_rfl) (by kernel_rfl) (fun _ _ _ h => h) (.inl ⟨by kernel_rfl, fun w _ => by go_simp⟩) hS ?_
              refine takeH 2 (.bool true) (some 119) rfl rfl (by kernel_rfl) (by kernel_rfl) (by kernel_rfl) (fun _ _ _ h => h) (.inl ⟨by kernel_rfl, fun w _ => by go_simp⟩) hS ?_
              refine takeH 3 (.agg (nodA (decN bf))) (some 120) rfl rfl (by kernel_rfl) (by kernel_rfl) (by kernel_rfl) (fun _ _ _ h => h) (yi_piece (by kernel_rfl) 27 (.tmp 10) rfl z 0 (by go_simp) (nodA (decN bf)) _ (fun w hw => pieceN (HZ10.out.of_block (hw.block z HZ10.out.lt))) Try.underlying27 rfl (by rw [nodA_row, rowArr_size]; exact node_size)) hS ?_
              refine takeH 5 (.agg X) (some 122) rfl rfl (by kernel_rfl) (by kernel_rfl) (by kernel_rfl) (fun _ _ _ h => h) (yi_piece (by kernel_rfl) 28 (.tmp 4) rfl B 0 (by go_simp) X _ (fun w hw => by rw [HX.out]; exact piece32 (HB10.out.of_block (hw.block B HB10.out.lt))) Try.underlying28 rfl (by rw [HX.out, rowArr_size]; exact n32_size)) hS ?_
              refine callH 4 rfl (by kernel_rfl) (by kernel_rfl) (some 121) rfl 16 #[.agg (nodA (decN bf))] ?hrun5 ((encDec HBF.out HTA.out HX _).mono ?_)
              case hrun5 => go_simp
              rintro e w11 ⟨rfl, hb11⟩
              have hS2 : Below wc.heap.size wc w11 := hS.trans (hb11.mono hS.size)
              clear hS
              have hS := hS2
              clear hS2 hb11
              refine ⟨_, rfl, hS, ?_⟩
              go_simp
              refine takeH 6 (.bool true) (some 123) rfl rfl (by kernel_rfl) (by kernel_rfl) (by kernel_rfl) (fun _ _ _ h => h) (.inl ⟨by kernel_rfl, fun w _ => exec_eql (xs := X) (ys := X) rfl (by go_simp) (by go_simp) (by kernel_rfl) (by rw [HX.out]; exact equal32 HBF.out w)⟩) hS ?_
              refine takeH 7 (.bool true) (some 124) rfl rfl (by kernel_rfl) (by kernel_rfl) (by kernel_rfl) (fun _ _ _ h => h) (.inl ⟨by kernel_rfl, fun w _ => by go_simp⟩) hS ?_
              refine takeH 8 (.bool true) (some 125) rfl rfl (by kernel_rfl) (by kernel_rfl) (by kernel_rfl) (fun _ _ _ h => h) (.inl ⟨by kernel_rfl, fun w _ => by go_simp⟩) hS ?_
              refine takeH 9 (.agg (nodA (decN bf))) (some 126) rfl rfl (by kernel_rfl) (by kernel_rfl) (by kernel_rfl) (fun _ _ _ h => h) (yi_piece (by kernel_rfl) 27 (.tmp 10) rfl z 0 (by go_simp) (nodA (decN bf)) _ (fun w hw => pieceN (HZ10.out.of_block (hw.block z HZ10.out.lt))) Try.underlying27 rfl (by rw [nodA_row, rowArr_size]; exact node_size)) hS ?_
              refine callH 10 rfl (by kernel_rfl) (by kernel_rfl) (some 127) rfl 18 #[.agg (nodA (decN bf))] ?hrun6 ((refCheck_in (decN bf) HOK2.out _).mono ?_)
              case hrun6 => go_simp
              rintro e w12 ⟨rfl, hb12⟩
              rw [HRT.out]
              have hS2 : Below wc.heap.size wc w12 := hS.trans (hb12.mono hS.size)
              clear hS
              have hS := hS2
              clear hS2 hb12
              refine ⟨_, rfl, hS, ?_⟩
              go_simp
              refine takeH 11 (.bool true) (some 128) rfl rfl (by kernel_rfl) (by kernel_rfl) (by kernel_rfl) (fun _ _ _ h => h) (.inl ⟨by kernel_rfl, fun w _ => by go_simp⟩) hS ?_
              refine takeH 12 (.bool true) (some 129) rfl rfl (by kernel_rfl) (by kernel_rfl) (by kernel_rfl) (fun _ _ _ h => h) (.inl ⟨by kernel_rfl, fun w _ => by go_simp⟩) hS ?_
              refine takeH 13 (.bool true) (some 6) rfl rfl (by kernel_rfl) (by kernel_rfl) (by kernel_rfl) (fun _ _ _ h => h) (.inl ⟨by kernel_rfl, fun w _ => by go_simp⟩) hS ?_
              refine wpAnyH_done (by kernel_rfl) ?_ _
              go_simp
              go_wp2_with fail
              go_ret
              exact ⟨rfl, HBL2.out.trans (hS.mono HBL2.out.size)⟩
            · subst hy2
              subst hc2
              go_wp2_with (with_reducible refine wpList_stop (some 113) rfl ?_)
              refine Lib.hid ?_
              refine wpList_load_by ?hw 27 (.tmp 10) rfl (some 113) rfl z 0 ?hx (nodA zeroN) _ ?hc Try.underlying27 rfl ?hi ?_
              case hw => kernel_rfl
              case hx => go_simp
              case hc => exact pieceN HZ10.out
              case hi => rw [nodA_row, rowArr_size]; exact node_size
              go_wp2_with (with_reducible refine wpList_stop (some 114) rfl ?_)
              refine Lib.hid ?_
              refine wpList_build_by ?hw 27 _ rfl (some 114) rfl (nodA zeroN) ?hf ?_
              case hw => kernel_rfl
              case hf => kernel_rfl
              go_wp2_with (with_reducible refine wpList_stop (some 115) rfl ?_)
              refine Lib.hid ?_
              refine wpList_by ?hw (some 115) rfl (exec_eql (xs := nodA zeroN) (ys := nodA zeroN) rfl ?hx ?hy ?hm (eqNode_self zeroN zeroN_ok _)) ?_
              case hw => kernel_rfl
              case hm => kernel_rfl
              case hx => go_simp
              case hy => go_simp
              go_wp2_with fail
              go_ret
              exact ⟨rfl, HBL2.out⟩
end Go.Proofs.Ytonfnlohbgbffaa
