/- Nodes: where a group lies; Place, Read, Write; a table of nodes. -/
import Derived.Test.YtonfnlohbgbffaaNodK
import Derived.Test.YtonfnlohbgbffaaWalF
import Derived.Test.YtonfnlohbgbffaaConH
set_option linter.unusedVariables false
set_option linter.unusedSimpArgs false
namespace Go.Proofs.Ytonfnlohbgbffaa
open Go.RowKit
open Go.Maps (Keyed)

def geoF (g : GeoL) (i : Nat) : Value := (geoArr g).getD i undef
theorem geo_row (g : GeoL) : geoArr g = rowArr 6 (geoF g) := rfl
theorem geo_size : (Try.prog.info? 84).map (·.size) = some 6 := by kernel_rfl
def zeroG : GeoL := ⟨0, 0, 0, 0, 0, 0⟩
theorem geo_zero : (Try.prog.info? 84).bind (·.zero) = some (.agg (rowArr 6 (geoF zeroG))) := by kernel_rfl
theorem geoF_one (g : GeoL) : ∀ i, i < 6 → (geoF g i).oneCell' = true := fun i hi => by
  rcases i with _ | _ | _ | _ | _ | _ | i <;> first | rfl | omega
theorem nodF_one (m : NodL) : ∀ i, i < 12 → (nodF m i).oneCell' = true := fun i hi => by
  rcases i with _ | _ | _ | _ | _ | _ | _ | _ | _ | _ | _ | _ | i <;> first | rfl | omega
theorem node_zero' : (Try.prog.info? 27).bind (·.zero) = some (.agg (rowArr 12 (nodF zeroN))) := node_zero

section
variable {W w w' : World} {cg gT gN gL : Nat} {v m u : Value} {rs : List RegL} {ms : List (Nat × Nat)}
set_option maxHeartbeats 1000000 in
theorem confTotal_in (h : CF w cg gT gN gL v m u rs ms) : Calls Try.prog 76 #[.pointer (some ⟨cg, 0, none⟩)] w fun e w' => e = .returned (.int .i64 (geosOf rs).2) ∧ w' = w := by
  have C := rowcell h.blk
  clear h
  go_enter Try.func76, Try.ntmps76
  go_wp2_with fail
  go_ret
  exact ⟨rfl, rfl⟩
set_option maxRecDepth 10000 in
set_option maxHeartbeats 2000000 in
theorem confGeo_yes (h : CF w cg gT gN gL v m u rs ms) (i : Nat) (hi : i < rs.length) (hn : rs.length ≤ 100) (G : GeoL) (hG : (geosOf rs).1[i]? = some G) :
    Calls Try.prog 37 #[.pointer (some ⟨cg, 0, none⟩), .int .i64 i] w fun e w' => e = .returned (.tuple #[.agg (rowArr 6 (geoF G)), .bool true]) ∧ Below w.heap.size w w' := by
  obtain ⟨A, cap, rfl, hlc, hcap⟩ := h.su.form
  obtain ⟨gr, off, rfl, hgl, h5⟩ := h.su.at (by omega)
  have hcap' : cap ≤ 9223372036854775807 := hcap
  have hpc : ∀ w1, Below w.heap.size w w1 → ∀ j v, (rowArr 6 (geoF G)).toList[j]? = some v → w1.cell? ⟨gr, off + i * 6 + j, none⟩ = some v := fun w1 hb j v hv => by
    obtain ⟨hj, rfl⟩ := rowArr_get _ _ _ _ hv
    rw [(bcell hb).1 gr _ hgl, Nat.add_assoc, h5 _ (by omega)]
    have hlen : i < (geosOf rs).1.length := (List.getElem?_eq_some_iff.1 hG).1
    rw [show geoCells (geosOf rs).1 = (geosOf rs).1.flatMap (fun g => (geoArr g).toList) from rfl, flat_get (fun g => (geoArr g).toList) 6 (fun _ => rfl) _ i hlen j hj, (List.getElem?_eq_some_iff.1 hG).2]
    rcases j with _ | _ | _ | _ | _ | _ | j <;> first | rfl | omega
  have HPC := Lib.hid hpc
  have H := Lib.hid h
  clear h hG hpc h5 hcap
  go_enter Try.func37, Try.ntmps37
  go_wp2_with (first
    | (refine wpList_new_row rfl 84 rfl (some 4) rfl 6 _ geo_zero ?_; intro w1 R hg1 hr1 hb1; have HR := Lib.hid hr1; have HB := Lib.hid hb1; have HGR := Lib.hid hg1; have H1 := Lib.hid (H.out.keep hb1); have C := rowcell H1.out.blk; clear hr1 hb1 hg1)
    | (go_at_call 77; refine (confHas_in H1.out i).mono ?_; rintro e w2 ⟨rfl, rfl⟩; rw [inB_nat hi])
    | (refine wpList_load_pieceTo rfl 84 (.tmp 16) rfl (some 17) rfl gr (off + i * 6) (by go_simp) (rowArr 6 (geoF G)) _ (HPC.out _ HB.out) Try.underlying84 rfl (by rw [rowArr_size]; exact geo_size) ?_)
    | (refine wpList_row_store rfl 84 (.tmp 4) (.tmp 17) rfl rfl R 6 _ (geoF G) (by go_simp) (by go_simp) HR.out (geoF_one G) geo_size ?_; intro w3 hr3 o3; have HR3 := Lib.hid hr3; have HB3 := Lib.hid (bone HB.out o3 HGR.out HB.out.size); clear hr3 o3))
  have hrun := run_load_row (P := Try.prog) HR3.out _ Try.underlying84 rfl geo_size
  exact bodyPost_ret (v := .tuple #[.agg (rowArr 6 (geoF G)), .bool true]) (by simp [results, Try.results37, Act.put, asAddr, hrun]) rfl ⟨rfl, HB3.out⟩
end
/-- A group's numbers are small. -/
structure GeoOk (g : GeoL) (n : Nat) : Prop where
  b : 32 ≤ g.base
  d : g.data ≤ n
  n : n ≤ 65536
  t : g.base + g.bitmap + (g.nodes + 1) / 2 ≤ g.data
  no : g.nodes ≤ 30
  n1 : 1 ≤ g.nodes
def atB (g : GeoL) (num : Nat) : Nat := g.base + g.bitmap + (num - 1) / 2
def atO (num : Nat) : Nat := (num - 1) % 2 * 32
theorem ret_three {k l : IntKind} {a b c d : Int} {u : Value} (h : a = b) (h' : c = d) : Ending.returned (.tuple #[.int k a, .int l c, u]) = .returned (.tuple #[.int k b, .int l d, u]) := by rw [h, h']
section
variable {w w' : World} {n : Nat} {g : GeoL}
set_option maxRecDepth 10000 in
set_option maxHeartbeats 2000000 in
theorem nodePlace_yes (hg : GeoOk g n) (num : Nat) (h1 : 1 ≤ num) (h2 : num ≤ g.nodes) :
    Calls Try.prog 40 #[.agg (rowArr 6 (geoF g)), .int .i64 num] w fun e w' => e = .returned (.tuple #[.int .i64 (atB g num : Nat), .int .i64 (atO num : Nat), .bool true]) ∧ Below w.heap.size w w' := by
  have e1 := hg.d
  have e2 := hg.n
  have e3 := hg.t
  have e4 := hg.no
  unfold atB atO
  have f1 : ¬ (num : Int) < 1 := by omega
  have f2 : ¬ (g.nodes : Int) < num := by omega
  obtain ⟨p, hp⟩ : ∃ p, p = g.base + g.bitmap + (num - 1) / 2 := ⟨_, rfl⟩
  obtain ⟨q, hq⟩ : ∃ q, q = (num - 1) % 2 * 32 := ⟨_, rfl⟩
  rw [← hp, ← hq]
  have HP := Lib.hid hp
  have HQ := Lib.hid hq
  have hb := hg.b
  clear hg hp hq
  go_enter Try.func40, Try.ntmps40
  go_wp2_with (first
    | (refine wpList_box_row rfl 84 (.tmp 0) rfl (some 2) rfl 6 (geoF g) (by go_simp) ?_; intro w1 R hg1 hr1 hb1
       have c0 : w1.cell? ⟨R, 0, none⟩ = some (.int .i64 g.base) := hr1.cell (i := 0) (by omega)
       have c1 : w1.cell? ⟨R, 1, none⟩ = some (.int .i64 g.bitmap) := hr1.cell (i := 1) (by omega)
       have c5 : w1.cell? ⟨R, 5, none⟩ = some (.int .i64 g.nodes) := hr1.cell (i := 5) (by omega)
       have HB := Lib.hid hb1; clear hr1 hb1 hg1))
  go_ret3
  have hp := HP.out
  have hq := HQ.out
  refine ⟨?_, HB.out⟩
  exact ret_three (by omega) (by omega)
set_option maxRecDepth 10000 in
set_option maxHeartbeats 2000000 in
theorem nodePlace_no (num : Int) (h : num < 1 ∨ (g.nodes : Int) < num) (w : World) :
    Calls Try.prog 40 #[.agg (rowArr 6 (geoF g)), .int .i64 num] w fun e w' => e = .returned (.tuple #[.int .i64 0, .int .i64 0, .bool false]) ∧ Below w.heap.size w w' := by
  by_cases h0 : num < 1
  · clear h
    go_enter Try.func40, Try.ntmps40
    go_wp2_with (first
      | (refine wpList_box_row rfl 84 (.tmp 0) rfl (some 2) rfl 6 (geoF g) (by go_simp) ?_; intro w1 R hg1 hr1 hb1; have HB := Lib.hid hb1; clear hr1 hb1 hg1))
    go_ret3
    exact ⟨rfl, HB.out⟩
  · have f2 : (g.nodes : Int) < num := by omega
    clear h
    go_enter Try.func40, Try.ntmps40
    go_wp2_with (first
      | (refine wpList_box_row rfl 84 (.tmp 0) rfl (some 2) rfl 6 (geoF g) (by go_simp) ?_; intro w1 R hg1 hr1 hb1
         have c5 : w1.cell? ⟨R, 5, none⟩ = some (.int .i64 g.nodes) := hr1.cell (i := 5) (by omega)
         have HB := Lib.hid hb1; clear hr1 hb1 hg1))
    go_ret3
    exact ⟨rfl, HB.out⟩
end
end Go.Proofs.Ytonfnlohbgbffaa
