/- The law TtyApart: its walk. -/
import Derived.Test.YtbdcbkmacpameaaTtyD
set_option linter.unusedVariables false
set_option linter.unusedSimpArgs false
namespace Go.Proofs.Ytbdcbkmacpameaa
open Go.RowKit

theorem bweak {B B' : Nat} {a b : World} (h : Below B a b) (hB : B' ≤ B) : Below B' a b := ⟨h.os, h.tape, h.output, h.size, fun k hk => h.block k (by omega)⟩

theorem ttyRead_at (l : Nat) (hl : l < 64) (n : Int) (hn : 0 ≤ n) (base g : Nat) (vs : Nat → Value) (ins : Nat → List Int) (lost out : Nat → Int) (w : World)
    (ht : TT w base g vs ins lost out) (hbase : base ≤ w.heap.size) (X : List Int) (hX : ins l = X) :
    Calls Try.prog 42 #[.pointer (some ⟨g, 0, none⟩), .int .i64 l, .int .i64 n] w fun e w' =>
      ∃ u v, e = .returned (.tuple #[v, .int .i64 (ttyCode n X)]) ∧ w'.ownsRow w.heap.size 5 1 v (ttyOut n X).length ((ttyOut n X).map (.int .u8)) ∧ TT w' base g (upd vs l u) (upd ins l (ttyRest n X)) lost out ∧ Below base w w' ∧ Foot w w' g none ∧
        ∀ q, u.ownBlock = some q → (vs l).ownBlock = some q ∨ w.heap.size ≤ q := by
  subst hX
  exact ttyRead_any l hl n hn base g vs ins lost out w ht hbase

set_option maxRecDepth 100000 in
set_option maxHeartbeats 4000000 in
theorem ttyApart_walk (W : World) (v0 v1 v2 : Value) (o0 : Arg Try.prog W 43 v0) (o1 : Arg Try.prog W 43 v1) (o2 : Arg Try.prog W 5 v2) :
    Calls Try.prog 11 #[v0, v1, v2] W fun e w' => e = .returned (.bool true) ∧ Below W.heap.size W w' := by
  obtain ⟨azs, hsa⟩ := SI.arg o0
  obtain ⟨bs, hsb⟩ := SI.arg o1
  obtain ⟨n, rfl, hn⟩ := Arg.int Try.underlying5 o2
  obtain ⟨hn0, hn1⟩ := wf_u8 hn
  clear o0 o1 o2 hn
  obtain ⟨A, capA, rfl, hlA, hmA⟩ := hsa.sr.form
  obtain ⟨B, capB, rfl, hlB, hmB⟩ := hsb.sr.form
  by_cases hbig : 300 < (azs.length : Int)
  · go_enter Try.func11, Try.ntmps11
    go_wp2_with (go_at_call 39; refine (ttyAwake_any _).mono ?_; rintro e w1 ⟨rfl, hb⟩)
    go_ret
    exact ⟨rfl, hb⟩
  by_cases hbig2 : 300 < (bs.length : Int)
  · go_enter Try.func11, Try.ntmps11
    go_wp2_with (go_at_call 39; refine (ttyAwake_any _).mono ?_; rintro e w1 ⟨rfl, hb⟩)
    go_ret
    exact ⟨rfl, hb⟩
  go_enter Try.func11, Try.ntmps11
  go_wp2_with fail
  go_at_call 39; refine (ttyAwake_any _).mono ?_; rintro e w1 ⟨rfl, hB1⟩
  go_wp2_with fail
  go_at_call 40; refine (ttyNew_any _).mono ?_; rintro e w2 ⟨rfl, ht2, hb2⟩
  have hB2 := bnext hB1 hb2
  go_wp2_with fail
  go_at_call 40; refine (ttyNew_any _).mono ?_; rintro e w3 ⟨rfl, hu3, hb3⟩
  have hB3 := bnext hB2 hb3
  have ht3 := ht2.kept hb3
  have hg12 : w1.heap.size < w2.heap.size := ht2.row.lt
  have hWs : W.heap.size ≤ w1.heap.size := hB1.size
  have hS3 : Sep (fun _ => Value.slice none 0 0) w1.heap.size (fun _ => Value.slice none 0 0) w2.heap.size := ⟨by omega, fun i _ h => (by cases h), fun i _ h => (by cases h), fun i j k _ _ h => (by cases h)⟩
  have hz3 : w2.heap.size ≤ w3.heap.size := hb3.size
  have hg23 : w2.heap.size < w3.heap.size := hu3.row.lt
  clear ht2
  -- t.Type(1, a)
  go_wp2_with fail
  go_at_call 41
  refine (ttyType_in 1 (by omega) w1.heap.size w1.heap.size _ _ _ _ _ azs _ ht3 (hsa.keep hB3) (by omega) (by simp) (by omega)).mono ?_
  rintro e w4 ⟨rfl, ⟨u4, ht4, hn4⟩, hb4, hf4⟩
  have hB4 := hB3.trans (bweak hb4 hWs)
  have hu4 := hu3.beside hS3 (l := 1) (by omega) hf4
  have hS4 := hS3.next hu3 (l := 1) (by omega) hn4
  have hz4 := hf4.size
  -- t.Type(2, b)
  go_wp2_with fail
  go_at_call 41
  refine (ttyType_in 2 (by omega) w1.heap.size w1.heap.size _ _ _ _ _ bs _ ht4 (hsb.keep hB4) (by omega) (by simp [upd]) (by omega)).mono ?_
  rintro e w5 ⟨rfl, ⟨u5, ht5, hn5⟩, hb5, hf5⟩
  have hB5 := hB4.trans (bweak hb5 hWs)
  have hu5 := hu4.beside hS4 (l := 2) (by omega) hf5
  have hS5 := hS4.next hu4 (l := 2) (by omega) hn5
  have hz5 := hf5.size
  -- t.Read(1, n)
  go_wp2_with fail
  go_at_call 42
  refine (ttyRead_any 1 (by omega) n hn0 w1.heap.size w1.heap.size _ _ _ _ _ ht5 (by omega)).mono ?_
  rintro e w6 ⟨u6, v6, rfl, hv6, ht6, hb6, hf6, hn6⟩
  have hB6 := hB5.trans (bweak hb6 hWs)
  have hu6 := hu5.beside hS5 (l := 1) (by omega) (hf6.weaken _)
  have hS6 := hS5.next hu5 (l := 1) (by omega) hn6
  have hz6 := hf6.size
  obtain ⟨_, _, rfl⟩ := own_form hv6
  -- t.Write(1, a)
  go_wp2_with fail
  go_at_call 44
  refine (ttyWrite_in 1 (by omega) w1.heap.size w1.heap.size _ _ _ _ A azs.length capA _ ht6 (by omega) (by simp)).mono ?_
  rintro e w7 ⟨rfl, ht7, hb7, hf7⟩
  have hB7 := hB6.trans (bweak hb7 hWs)
  have hu7 := hu6.beside hS6 (l := 1) (by omega) (hf7.weaken _)
  have hz7 := hf7.size
  -- u.Type(2, b)
  go_wp2_with fail
  go_at_call 41
  refine (ttyType_in 2 (by omega) w2.heap.size w2.heap.size _ _ _ _ _ bs _ hu7 (hsb.keep hB7) (by omega) (by simp) (by omega)).mono ?_
  rintro e w8 ⟨rfl, ⟨u8, hu8, hn8⟩, hb8, hf8⟩
  have hB8 := hB7.trans (bweak hb8 (by omega))
  have ht8 := ht7.beside hS6.symm (l := 2) (by omega) hf8
  have hS8 := hS6.symm.next ht7 (l := 2) (by omega) hn8
  have hz8 := hf8.size
  -- t.Read(2, n)
  go_wp2_with fail
  go_at_call 42
  refine (ttyRead_at 2 (by omega) n hn0 w1.heap.size w1.heap.size _ _ _ _ _ ht8 (by omega) (bs.take 128) (by simp [upd])).mono ?_
  rintro e w9 ⟨u9, v9, rfl, hv9, ht9, hb9, hf9, hn9⟩
  have hB9 := hB8.trans (bweak hb9 hWs)
  have hu9 := hu8.beside hS8.symm (l := 2) (by omega) (hf9.weaken _)
  have hz9 := hf9.size
  obtain ⟨_, _, rfl⟩ := own_form hv9
  -- u.Read(2, n)
  go_wp2_with fail
  go_at_call 42
  refine (ttyRead_at 2 (by omega) n hn0 w2.heap.size w2.heap.size _ _ _ _ _ hu9 (by omega) (bs.take 128) (by simp [upd])).mono ?_
  rintro e w10 ⟨u10, v10, rfl, hv10, hu10, hb10, hf10, hn10⟩
  have hB10 := hB9.trans (bweak hb10 (by omega))
  obtain ⟨_, _, rfl⟩ := own_form hv10
  have hwf : ∀ z ∈ ttyOut n (bs.take 128), 0 ≤ z ∧ z ≤ 255 := fun z hz => hsb.byte z (List.mem_of_mem_take (ttyOut_mem hz))
  have hv9' := own_keep hv9 (fun k hk => hf10.block k ((hv9.lt k hk).2) (by have := (hv9.lt k hk).1; omega) (by simp))
  have q9 := (SI.of_own hv9' hwf).toString (P := Try.prog) Try.underlying43 Try.underlying5 Try.underlying9
  have q10 := (SI.of_own hv10 hwf).toString (P := Try.prog) Try.underlying43 Try.underlying5 Try.underlying9
  generalize strOfNums (ttyOut n (bs.take 128)) = T at q9 q10
  generalize ttyCode n (bs.take 128) = C
  generalize (ttyOut n (bs.take 128)).length = L at q9 q10 ⊢
  clear hv9' hv9 hv10
  go_wp2_with fail
  go_ret
  exact ⟨rfl, hB10⟩
end Go.Proofs.Ytbdcbkmacpameaa
