/- Configurations: one label more (conf.add). -/
import Derived.Test.YtapcbfeifeobhaaConB
set_option linter.unusedVariables false
set_option linter.unusedSimpArgs false
namespace Go.Proofs.Ytapcbfeifeobhaa
open Go.RowKit

theorem nameF_none {rs : List RegL} {s : ByteArray} (h : ∀ q ∈ rs, q.name ≠ s) : nameF rs s = none := by
  unfold nameF
  rw [List.findIdx?_eq_none_iff]
  intro q hq
  simpa using h q hq
theorem labF_none {rs : List RegL} {p : Nat × Nat} (h : ∀ q ∈ rs, q.lab ≠ p) : labF rs p = none := by
  unfold labF
  rw [List.findIdx?_eq_none_iff]
  intro q hq
  simpa using h q hq
theorem nameF_snoc {rs : List RegL} {r : RegL} (h : ∀ q ∈ rs, q.name ≠ r.name) (s : ByteArray) : putF (nameF rs) r.name rs.length s = nameF (rs ++ [r]) s := by
  unfold putF
  by_cases hs : s = r.name
  · rw [if_pos hs, hs]
    have := nameF_none h
    unfold nameF at this ⊢
    rw [List.findIdx?_append, this]
    simp
  · rw [if_neg hs]
    unfold nameF
    rw [List.findIdx?_append]
    have : ¬ r.name = s := fun e => hs e.symm
    simp [this]
theorem labF_snoc {rs : List RegL} {r : RegL} (h : ∀ q ∈ rs, q.lab ≠ r.lab) (s : Nat × Nat) : putF (labF rs) r.lab rs.length s = labF (rs ++ [r]) s := by
  unfold putF
  by_cases hs : s = r.lab
  · rw [if_pos hs, hs]
    have := labF_none h
    unfold labF at this ⊢
    rw [List.findIdx?_append, this]
    simp
  · rw [if_neg hs]
    unfold labF
    rw [List.findIdx?_append]
    have : ¬ r.lab = s := fun e => hs e.symm
    simp [this]

/-! ### Region 14: two literals, an append: what holds whatever has come up -/
def addD : List (Nat × Tmp) := [(8, 112), (15, 119), (9, 113)]
def addNeed (i : Nat) : Nat := if i = 9 then 2 ^ 8 else 0
def addMasks : List Nat := [0, 256, 32768, 33024, 768, 33536]
structure AddI (B : Nat) (w : World) (g gT gN gL : Nat) (v m u : Value) (rs : List RegL) (gs : List GeoL) (nf : ByteArray → Option Nat) (lf : Nat × Nat → Option Nat) (tf : Nat × Nat → Option Bool) (ms : List (Nat × Nat)) (r : RegL) (x9 H0 : Nat) (bC bR bG : Obj) (mask : Nat) (vv : Nat → Value) (w' : World) : Prop where
  hb : w'.heap[w.heap.size]? = some bR
  hx : w'.heap[x9]? = some bG
  hg : w'.heap[g]? = some bC
  p : Below B w w'
  sz : H0 ≤ w'.heap.size
  cr : CR B w' gT gN gL (if mask.testBit 9 then vv 9 else v) m u (if mask.testBit 9 then rs ++ [r] else rs) gs nf lf tf ms
  l8 : mask.testBit 8 = true → ∃ g8, vv 8 = .slice (some ⟨g8, 0, none⟩) 1 1 ∧ H0 ≤ g8 ∧ w'.heap[g8]? = some bR
  l15 : mask.testBit 15 = true → ∃ g15, vv 15 = .slice (some ⟨g15, 0, none⟩) 1 1 ∧ H0 ≤ g15 ∧ w'.heap[g15]? = some bG
section
variable {B : Nat} {w w' w'' : World} {g gT gN gL : Nat} {v m u : Value} {rs : List RegL} {gs : List GeoL} {nf : ByteArray → Option Nat} {lf : Nat × Nat → Option Nat} {tf : Nat × Nat → Option Bool} {ms : List (Nat × Nat)} {r : RegL} {x9 H0 : Nat} {bC bR bG : Obj} {mask : Nat} {vv : Nat → Value}
theorem AddI.below (h : AddI B w g gT gN gL v m u rs gs nf lf tf ms r x9 H0 bC bR bG mask vv w') (hB : B ≤ w.heap.size) : B ≤ w'.heap.size := Nat.le_trans hB h.p.size
theorem AddI.alloc8 (h : AddI B w g gT gN gL v m u rs gs nf lf tf ms r x9 H0 bC bR bG mask vv w') (hB : B ≤ w.heap.size) :
    AddI B w g gT gN gL v m u rs gs nf lf tf ms r x9 H0 bC bR bG (mask ||| 2 ^ 8) (updN vv 8 (.slice (some ⟨w'.heap.size, 0, none⟩) 1 1)) (w'.alloc bR) := by
  refine ⟨bkeep (bnew w' _) h.hb, bkeep (bnew w' _) h.hx, bkeep (bnew w' _) h.hg, h.p.alloc (h.below hB) _, Nat.le_trans h.sz (by simp), ?_, fun _ => ⟨_, updN_same _ _ _, h.sz, heap_alloc_last w' _⟩, fun hb => ?_⟩
  · rw [bit_other mask (by decide : (9 : Nat) ≠ 8), updN_other vv _ (by decide : (9 : Nat) ≠ 8)]
    exact h.cr.keep (bnew w' _)
  · rw [bit_other mask (by decide : (15 : Nat) ≠ 8)] at hb
    obtain ⟨g15, e1, e2, e3⟩ := h.l15 hb
    exact ⟨g15, by rw [updN_other vv _ (by decide : (15 : Nat) ≠ 8)]; exact e1, e2, bkeep (bnew w' _) e3⟩
theorem AddI.alloc15 (h : AddI B w g gT gN gL v m u rs gs nf lf tf ms r x9 H0 bC bR bG mask vv w') (hB : B ≤ w.heap.size) :
    AddI B w g gT gN gL v m u rs gs nf lf tf ms r x9 H0 bC bR bG (mask ||| 2 ^ 15) (updN vv 15 (.slice (some ⟨w'.heap.size, 0, none⟩) 1 1)) (w'.alloc bG) := by
  refine ⟨bkeep (bnew w' _) h.hb, bkeep (bnew w' _) h.hx, bkeep (bnew w' _) h.hg, h.p.alloc (h.below hB) _, Nat.le_trans h.sz (by simp), ?_, fun hb => ?_, fun _ => ⟨_, updN_same _ _ _, h.sz, heap_alloc_last w' _⟩⟩
  · rw [bit_other mask (by decide : (9 : Nat) ≠ 15), updN_other vv _ (by decide : (9 : Nat) ≠ 15)]
    exact h.cr.keep (bnew w' _)
  · rw [bit_other mask (by decide : (8 : Nat) ≠ 15)] at hb
    obtain ⟨g15, e1, e2, e3⟩ := h.l8 hb
    exact ⟨g15, by rw [updN_other vv _ (by decide : (8 : Nat) ≠ 15)]; exact e1, e2, bkeep (bnew w' _) e3⟩
theorem AddI.app9 (h : AddI B w g gT gN gL v m u rs gs nf lf tf ms r x9 H0 bC bR bG mask vv w') (hB : B ≤ w.heap.size) (h9 : mask.testBit 9 = false) (k1 : v.ownBlock ≠ some g) (k2 : v.ownBlock ≠ some x9) (k3 : ∀ k, v.ownBlock = some k → k < w.heap.size) (hw : w.heap.size ≤ H0)
    {v' : Value} (hg : w'.grownBy w'' v.ownBlock) (hown : w''.ownsRow B 138 9 v' (rs ++ [r]).length (regCells (rs ++ [r]))) :
    AddI B w g gT gN gL v m u rs gs nf lf tf ms r x9 H0 bC bR bG (mask ||| 2 ^ 9) (updN vv 9 v') w'' := by
  have o := one_of_grown hg
  have hcr := h.cr
  rw [h9] at hcr
  simp only [Bool.false_eq_true, if_false] at hcr
  have far : ∀ x, w.heap.size ≤ x → v.ownBlock ≠ some x := fun x hx e => by have := k3 x e; omega
  refine ⟨o.blk h.hb (far _ (Nat.le_refl _)), o.blk h.hx k2, o.blk h.hg k1, h.p.trans (o.toBelow (fun k hk => (own_blk hcr.ov hk).1) (h.below hB)), Nat.le_trans h.sz o.size, ?_, fun hb => ?_, fun hb => ?_⟩
  · rw [bit_same, updN_same]
    exact hcr.setV hg hown
  · rw [bit_other mask (by decide : (8 : Nat) ≠ 9)] at hb
    obtain ⟨g8, e1, e2, e3⟩ := h.l8 hb
    exact ⟨g8, by rw [updN_other vv _ (by decide : (8 : Nat) ≠ 9)]; exact e1, e2, o.blk e3 (far _ (by omega))⟩
  · rw [bit_other mask (by decide : (15 : Nat) ≠ 9)] at hb
    obtain ⟨g8, e1, e2, e3⟩ := h.l15 hb
    exact ⟨g8, by rw [updN_other vv _ (by decide : (15 : Nat) ≠ 9)]; exact e1, e2, o.blk e3 (far _ (by omega))⟩
end
theorem regCells_snoc (rs : List RegL) (r : RegL) : regCells (rs ++ [r]) = regCells rs ++ (regArr r).toList := by simp [regCells]
theorem geoCells_snoc (gs : List GeoL) (g : GeoL) : geoCells (gs ++ [g]) = geoCells gs ++ (geoArr g).toList := by simp [geoCells]
/-- A literal of one struct as a slice. -/
theorem SR.lit {w : World} {g n : Nat} {cs : Array Value} {t : TypeId} {fr : Nat × Nat} (h : w.heap[g]? = some (.cells cs t fr)) (hn : cs.size = n) : SR w (.slice (some ⟨g, 0, none⟩) 1 1) 1 n cs.toList := by
  refine ⟨by simp [hn], .inr ⟨_, 1, rfl, Nat.le_refl _, by simp [maxLen], fun _ => ⟨rfl, rowlt h, fun i hi => ?_⟩⟩⟩
  show w.cell? ⟨g, 0 + i, none⟩ = _
  rw [Nat.zero_add, rowcell h]
  simp
/-- What owns a row is one cell. -/
theorem own_oneCell {w : World} {B : Nat} {e : TypeId} {size : Nat} {v : Value} {n : Nat} {xs : List Value} (h : w.ownsRow B e size v n xs) : v.oneCell' = true := by
  rcases h.2 with ⟨rfl, _⟩ | ⟨g0, c0, cur, rfl, _⟩ <;> rfl
theorem Stage.late1 {F0 F1 : World → Prop} {g : Nat} {w : World} (h : F0 w) : ∀ l : Array Bool, l.getD g true = true → Stage F0 [(g, F1)] l w := fun l hl => Stage.late h hl
theorem geo_snoc (rs : List RegL) (r : RegL) (n3 n7 n9 : Nat) (Z3 : n3 = (r.bl + 511) / 512) (Z7 : n7 = (r.no * 32 + 63) / 64) (Z9 : n9 = (geosOf rs).2 + n3 + n7 + r.bl) :
    geoArr (geoOf (geosOf rs).2 r) = #[.int .i64 (geosOf rs).2, .int .i64 (n3 : Nat), .int .i64 (n7 : Nat), .int .i64 ((geosOf rs).2 + (n3 : Nat) + (n7 : Nat)), .int .i64 r.bl, .int .i64 r.no] ∧ (geosOf (rs ++ [r])).2 = n9 := by
  rw [geosOf_snoc]
  subst Z3 Z7 Z9
  unfold geoArr geoOf
  refine ⟨?_, rfl⟩
  simp only [Int.natCast_add]

set_option maxRecDepth 100000 in
set_option maxHeartbeats 8000000 in
theorem confAdd_in {B : Nat} {w : World} {g gT gN gL : Nat} {v m u : Value} {rs : List RegL} {ms : List (Nat × Nat)} (r : RegL) (many : Nat) (h : CB B w g gT gN gL v m u rs ms) (hr : okR many r)
    (hnm : ∀ q ∈ rs, q.name ≠ r.name) (hlb : ∀ q ∈ rs, q.lab ≠ r.lab) (hn : rs.length ≤ 100) (hm : many ≤ 100) (ht : (geosOf rs).2 ≤ 100000) (hB : B ≤ w.heap.size) :
    Calls Try.prog 70 #[.pointer (some ⟨g, 0, none⟩), .int .i64 rs.length, .agg #[.string r.name, .int .u8 r.lab.1, .int .u16 r.lab.2, .int .i64 r.bl, .int .i64 r.no, .int .i64 r.fr, .int .i64 r.pr, .int .i64 r.op, .int .i64 r.cl], .int .i64 many] w fun e w' => e = .returned (.int .i64 0) ∧ Below B w w' ∧ ∃ v' u', CB B w' g gT gN gL v' m u' (rs ++ [r]) ms := by
  have HN := Lib.hid (nameF_none hnm)
  have HL := Lib.hid (labF_none hlb)
  have HNS := Lib.hid (nameF_snoc hnm)
  have HLS := Lib.hid (labF_snoc hlb)
  clear hnm hlb
  obtain ⟨kn, hkn⟩ := key_str r.name (by have := hr.n8; unfold maxLen; omega)
  obtain ⟨kl, hkl⟩ := key_lab r.lab hr.lab_ok
  have HKN := Lib.hid hkn
  have HKL := Lib.hid hkl
  clear hkn hkl
  have q1 := hr.bl1
  have q2 := hr.bl2
  have q3 := hr.no1
  have q4 := hr.no2
  have q5 := hr.cl
  have H0 := Lib.hid (h.keep (bnew w (.cells #[.string r.name, .int .u8 r.lab.1, .int .u16 r.lab.2, .int .i64 r.bl, .int .i64 r.no, .int .i64 r.fr, .int .i64 r.pr, .int .i64 r.op, .int .i64 r.cl] 138)))
  have hB1 : B ≤ (w.alloc (.cells #[.string r.name, .int .u8 r.lab.1, .int .u16 r.lab.2, .int .i64 r.bl, .int .i64 r.no, .int .i64 r.fr, .int .i64 r.pr, .int .i64 r.op, .int .i64 r.cl] 138)).heap.size := by simp; omega
  have hgw : g < w.heap.size := rowlt h.blk
  have hvlt : ∀ k, v.ownBlock = some k → k < w.heap.size := fun k hk => (h.cr.ov.lt k hk).2
  have hult : ∀ k, u.ownBlock = some k → k < w.heap.size := fun k hk => (h.cr.ou.lt k hk).2
  have hb0 := h.b0
  have hlN := h.cr.mN.lt
  have hlL := h.cr.mL.lt
  have hlT := h.cr.mT.lt
  clear h
  go_enter Try.func70, Try.ntmps70
  go_wp2_with fail
  go_at_call 75; refine (confName_yes r.name hr.n1 hr.n8 hr.letters _).mono ?_; rintro e w1 ⟨rfl, hb1⟩
  have B1 := bkeep hb1 (heap_alloc_last w _)
  have H1 := Lib.hid (H0.out.keep hb1)
  have hA1 := bnext (bnew w (.cells #[.string r.name, .int .u8 r.lab.1, .int .u16 r.lab.2, .int .i64 r.bl, .int .i64 r.no, .int .i64 r.fr, .int .i64 r.pr, .int .i64 r.op, .int .i64 r.cl] 138)) hb1
  have C1 := rowcell B1
  clear H0
  go_wp2_with (first
    | (go_at_call 76; refine (labValid_yes r.lab hr.lev _).mono ?_; rintro e w2 ⟨rfl, hb2⟩; have B2 := bkeep hb2 B1; have C2 := rowcell B2; have H2 := Lib.hid (H1.out.keep hb2); have hA2 := bnext hA1 hb2)
    | (go_at_call 77; refine (sound_yes r many hr _).mono ?_; rintro e w3 ⟨rfl, hb3⟩; have B3 := bkeep hb3 B2; have C3 := rowcell B3; have H3 := Lib.hid (H2.out.keep hb3); have hA3 := bnext hA2 hb3)
    | (go_at_call 78; refine (within_yes _ _ _ (by omega) (by omega) _).mono ?_; rintro e w4 ⟨rfl, rfl⟩))
  have E3 := rowcell H3.out.blk
  clear C1 C2 H1 H2 B1 B2 hb1 hb2 hb3 hA1 hA2
  refine wp_region_held (S := fun w' => w' = w3.drew) (by kernel_rfl) ?_
  change wpAnyH _ _ _ _ _ _ _ _ (World.drew _)
  refine takeH 0 (.pointer (some ⟨g, 0, none⟩)) (some 36) rfl rfl (by kernel_rfl) (by kernel_rfl) (by kernel_rfl) (fun _ _ _ h => h) (.inl ⟨by kernel_rfl, fun w _ => by go_simp⟩) rfl ?_
  refine takeH 1 (.pointer (some ⟨g, 0, none⟩)) (some 37) rfl rfl (by kernel_rfl) (by kernel_rfl) (by kernel_rfl) (fun _ _ _ h => h) (.inl ⟨by kernel_rfl, fun w _ => by go_simp⟩) rfl ?_
  refine takeH 2 (.pointer (some ⟨g, 3, none⟩)) (some 38) rfl rfl (by kernel_rfl) (by kernel_rfl) (by kernel_rfl) (fun _ _ _ h => h) (.inl ⟨by kernel_rfl, fun w _ => by go_simp⟩) rfl ?_
  refine takeH 3 (.map (some gN)) (some 39) rfl rfl (by kernel_rfl) (by kernel_rfl) (by kernel_rfl) (fun _ _ _ h => h) (.inl ⟨by kernel_rfl, fun w hw => by subst hw; go_simp⟩) rfl ?_
  refine takeH 4 (.pointer (some ⟨w.heap.size, 0, none⟩)) (some 40) rfl rfl (by kernel_rfl) (by kernel_rfl) (by kernel_rfl) (fun _ _ _ h => h) (.inl ⟨by kernel_rfl, fun w _ => by go_simp⟩) rfl ?_
  refine takeH 5 (.string r.name) (some 41) rfl rfl (by kernel_rfl) (by kernel_rfl) (by kernel_rfl) (fun _ _ _ h => h) (.inl ⟨by kernel_rfl, fun w hw => by subst hw; go_simp⟩) rfl ?_
  refine takeH 6 (.tuple #[.int .i64 0, .bool false]) (some 42) rfl rfl (by kernel_rfl) (by kernel_rfl) (by kernel_rfl) (fun _ _ _ h => h) (.inl ⟨by kernel_rfl, fun w hw => by subst hw; exact ((H3.out.cr.mN.keep (drewb _)).exec_lookup keyedStr str_inj Try.underlying151 (z := .int .i64 0) (by kernel_rfl) (.tmp 39) (.tmp 41) true rfl (by go_simp) r.name (by go_simp; try rfl) HKN.out).trans (by rw [HN.out]; rfl)⟩) rfl ?_
  refine takeH 7 (.tuple #[.int .i64 0, .bool false]) (some 35) rfl rfl (by kernel_rfl) (by kernel_rfl) (by kernel_rfl) (fun _ _ _ h => h) (.inl ⟨by kernel_rfl, fun w _ => by go_simp⟩) rfl ?_
  refine takeH 8 (.int .i64 0) (some 43) rfl rfl (by kernel_rfl) (by kernel_rfl) (by kernel_rfl) (fun _ _ _ h => h) (.inl ⟨by kernel_rfl, fun w _ => by go_simp⟩) rfl ?_
  refine takeH 9 (.bool false) (some 44) rfl rfl (by kernel_rfl) (by kernel_rfl) (by kernel_rfl) (fun _ _ _ h => h) (.inl ⟨by kernel_rfl, fun w _ => by go_simp⟩) rfl ?_
  refine takeH 10 (.int .i64 0) (some 9) rfl rfl (by kernel_rfl) (by kernel_rfl) (by kernel_rfl) (fun _ _ _ h => h) (.inl ⟨by kernel_rfl, fun w _ => by go_simp⟩) rfl ?_
  refine takeH 11 (.bool false) (some 10) rfl rfl (by kernel_rfl) (by kernel_rfl) (by kernel_rfl) (fun _ _ _ h => h) (.inl ⟨by kernel_rfl, fun w _ => by go_simp⟩) rfl ?_
  refine wpAnyH_done (by kernel_rfl) ?_ _
  go_simp
  go_wp2_with fail
  have B4 : w3.drew.heap[w.heap.size]? = _ := B3
  have H4 := Lib.hid (H3.out.keep (drewb w3))
  have hA4 := bdrawn hA3
  obtain ⟨w4, hw4⟩ : ∃ w', w' = w3.drew := ⟨_, rfl⟩
  rw [← hw4] at B4 H4 hA4 ⊢
  clear hw4 B3 H3 C3 E3 hA3
  have C4 := rowcell B4
  have E4 := rowcell H4.out.blk
  refine wp_region_held (S := fun w' => w' = w4.drew) (by kernel_rfl) ?_
  change wpAnyH _ _ _ _ _ _ _ _ (World.drew _)
  refine takeH 0 (.pointer (some ⟨g, 0, none⟩)) (some 47) rfl rfl (by kernel_rfl) (by kernel_rfl) (by kernel_rfl) (fun _ _ _ h => h) (.inl ⟨by kernel_rfl, fun w _ => by go_simp⟩) rfl ?_
  refine takeH 1 (.pointer (some ⟨g, 0, none⟩)) (some 48) rfl rfl (by kernel_rfl) (by kernel_rfl) (by kernel_rfl) (fun _ _ _ h => h) (.inl ⟨by kernel_rfl, fun w _ => by go_simp⟩) rfl ?_
  refine takeH 2 (.pointer (some ⟨g, 4, none⟩)) (some 49) rfl rfl (by kernel_rfl) (by kernel_rfl) (by kernel_rfl) (fun _ _ _ h => h) (.inl ⟨by kernel_rfl, fun w _ => by go_simp⟩) rfl ?_
  refine takeH 3 (.map (some gL)) (some 50) rfl rfl (by kernel_rfl) (by kernel_rfl) (by kernel_rfl) (fun _ _ _ h => h) (.inl ⟨by kernel_rfl, fun w hw => by subst hw; go_simp⟩) rfl ?_
  refine takeH 4 (.pointer (some ⟨w.heap.size, 1, none⟩)) (some 51) rfl rfl (by kernel_rfl) (by kernel_rfl) (by kernel_rfl) (fun _ _ _ h => h) (.inl ⟨by kernel_rfl, fun w _ => by go_simp⟩) rfl ?_
  refine takeH 5 (.agg #[.int .u8 r.lab.1, .int .u16 r.lab.2]) (some 52) rfl rfl (by kernel_rfl) (by kernel_rfl) (by kernel_rfl) (fun _ _ _ h => h) (.inl ⟨by kernel_rfl, fun w hw => by subst hw; go_simp⟩) rfl ?_
  refine takeH 6 (.tuple #[.int .i64 0, .bool false]) (some 53) rfl rfl (by kernel_rfl) (by kernel_rfl) (by kernel_rfl) (fun _ _ _ h => h) (.inl ⟨by kernel_rfl, fun w hw => by subst hw; exact ((H4.out.cr.mL.keep (drewb _)).exec_lookup keyedLab labV_inj Try.underlying152 (z := .int .i64 0) (by kernel_rfl) (.tmp 50) (.tmp 52) true rfl (by go_simp) r.lab (by go_simp; try rfl) HKL.out).trans (by rw [HL.out]; rfl)⟩) rfl ?_
  refine takeH 7 (.tuple #[.int .i64 0, .bool false]) (some 46) rfl rfl (by kernel_rfl) (by kernel_rfl) (by kernel_rfl) (fun _ _ _ h => h) (.inl ⟨by kernel_rfl, fun w _ => by go_simp⟩) rfl ?_
  refine takeH 8 (.int .i64 0) (some 54) rfl rfl (by kernel_rfl) (by kernel_rfl) (by kernel_rfl) (fun _ _ _ h => h) (.inl ⟨by kernel_rfl, fun w _ => by go_simp⟩) rfl ?_
  refine takeH 9 (.bool false) (some 55) rfl rfl (by kernel_rfl) (by kernel_rfl) (by kernel_rfl) (fun _ _ _ h => h) (.inl ⟨by kernel_rfl, fun w _ => by go_simp⟩) rfl ?_
  refine takeH 10 (.int .i64 0) (some 11) rfl rfl (by kernel_rfl) (by kernel_rfl) (by kernel_rfl) (fun _ _ _ h => h) (.inl ⟨by kernel_rfl, fun w _ => by go_simp⟩) rfl ?_
  refine takeH 11 (.bool false) (some 12) rfl rfl (by kernel_rfl) (by kernel_rfl) (by kernel_rfl) (fun _ _ _ h => h) (.inl ⟨by kernel_rfl, fun w _ => by go_simp⟩) rfl ?_
  refine wpAnyH_done (by kernel_rfl) ?_ _
  go_simp
  go_wp2_with fail
  have B5 : w4.drew.heap[w.heap.size]? = _ := B4
  have H5 := Lib.hid (H4.out.keep (drewb w4))
  have hA5 := bdrawn hA4
  obtain ⟨w5, hw5⟩ : ∃ w', w' = w4.drew := ⟨_, rfl⟩
  rw [← hw5] at B5 H5 hA5 ⊢
  clear hw5 B4 H4 C4 E4 hA4
  have C5 := rowcell B5
  have E5 := rowcell H5.out.blk
  have s11 : w5.drew.heap[g]? = some (.cells #[v, .map (some gT), m, .map (some gN), .map (some gL), u, .int .i64 (geosOf rs).2] 155) ∧ w5.drew.heap[w.heap.size]? = some (.cells #[.string r.name, .int .u8 r.lab.1, .int .u16 r.lab.2, .int .i64 r.bl, .int .i64 r.no, .int .i64 r.fr, .int .i64 r.pr, .int .i64 r.op, .int .i64 r.cl] 138) := ⟨H5.out.blk, B5⟩
  refine wp_region_held (S := fun w' => w'.heap[g]? = some (.cells #[v, .map (some gT), m, .map (some gN), .map (some gL), u, .int .i64 (geosOf rs).2] 155) ∧ w'.heap[w.heap.size]? = some (.cells #[.string r.name, .int .u8 r.lab.1, .int .u16 r.lab.2, .int .i64 r.bl, .int .i64 r.no, .int .i64 r.fr, .int .i64 r.pr, .int .i64 r.op, .int .i64 r.cl] 138)) (by kernel_rfl) ?_
  change wpAnyH _ _ _ _ _ _ _ _ (World.drew _)
  have R5 := H5.out.cr.keep (drewb w5)
  have hgN : gN ≠ g := fun e => R5.mN.notCells (by rw [e]; exact s11.1)
  have hgL : gL ≠ g := fun e => R5.mL.notCells (by rw [e]; exact s11.1)
  have hbN : gN ≠ w.heap.size := by omega
  have hbL : gL ≠ w.heap.size := by omega
  have P5 : Below B w w5.drew := (bdrawn hA5).mono hB
  refine takeH 0 (.pointer (some ⟨g, 0, none⟩)) (some 57) rfl rfl (by kernel_rfl) (by kernel_rfl) (by kernel_rfl) (fun _ _ _ h => h) (.inl ⟨by kernel_rfl, fun w _ => by go_simp⟩) s11 ?_
  refine takeH 1 (.pointer (some ⟨g, 0, none⟩)) (some 58) rfl rfl (by kernel_rfl) (by kernel_rfl) (by kernel_rfl) (fun _ _ _ h => h) (.inl ⟨by kernel_rfl, fun w _ => by go_simp⟩) s11 ?_
  refine takeH 2 (.pointer (some ⟨g, 3, none⟩)) (some 59) rfl rfl (by kernel_rfl) (by kernel_rfl) (by kernel_rfl) (fun _ _ _ h => h) (.inl ⟨by kernel_rfl, fun w _ => by go_simp⟩) s11 ?_
  refine takeH 3 (.map (some gN)) (some 60) rfl rfl (by kernel_rfl) (by kernel_rfl) (by kernel_rfl) (fun _ _ _ h => h) (.inl ⟨by kernel_rfl, fun w hw => by have hc := (fun w hw => rowcell (And.left hw)) w hw; go_simp⟩) s11 ?_
  refine takeH 4 (.pointer (some ⟨w.heap.size, 0, none⟩)) (some 61) rfl rfl (by kernel_rfl) (by kernel_rfl) (by kernel_rfl) (fun _ _ _ h => h) (.inl ⟨by kernel_rfl, fun w _ => by go_simp⟩) s11 ?_
  refine takeH 5 (.string r.name) (some 62) rfl rfl (by kernel_rfl) (by kernel_rfl) (by kernel_rfl) (fun _ _ _ h => h) (.inl ⟨by kernel_rfl, fun w hw => by have hc := (fun w hw => rowcell (And.right hw)) w hw; go_simp⟩) s11 ?_
  refine takeH 6 (.pointer (some ⟨g, 0, none⟩)) (some 63) rfl rfl (by kernel_rfl) (by kernel_rfl) (by kernel_rfl) (fun _ _ _ h => h) (.inl ⟨by kernel_rfl, fun w _ => by go_simp⟩) s11 ?_
  refine takeH 7 (.pointer (some ⟨g, 0, none⟩)) (some 64) rfl rfl (by kernel_rfl) (by kernel_rfl) (by kernel_rfl) (fun _ _ _ h => h) (.inl ⟨by kernel_rfl, fun w _ => by go_simp⟩) s11 ?_
  refine takeH 8 (.pointer (some ⟨g, 4, none⟩)) (some 65) rfl rfl (by kernel_rfl) (by kernel_rfl) (by kernel_rfl) (fun _ _ _ h => h) (.inl ⟨by kernel_rfl, fun w _ => by go_simp⟩) s11 ?_
  refine takeH 9 (.map (some gL)) (some 66) rfl rfl (by kernel_rfl) (by kernel_rfl) (by kernel_rfl) (fun _ _ _ h => h) (.inl ⟨by kernel_rfl, fun w hw => by have hc := (fun w hw => rowcell (And.left hw)) w hw; go_simp⟩) s11 ?_
  refine takeH 10 (.pointer (some ⟨w.heap.size, 1, none⟩)) (some 67) rfl rfl (by kernel_rfl) (by kernel_rfl) (by kernel_rfl) (fun _ _ _ h => h) (.inl ⟨by kernel_rfl, fun w _ => by go_simp⟩) s11 ?_
  refine takeH 11 (.agg #[.int .u8 r.lab.1, .int .u16 r.lab.2]) (some 68) rfl rfl (by kernel_rfl) (by kernel_rfl) (by kernel_rfl) (fun _ _ _ h => h) (.inl ⟨by kernel_rfl, fun w hw => by have hc := (fun w hw => rowcell (And.right hw)) w hw; go_simp⟩) s11 ?_
  refine takeH 12 (.int .i64 rs.length) (some 69) rfl rfl (by kernel_rfl) (by kernel_rfl) (by kernel_rfl) (fun _ _ _ h => h) (.inl ⟨by kernel_rfl, fun w _ => by go_simp⟩) s11 ?_
  refine takeH 13 (.int .i64 rs.length) (some 70) rfl rfl (by kernel_rfl) (by kernel_rfl) (by kernel_rfl) (fun _ _ _ h => h) (.inl ⟨by kernel_rfl, fun w _ => by go_simp⟩) s11 ?_
  refine entryH 14 rfl (by kernel_rfl) (by kernel_rfl) (some 71) rfl (.tmp 60) (.tmp 62) rfl R5.mN keyedStr str_inj Try.underlying151 (z := .int .i64 0) (by kernel_rfl) (by go_simp) r.name (by go_simp; try rfl) HKN.out HN.out (fun w6 c1 hh6 o6 => ?_)
  have s12 : w6.heap[g]? = some (.cells #[v, .map (some gT), m, .map (some gN), .map (some gL), u, .int .i64 (geosOf rs).2] 155) ∧ w6.heap[w.heap.size]? = some (.cells #[.string r.name, .int .u8 r.lab.1, .int .u16 r.lab.2, .int .i64 r.bl, .int .i64 r.no, .int .i64 r.fr, .int .i64 r.pr, .int .i64 r.op, .int .i64 r.cl] 138) := ⟨o6.blk s11.1 (fun e => hgN (Option.some.inj e)), o6.blk s11.2 (fun e => hbN (Option.some.inj e))⟩
  refine ⟨s12, ?_⟩
  refine takeH 15 (.int .i64 (c1 : Nat)) (some 72) rfl rfl (by kernel_rfl) (by kernel_rfl) (by kernel_rfl) (fun _ _ _ h => h) (.inl ⟨by kernel_rfl, fun w _ => by go_simp⟩) s12 ?_
  refine halfH 16 rfl (by kernel_rfl) (by kernel_rfl) rfl (.tmp 60) (.tmp 72) (.tmp 69) rfl hh6 str_inj (by go_simp) (by go_simp) rs.length (by go_simp; try rfl) (fun w7 n7 o7 => ?_)
  have o67 := o6.trans o7
  have R7 := R5.setN o67 n7
  have s13 : w7.heap[g]? = some (.cells #[v, .map (some gT), m, .map (some gN), .map (some gL), u, .int .i64 (geosOf rs).2] 155) ∧ w7.heap[w.heap.size]? = some (.cells #[.string r.name, .int .u8 r.lab.1, .int .u16 r.lab.2, .int .i64 r.bl, .int .i64 r.no, .int .i64 r.fr, .int .i64 r.pr, .int .i64 r.op, .int .i64 r.cl] 138) := ⟨o7.blk s12.1 (fun e => hgN (Option.some.inj e)), o7.blk s12.2 (fun e => hbN (Option.some.inj e))⟩
  refine ⟨s13, ?_⟩
  refine entryH 17 rfl (by kernel_rfl) (by kernel_rfl) (some 73) rfl (.tmp 66) (.tmp 68) rfl R7.mL keyedLab labV_inj Try.underlying152 (z := .int .i64 0) (by kernel_rfl) (by go_simp) r.lab (by go_simp; try rfl) HKL.out HL.out (fun w8 c2 hh8 o8 => ?_)
  have s14 : w8.heap[g]? = some (.cells #[v, .map (some gT), m, .map (some gN), .map (some gL), u, .int .i64 (geosOf rs).2] 155) ∧ w8.heap[w.heap.size]? = some (.cells #[.string r.name, .int .u8 r.lab.1, .int .u16 r.lab.2, .int .i64 r.bl, .int .i64 r.no, .int .i64 r.fr, .int .i64 r.pr, .int .i64 r.op, .int .i64 r.cl] 138) := ⟨o8.blk s13.1 (fun e => hgL (Option.some.inj e)), o8.blk s13.2 (fun e => hbL (Option.some.inj e))⟩
  refine ⟨s14, ?_⟩
  refine takeH 18 (.int .i64 (c2 : Nat)) (some 74) rfl rfl (by kernel_rfl) (by kernel_rfl) (by kernel_rfl) (fun _ _ _ h => h) (.inl ⟨by kernel_rfl, fun w _ => by go_simp⟩) s14 ?_
  refine halfH 19 rfl (by kernel_rfl) (by kernel_rfl) rfl (.tmp 66) (.tmp 74) (.tmp 70) rfl hh8 labV_inj (by go_simp) (by go_simp) rs.length (by go_simp; try rfl) (fun w9 l9 o9 => ?_)
  have o89 := o8.trans o9
  have R9 := R7.setL o89 l9
  have s15 : w9.heap[g]? = some (.cells #[v, .map (some gT), m, .map (some gN), .map (some gL), u, .int .i64 (geosOf rs).2] 155) ∧ w9.heap[w.heap.size]? = some (.cells #[.string r.name, .int .u8 r.lab.1, .int .u16 r.lab.2, .int .i64 r.bl, .int .i64 r.no, .int .i64 r.fr, .int .i64 r.pr, .int .i64 r.op, .int .i64 r.cl] 138) := ⟨o9.blk s14.1 (fun e => hgL (Option.some.inj e)), o9.blk s14.2 (fun e => hbL (Option.some.inj e))⟩
  refine ⟨s15, ?_⟩
  refine wpAnyH_done (by kernel_rfl) ?_ _
  go_simp
  have hB5 : B ≤ w5.drew.heap.size := Nat.le_trans hB P5.size
  have P7 := P5.trans (o67.toBelow (fun k hk => by cases hk; exact R5.b2) hB5)
  have P9 := P7.trans (o89.toBelow (fun k hk => by cases hk; exact R5.b3) (Nat.le_trans hB P7.size))
  rw [funext HNS.out, funext HLS.out] at R9
  have hg9 := s15.1
  have hb9 := s15.2
  have hsz9 : w.heap.size < w9.heap.size := rowlt hb9
  have C9 := rowcell hg9
  have D9 := rowcell hb9
  have q6 := R9.mT.lt
  have HR9 := Lib.hid R9
  clear s11 s12 s13 s14 s15 R5 R7 R9 hh6 hh8 n7 l9 o6 o7 o67 o8 o9 o89 H5 P5 P7 B5 C5 E5 hA5 hB5 HN HL HNS HLS HKN HKL hgN hgL hbN hbL
  go_wp2_with fail
  obtain ⟨n1, hn1⟩ : ∃ n : Nat, n = r.bl + 512 := ⟨_, rfl⟩
  obtain ⟨n2, hn2⟩ : ∃ n : Nat, n = r.bl + 511 := ⟨_, rfl⟩
  obtain ⟨n3, hn3⟩ : ∃ n : Nat, n = (r.bl + 511) / 512 := ⟨_, rfl⟩
  obtain ⟨n4, hn4⟩ : ∃ n : Nat, n = r.no * 32 := ⟨_, rfl⟩
  obtain ⟨n5, hn5⟩ : ∃ n : Nat, n = r.no * 32 + 64 := ⟨_, rfl⟩
  obtain ⟨n6, hn6⟩ : ∃ n : Nat, n = r.no * 32 + 63 := ⟨_, rfl⟩
  obtain ⟨n7, hn7⟩ : ∃ n : Nat, n = (r.no * 32 + 63) / 64 := ⟨_, rfl⟩
  have Y1 := Lib.hid (show IntKind.i64.wrap ((r.bl : Int) + 512) = (n1 : Int) by rw [IntKind.wrap_i64]; omega)
  have Y2 := Lib.hid (show IntKind.i64.wrap ((n1 : Int) - 1) = (n2 : Int) by rw [IntKind.wrap_i64]; omega)
  have Y3 := Lib.hid (show IntKind.i64.wrap ((n2 : Int).tdiv 512) = (n3 : Int) by rw [IntKind.wrap_i64, Int.tdiv_eq_ediv_of_nonneg (by omega)]; omega)
  have Y4 := Lib.hid (show IntKind.i64.wrap ((r.no : Int) * 32) = (n4 : Int) by rw [IntKind.wrap_i64]; omega)
  have Y5 := Lib.hid (show IntKind.i64.wrap ((n4 : Int) + 64) = (n5 : Int) by rw [IntKind.wrap_i64]; omega)
  have Y6 := Lib.hid (show IntKind.i64.wrap ((n5 : Int) - 1) = (n6 : Int) by rw [IntKind.wrap_i64]; omega)
  have Y7 := Lib.hid (show IntKind.i64.wrap ((n6 : Int).tdiv 64) = (n7 : Int) by rw [IntKind.wrap_i64, Int.tdiv_eq_ediv_of_nonneg (by omega)]; omega)
  have z3 : n3 ≤ 1 := by omega
  have z7 : n7 ≤ 64 := by omega
  have Z3 := Lib.hid hn3
  have Z7 := Lib.hid hn7
  clear hn1 hn2 hn3 hn4 hn5 hn6 hn7
  have s16 : w9.drew.heap[g]? = some (.cells #[v, .map (some gT), m, .map (some gN), .map (some gL), u, .int .i64 (geosOf rs).2] 155) ∧ w9.drew.heap[w.heap.size]? = some (.cells #[.string r.name, .int .u8 r.lab.1, .int .u16 r.lab.2, .int .i64 r.bl, .int .i64 r.no, .int .i64 r.fr, .int .i64 r.pr, .int .i64 r.op, .int .i64 r.cl] 138) := ⟨hg9, hb9⟩
  refine wp_region_held (S := fun w' => w'.heap[g]? = some (.cells #[v, .map (some gT), m, .map (some gN), .map (some gL), u, .int .i64 (geosOf rs).2] 155) ∧ w'.heap[w.heap.size]? = some (.cells #[.string r.name, .int .u8 r.lab.1, .int .u16 r.lab.2, .int .i64 r.bl, .int .i64 r.no, .int .i64 r.fr, .int .i64 r.pr, .int .i64 r.op, .int .i64 r.cl] 138)) (by kernel_rfl) ?_
  change wpAnyH _ _ _ _ _ _ _ _ (World.drew _)
  refine takeH 0 (.pointer (some ⟨g, 0, none⟩)) (some 75) rfl rfl (by kernel_rfl) (by kernel_rfl) (by kernel_rfl) (fun _ _ _ h => h) (.inl ⟨by kernel_rfl, fun w _ => by go_simp⟩) s16 ?_
  refine takeH 1 (.pointer (some ⟨g, 0, none⟩)) (some 76) rfl rfl (by kernel_rfl) (by kernel_rfl) (by kernel_rfl) (fun _ _ _ h => h) (.inl ⟨by kernel_rfl, fun w _ => by go_simp⟩) s16 ?_
  refine takeH 2 (.pointer (some ⟨g, 6, none⟩)) (some 77) rfl rfl (by kernel_rfl) (by kernel_rfl) (by kernel_rfl) (fun _ _ _ h => h) (.inl ⟨by kernel_rfl, fun w _ => by go_simp⟩) s16 ?_
  refine takeH 3 (.int .i64 (geosOf rs).2) (some 78) rfl rfl (by kernel_rfl) (by kernel_rfl) (by kernel_rfl) (fun _ _ _ h => h) (.inl ⟨by kernel_rfl, fun w hw => by have hc := (fun w hw => rowcell (And.left hw)) w hw; go_simp⟩) s16 ?_
  refine takeH 4 (.pointer (some ⟨w.heap.size, 3, none⟩)) (some 79) rfl rfl (by kernel_rfl) (by kernel_rfl) (by kernel_rfl) (fun _ _ _ h => h) (.inl ⟨by kernel_rfl, fun w _ => by go_simp⟩) s16 ?_
  refine takeH 5 (.int .i64 r.bl) (some 80) rfl rfl (by kernel_rfl) (by kernel_rfl) (by kernel_rfl) (fun _ _ _ h => h) (.inl ⟨by kernel_rfl, fun w hw => by have hc := (fun w hw => rowcell (And.right hw)) w hw; go_simp⟩) s16 ?_
  refine takeH 6 (.int .i64 (n1 : Nat)) (some 81) rfl rfl (by kernel_rfl) (by kernel_rfl) (by kernel_rfl) (fun _ _ _ h => h) (.inl ⟨by kernel_rfl, fun w _ => exec_add rfl (by go_simp) (by go_simp) Y1.out⟩) s16 ?_
  refine takeH 7 (.int .i64 (n2 : Nat)) (some 82) rfl rfl (by kernel_rfl) (by kernel_rfl) (by kernel_rfl) (fun _ _ _ h => h) (.inl ⟨by kernel_rfl, fun w _ => exec_sub rfl (by go_simp) (by go_simp) Y2.out⟩) s16 ?_
  refine takeH 8 (.int .i64 (n3 : Nat)) (some 83) rfl rfl (by kernel_rfl) (by kernel_rfl) (by kernel_rfl) (fun _ _ _ h => h) (.inl ⟨by kernel_rfl, fun w _ => exec_quo rfl (by go_simp) (by go_simp) (by decide) Y3.out⟩) s16 ?_
  refine takeH 9 (.pointer (some ⟨w.heap.size, 4, none⟩)) (some 84) rfl rfl (by kernel_rfl) (by kernel_rfl) (by kernel_rfl) (fun _ _ _ h => h) (.inl ⟨by kernel_rfl, fun w _ => by go_simp⟩) s16 ?_
  refine takeH 10 (.int .i64 r.no) (some 85) rfl rfl (by kernel_rfl) (by kernel_rfl) (by kernel_rfl) (fun _ _ _ h => h) (.inl ⟨by kernel_rfl, fun w hw => by have hc := (fun w hw => rowcell (And.right hw)) w hw; go_simp⟩) s16 ?_
  refine takeH 11 (.int .i64 (n4 : Nat)) (some 86) rfl rfl (by kernel_rfl) (by kernel_rfl) (by kernel_rfl) (fun _ _ _ h => h) (.inl ⟨by kernel_rfl, fun w _ => exec_mul rfl (by go_simp) (by go_simp) Y4.out⟩) s16 ?_
  refine takeH 12 (.int .i64 (n5 : Nat)) (some 87) rfl rfl (by kernel_rfl) (by kernel_rfl) (by kernel_rfl) (fun _ _ _ h => h) (.inl ⟨by kernel_rfl, fun w _ => exec_add rfl (by go_simp) (by go_simp) Y5.out⟩) s16 ?_
  refine takeH 13 (.int .i64 (n6 : Nat)) (some 88) rfl rfl (by kernel_rfl) (by kernel_rfl) (by kernel_rfl) (fun _ _ _ h => h) (.inl ⟨by kernel_rfl, fun w _ => exec_sub rfl (by go_simp) (by go_simp) Y6.out⟩) s16 ?_
  refine takeH 14 (.int .i64 (n7 : Nat)) (some 89) rfl rfl (by kernel_rfl) (by kernel_rfl) (by kernel_rfl) (fun _ _ _ h => h) (.inl ⟨by kernel_rfl, fun w _ => exec_quo rfl (by go_simp) (by go_simp) (by decide) Y7.out⟩) s16 ?_
  refine takeH 15 (.pointer (some ⟨w.heap.size, 3, none⟩)) (some 90) rfl rfl (by kernel_rfl) (by kernel_rfl) (by kernel_rfl) (fun _ _ _ h => h) (.inl ⟨by kernel_rfl, fun w _ => by go_simp⟩) s16 ?_
  refine takeH 16 (.int .i64 r.bl) (some 91) rfl rfl (by kernel_rfl) (by kernel_rfl) (by kernel_rfl) (fun _ _ _ h => h) (.inl ⟨by kernel_rfl, fun w hw => by have hc := (fun w hw => rowcell (And.right hw)) w hw; go_simp⟩) s16 ?_
  refine takeH 17 (.pointer (some ⟨w.heap.size, 4, none⟩)) (some 92) rfl rfl (by kernel_rfl) (by kernel_rfl) (by kernel_rfl) (fun _ _ _ h => h) (.inl ⟨by kernel_rfl, fun w _ => by go_simp⟩) s16 ?_
  refine takeH 18 (.int .i64 r.no) (some 93) rfl rfl (by kernel_rfl) (by kernel_rfl) (by kernel_rfl) (fun _ _ _ h => h) (.inl ⟨by kernel_rfl, fun w hw => by have hc := (fun w hw => rowcell (And.right hw)) w hw; go_simp⟩) s16 ?_
  refine takeH 19 (.agg #[.int .i64 (geosOf rs).2, .int .i64 (n3 : Nat), .int .i64 (n7 : Nat), .int .i64 0, .int .i64 r.bl, .int .i64 r.no]) (some 94) rfl rfl (by kernel_rfl) (by kernel_rfl) (by kernel_rfl) (fun _ _ _ h => h) (.inl ⟨by kernel_rfl, fun w _ => by go_simp⟩) s16 ?_
  have s17 : (w9.drew.alloc (.cells #[.int .i64 0, .int .i64 0, .int .i64 0, .int .i64 0, .int .i64 0, .int .i64 0] 167)).heap[g]? = some (.cells #[v, .map (some gT), m, .map (some gN), .map (some gL), u, .int .i64 (geosOf rs).2] 155) ∧ (w9.drew.alloc (.cells #[.int .i64 0, .int .i64 0, .int .i64 0, .int .i64 0, .int .i64 0, .int .i64 0] 167)).heap[w.heap.size]? = some (.cells #[.string r.name, .int .u8 r.lab.1, .int .u16 r.lab.2, .int .i64 r.bl, .int .i64 r.no, .int .i64 r.fr, .int .i64 r.pr, .int .i64 r.op, .int .i64 r.cl] 138) := ⟨bkeep (bnew w9.drew _) s16.1, bkeep (bnew w9.drew _) s16.2⟩
  refine runH 20 (.pointer (some ⟨w9.heap.size, 0, none⟩)) (some 13) rfl (by kernel_rfl) (by kernel_rfl) rfl (w' := w9.drew.alloc (.cells #[.int .i64 0, .int .i64 0, .int .i64 0, .int .i64 0, .int .i64 0, .int .i64 0] 167)) (by go_simp) s17 ?_
  refine storeWholeH 21 rfl (by kernel_rfl) (by kernel_rfl) rfl 167 (.tmp 13) (.tmp 94) rfl #[.int .i64 (geosOf rs).2, .int .i64 (n3 : Nat), .int .i64 (n7 : Nat), .int .i64 0, .int .i64 r.bl, .int .i64 r.no] #[.int .i64 0, .int .i64 0, .int .i64 0, .int .i64 0, .int .i64 0, .int .i64 0] 167 (g := w9.heap.size) (by go_simp) (by go_simp) (by kernel_rfl) (heap_alloc_last w9.drew _) rfl (List.all_eq_true.1 (by rfl)) (fun w10 g10 o10 => ?_)
  have s18 : w10.heap[g]? = some (.cells #[v, .map (some gT), m, .map (some gN), .map (some gL), u, .int .i64 (geosOf rs).2] 155) ∧ w10.heap[w.heap.size]? = some (.cells #[.string r.name, .int .u8 r.lab.1, .int .u16 r.lab.2, .int .i64 r.bl, .int .i64 r.no, .int .i64 r.fr, .int .i64 r.pr, .int .i64 r.op, .int .i64 r.cl] 138) := ⟨o10.blk s17.1 (fun e => by have := Option.some.inj e; omega), o10.blk s17.2 (fun e => by have := Option.some.inj e; omega)⟩
  refine ⟨s18, ?_⟩
  refine wpAnyH_done (by kernel_rfl) ?_ _
  go_simp
  have L10 : Below w9.heap.size w9 w10 := ((drewb w9).trans (bnew w9.drew _)).trans (o10.toBelow (fun k hk => by cases hk; exact Nat.le_refl _) (by simp))
  have R10 := HR9.out.keep L10
  have F9 := HR9.out.far (Nat.le_refl _)
  have hB9 : B ≤ w9.heap.size := Nat.le_trans hB P9.size
  have P10 := P9.trans (L10.mono hB9)
  have hg10 := s18.1
  have hb10 := s18.2
  have C10 := rowcell hg10
  have D10 := rowcell hb10
  have G10 := rowcell g10
  have J10 := rowfree g10
  have HR10 := Lib.hid R10
  clear s16 s17 s18 o10 L10 R10 HR9 P9 C9 D9 hg9 hb9 Y1 Y2 Y3 Y4 Y5 Y6 Y7
  go_wp2_with fail
  obtain ⟨w13, hw13⟩ : ∃ w', w' = w10.setCell ⟨w9.heap.size, 3, none⟩ (.int .i64 ((geosOf rs).2 + (n3 : Nat) + (n7 : Nat))) := ⟨_, rfl⟩
  have o13 : One w10 w13 (some w9.heap.size) := by rw [hw13]; exact one_setCell _ _ _ _
  have g13 : w13.heap[w9.heap.size]? = some (.cells #[.int .i64 (geosOf rs).2, .int .i64 (n3 : Nat), .int .i64 (n7 : Nat), .int .i64 ((geosOf rs).2 + (n3 : Nat) + (n7 : Nat)), .int .i64 r.bl, .int .i64 r.no] 167) := by rw [hw13]; exact heap_setCell_at g10 _ (by simp)
  have hg13 := o13.blk hg10 (fun e => by have := Option.some.inj e; omega)
  have hb13 := o13.blk hb10 (fun e => by have := Option.some.inj e; omega)
  have R13 := HR10.out.one o13 F9
  have P13 := P10.trans (o13.toBelow (fun k hk => by cases hk; exact hB9) (Nat.le_trans hB P10.size))
  rw [← hw13]
  obtain ⟨n9, hn9⟩ : ∃ n : Nat, n = (geosOf rs).2 + n3 + n7 + r.bl := ⟨_, rfl⟩
  have Y9 := Lib.hid (show IntKind.i64.wrap ((geosOf rs).2 + (n3 : Nat) + (n7 : Nat) + (r.bl : Int)) = (n9 : Int) by rw [IntKind.wrap_i64]; omega)
  have Z9 := Lib.hid hn9
  obtain ⟨x9, hx9⟩ : ∃ x, x = w9.heap.size := ⟨_, rfl⟩
  rw [← hx9] at F9 g13 hsz9 ⊢
  have hx13 : x9 < w13.heap.size := rowlt g13
  have hgT9 := Lib.hid (R13.off hg13 (by decide) (by decide) (by decide))
  have HR13 := Lib.hid R13
  clear hw13 o13 g10 hg10 hb10 C10 D10 G10 J10 HR10 R13 P10 hn9 hx9 hB9 q6
  have hS0 : ∀ l, Stage (fun w' : World => w'.heap[w.heap.size]? = some (.cells #[.string r.name, .int .u8 r.lab.1, .int .u16 r.lab.2, .int .i64 r.bl, .int .i64 r.no, .int .i64 r.fr, .int .i64 r.pr, .int .i64 r.op, .int .i64 r.cl] 138) ∧ w'.heap[x9]? = some (.cells #[.int .i64 (geosOf rs).2, .int .i64 (n3 : Nat), .int .i64 (n7 : Nat), .int .i64 ((geosOf rs).2 + (n3 : Nat) + (n7 : Nat)), .int .i64 r.bl, .int .i64 r.no] 167)) [(24, (fun w' : World => w'.heap[g]? = some (.cells #[v, .map (some gT), m, .map (some gN), .map (some gL), u, .int .i64 (geosOf rs).2] 155)))] l w13.drew := fun l => Stage.one ⟨hb13, g13⟩ (fun _ => hg13)
  refine wp_region_gen (S := Stage (fun w' : World => w'.heap[w.heap.size]? = some (.cells #[.string r.name, .int .u8 r.lab.1, .int .u16 r.lab.2, .int .i64 r.bl, .int .i64 r.no, .int .i64 r.fr, .int .i64 r.pr, .int .i64 r.op, .int .i64 r.cl] 138) ∧ w'.heap[x9]? = some (.cells #[.int .i64 (geosOf rs).2, .int .i64 (n3 : Nat), .int .i64 (n7 : Nat), .int .i64 ((geosOf rs).2 + (n3 : Nat) + (n7 : Nat)), .int .i64 r.bl, .int .i64 r.no] 167)) [(24, (fun w' : World => w'.heap[g]? = some (.cells #[v, .map (some gT), m, .map (some gN), .map (some gL), u, .int .i64 (geosOf rs).2] 155)))]) (by kernel_rfl) ?_
  change wpAnyG _ _ _ _ _ _ _ _ (World.drew _)
  refine takeG 0 (.pointer (some ⟨g, 0, none⟩)) (some 104) rfl rfl (by kernel_rfl) (by kernel_rfl) (by kernel_rfl) (by kernel_rfl) (fun _ _ _ h => h) (.inl ⟨by kernel_rfl, fun w _ => by go_simp⟩) (hS0 _) ?_
  refine takeG 1 (.pointer (some ⟨g, 0, none⟩)) (some 105) rfl rfl (by kernel_rfl) (by kernel_rfl) (by kernel_rfl) (by kernel_rfl) (fun _ _ _ h => h) (.inl ⟨by kernel_rfl, fun w _ => by go_simp⟩) (hS0 _) ?_
  refine takeG 2 (.pointer (some ⟨g, 0, none⟩)) (some 106) rfl rfl (by kernel_rfl) (by kernel_rfl) (by kernel_rfl) (by kernel_rfl) (fun _ _ _ h => h) (.inl ⟨by kernel_rfl, fun w _ => by go_simp⟩) (hS0 _) ?_
  refine takeG 3 (.pointer (some ⟨g, 0, none⟩)) (some 107) rfl rfl (by kernel_rfl) (by kernel_rfl) (by kernel_rfl) (by kernel_rfl) (fun _ _ _ h => h) (.inl ⟨by kernel_rfl, fun w _ => by go_simp⟩) (hS0 _) ?_
  refine takeG 4 (.pointer (some ⟨g, 0, none⟩)) (some 108) rfl rfl (by kernel_rfl) (by kernel_rfl) (by kernel_rfl) (by kernel_rfl) (fun _ _ _ h => h) (.inl ⟨by kernel_rfl, fun w _ => by go_simp⟩) (hS0 _) ?_
  refine takeG 5 (.pointer (some ⟨g, 0, none⟩)) (some 109) rfl rfl (by kernel_rfl) (by kernel_rfl) (by kernel_rfl) (by kernel_rfl) (fun _ _ _ h => h) (.inl ⟨by kernel_rfl, fun w _ => by go_simp⟩) (hS0 _) ?_
  refine takeUntil 6 24 List.mem_cons_self (by kernel_rfl) (by kernel_rfl) (v) (some 110) rfl rfl (by kernel_rfl) (by kernel_rfl) (by kernel_rfl) (by kernel_rfl) (fun _ _ _ h => h) (.inl ⟨by kernel_rfl, fun w hw => by have hc := (fun w hw => rowcell (And.right hw)) w hw; go_simp⟩) (hS0 _) ?_
  refine takeG 7 (.agg #[.string r.name, .int .u8 r.lab.1, .int .u16 r.lab.2, .int .i64 r.bl, .int .i64 r.no, .int .i64 r.fr, .int .i64 r.pr, .int .i64 r.op, .int .i64 r.cl]) (some 111) rfl rfl (by kernel_rfl) (by kernel_rfl) (by kernel_rfl) (by kernel_rfl) (fun _ _ _ h => h) (.inl ⟨by kernel_rfl, fun w hw => by have hc := (fun w hw => rowcell (And.left hw)) w hw; go_simp⟩) (hS0 _) ?_
  refine takeG 10 (.pointer (some ⟨g, 0, none⟩)) (some 114) rfl rfl (by kernel_rfl) (by kernel_rfl) (by kernel_rfl) (by kernel_rfl) (fun _ _ _ h => h) (.inl ⟨by kernel_rfl, fun w _ => by go_simp⟩) (hS0 _) ?_
  refine takeG 11 (.pointer (some ⟨g, 0, none⟩)) (some 115) rfl rfl (by kernel_rfl) (by kernel_rfl) (by kernel_rfl) (by kernel_rfl) (fun _ _ _ h => h) (.inl ⟨by kernel_rfl, fun w _ => by go_simp⟩) (hS0 _) ?_
  refine takeG 12 (.pointer (some ⟨g, 5, none⟩)) (some 116) rfl rfl (by kernel_rfl) (by kernel_rfl) (by kernel_rfl) (by kernel_rfl) (fun _ _ _ h => h) (.inl ⟨by kernel_rfl, fun w _ => by go_simp⟩) (hS0 _) ?_
  refine takeUntil 13 24 List.mem_cons_self (by kernel_rfl) (by kernel_rfl) (u) (some 117) rfl rfl (by kernel_rfl) (by kernel_rfl) (by kernel_rfl) (by kernel_rfl) (fun _ _ _ h => h) (.inl ⟨by kernel_rfl, fun w hw => by have hc := (fun w hw => rowcell (And.right hw)) w hw; go_simp⟩) (hS0 _) ?_
  refine takeG 14 (.agg #[.int .i64 (geosOf rs).2, .int .i64 (n3 : Nat), .int .i64 (n7 : Nat), .int .i64 ((geosOf rs).2 + (n3 : Nat) + (n7 : Nat)), .int .i64 r.bl, .int .i64 r.no]) (some 118) rfl rfl (by kernel_rfl) (by kernel_rfl) (by kernel_rfl) (by kernel_rfl) (fun _ _ _ h => h) (.inl ⟨by kernel_rfl, fun w hw => by have hc := (fun w hw => rowcell (And.right hw)) w hw; go_simp⟩) (hS0 _) ?_
  refine takeG 17 (.pointer (some ⟨x9, 3, none⟩)) (some 121) rfl rfl (by kernel_rfl) (by kernel_rfl) (by kernel_rfl) (by kernel_rfl) (fun _ _ _ h => h) (.inl ⟨by kernel_rfl, fun w _ => by go_simp⟩) (hS0 _) ?_
  refine takeG 18 (.int .i64 ((geosOf rs).2 + (n3 : Nat) + (n7 : Nat))) (some 122) rfl rfl (by kernel_rfl) (by kernel_rfl) (by kernel_rfl) (by kernel_rfl) (fun _ _ _ h => h) (.inl ⟨by kernel_rfl, fun w hw => by have hc := (fun w hw => rowcell (And.right hw)) w hw; go_simp⟩) (hS0 _) ?_
  refine takeG 19 (.pointer (some ⟨w.heap.size, 3, none⟩)) (some 123) rfl rfl (by kernel_rfl) (by kernel_rfl) (by kernel_rfl) (by kernel_rfl) (fun _ _ _ h => h) (.inl ⟨by kernel_rfl, fun w _ => by go_simp⟩) (hS0 _) ?_
  refine takeG 20 (.int .i64 r.bl) (some 124) rfl rfl (by kernel_rfl) (by kernel_rfl) (by kernel_rfl) (by kernel_rfl) (fun _ _ _ h => h) (.inl ⟨by kernel_rfl, fun w hw => by have hc := (fun w hw => rowcell (And.left hw)) w hw; go_simp⟩) (hS0 _) ?_
  refine takeG 21 (.int .i64 (n9 : Nat)) (some 125) rfl rfl (by kernel_rfl) (by kernel_rfl) (by kernel_rfl) (by kernel_rfl) (fun _ _ _ h => h) (.inl ⟨by kernel_rfl, fun w _ => exec_add rfl (by go_simp) (by go_simp) Y9.out⟩) (hS0 _) ?_
  refine wpAnyG_frame (fun a0 ha0 => ?_)
  have e110 : a0.tmps.getD 110 undef = v := by rw [ha0]; go_simp
  have e111 : a0.tmps.getD 111 undef = .agg #[.string r.name, .int .u8 r.lab.1, .int .u16 r.lab.2, .int .i64 r.bl, .int .i64 r.no, .int .i64 r.fr, .int .i64 r.pr, .int .i64 r.op, .int .i64 r.cl] := by rw [ha0]; go_simp
  have e118 : a0.tmps.getD 118 undef = .agg #[.int .i64 (geosOf rs).2, .int .i64 (n3 : Nat), .int .i64 (n7 : Nat), .int .i64 ((geosOf rs).2 + (n3 : Nat) + (n7 : Nat)), .int .i64 r.bl, .int .i64 r.no] := by rw [ha0]; go_simp
  have esz : a0.tmps.size = 132 := by rw [ha0]; go_simp
  have HA := Lib.hid ha0
  clear ha0
  have hcr := HR13.out
  have k1 := hgT9.out.2.2.2.1
  have k2 := F9.2.2.2.1
  have k5 := hgT9.out.2.2.2.2.2
  have k6 := F9.2.2.2.2.2
  refine mixG0 3 addD _ 33536 addNeed addMasks (by kernel_rfl) (by decide) (by decide) (by decide) (by decide) a0 _ (AddI B w g gT gN gL v m u rs (geosOf rs).1 (nameF (rs ++ [r])) (labF (rs ++ [r])) (markF ms) ms r x9 w13.heap.size (.cells #[v, .map (some gT), m, .map (some gN), .map (some gL), u, .int .i64 (geosOf rs).2] 155) (.cells #[.string r.name, .int .u8 r.lab.1, .int .u16 r.lab.2, .int .i64 r.bl, .int .i64 r.no, .int .i64 r.fr, .int .i64 r.pr, .int .i64 r.op, .int .i64 r.cl] 138) (.cells #[.int .i64 (geosOf rs).2, .int .i64 (n3 : Nat), .int .i64 (n7 : Nat), .int .i64 ((geosOf rs).2 + (n3 : Nat) + (n7 : Nat)), .int .i64 r.bl, .int .i64 r.no] 167)) (fun m vv w' hI => Stage.one ⟨hI.hb, hI.hx⟩ (fun _ => hI.hg)) ?step ?hend _ ?hstart
  case hstart =>
    refine ⟨hb13, g13, hg13, bdrawn P13, Nat.le_refl _, ?_, fun h => ?_, fun h => ?_⟩
    · rw [Nat.zero_testBit]; exact hcr.keep (drewb w13)
    · rw [Nat.zero_testBit] at h; cases h
    · rw [Nat.zero_testBit] at h; cases h
  case step =>
    intro d hd mask vv w' hneed hno hI K hK
    simp only [addD, List.mem_cons, List.not_mem_nil, or_false] at hd
    rcases hd with rfl | rfl | rfl
    · have x111 := (fill_other (m := mask) (v := vv) 111 addD a0 (by decide)).trans e111
      refine loudK 8 rfl (wanted_none rfl) (some 112) rfl (.slice (some ⟨w'.heap.size, 0, none⟩) 1 1) (w'.alloc (.cells #[.string r.name, .int .u8 r.lab.1, .int .u16 r.lab.2, .int .i64 r.bl, .int .i64 r.no, .int .i64 r.fr, .int .i64 r.pr, .int .i64 r.op, .int .i64 r.cl] 138)) ?_ (hK _ _ (hI.alloc8 hB))
      generalize fillF addD mask vv a0 = f at x111 ⊢
      rw [Array.getD_eq_getD_getElem?] at x111
      go_simp
    · have x118 := (fill_other (m := mask) (v := vv) 118 addD a0 (by decide)).trans e118
      refine loudK 15 rfl (wanted_none rfl) (some 119) rfl (.slice (some ⟨w'.heap.size, 0, none⟩) 1 1) (w'.alloc (.cells #[.int .i64 (geosOf rs).2, .int .i64 (n3 : Nat), .int .i64 (n7 : Nat), .int .i64 ((geosOf rs).2 + (n3 : Nat) + (n7 : Nat)), .int .i64 r.bl, .int .i64 r.no] 167)) ?_ (hK _ _ (hI.alloc15 hB))
      generalize fillF addD mask vv a0 = f at x118 ⊢
      rw [Array.getD_eq_getD_getElem?] at x118
      go_simp
    · have x110 := (fill_other (m := mask) (v := vv) 110 addD a0 (by decide)).trans e110
      obtain ⟨g8, s8, _, b8⟩ := hI.l8 (bit_need (i := 8) hneed)
      have x112 := (fill_get (m := mask) (v := vv) addD a0 (by decide) (8, 112) (by simp [addD]) (bit_need (i := 8) hneed) (by rw [esz]; decide)).trans s8
      have hc9 := hI.cr
      rw [hno] at hc9
      simp only [Bool.false_eq_true, if_false] at hc9
      generalize fillF addD mask vv a0 = f at x110 x112 hK ⊢
      refine appendK 9 rfl (wanted_none rfl) (some 113) rfl (.tmp 110) (.tmp 112) 143 rfl B 138 (.agg #[.string ByteArray.empty, .int .u8 0, .int .u16 0, .int .i64 0, .int .i64 0, .int .i64 0, .int .i64 0, .int .i64 0, .int .i64 0]) 9 72 Try.underlying143 (by kernel_rfl) rfl (by decide) v _ rs.length 1 (regCells rs) (regArr r).toList x110 hc9.ov x112 (SR.lit b8 rfl) (List.all_eq_true.1 (by rfl)) (by unfold maxLen; omega) (by omega) (hI.below hB) (fun v' w'' hown hgr hloc => hK _ _ (hI.app9 hB hno k1 k2 hvlt (by omega) hgr ?_))
      rw [regCells_snoc, List.length_append]
      exact hown
  case hend =>
    intro vv w14 hI
    obtain ⟨g15, s15, _, b15⟩ := hI.l15 (by decide)
    obtain ⟨g8, s8, _, b8⟩ := hI.l8 (by decide)
    have hR := hI.cr
    rw [show (33536 : Nat).testBit 9 = true from by decide] at hR
    simp only [if_true] at hR
    obtain ⟨v2, hv2⟩ : ∃ v2, v2 = vv 9 := ⟨_, rfl⟩
    rw [← hv2] at hR
    have hfr : fillF addD 33536 vv a0 = ((a0.put (some 112) (vv 8)).put (some 119) (vv 15)).put (some 113) (vv 9) := rfl
    rw [hfr, s8, s15, ← hv2, HA.out]
    have hb14 := hI.hb
    have hx14 := hI.hx
    have hg14 := hI.hg
    have P14 := hI.p
    have hB14 := hI.below hB
    have hv2c := own_oneCell hR.ov
    have HR14 := Lib.hid hR
    clear hI hR hv2 hfr s8 s15 e110 e111 e118 esz HA hcr HR13 hS0 a0 hg13 hb13 g13 vv
    have hG := geo_snoc rs r n3 n7 n9 Z3.out Z7.out Z9.out
    have hgb : some g ≠ some w.heap.size := fun e => by have := Option.some.inj e; omega
    have hgx : some g ≠ some x9 := fun e => by have := Option.some.inj e; omega
    refine appendG1 16 rfl (by kernel_rfl) (by kernel_rfl) (some 120) rfl (.tmp 117) (.tmp 119) 153 rfl B 167 (.agg #[.int .i64 0, .int .i64 0, .int .i64 0, .int .i64 0, .int .i64 0, .int .i64 0]) 6 48 Try.underlying153 (by kernel_rfl) rfl (by decide) u _ (geosOf rs).1.length 1 (geoCells (geosOf rs).1) (#[.int .i64 (geosOf rs).2, .int .i64 (n3 : Nat), .int .i64 (n7 : Nat), .int .i64 ((geosOf rs).2 + (n3 : Nat) + (n7 : Nat)), .int .i64 r.bl, .int .i64 r.no]).toList (by go_simp) HR14.out.ou (by go_simp) (SR.lit b15 rfl) (List.all_eq_true.1 (by rfl)) (by rw [geosOf_length]; unfold maxLen; omega) (by rw [geosOf_length]; omega) hB14 (fun u2 w15 hown hgr hloc => ?_)
    have o15 := one_of_grown hgr
    have hb15 := o15.blk hb14 (fun e => by have := hult _ e; omega)
    have hx15 := o15.blk hx14 k6
    have hg15 := o15.blk hg14 k5
    have R15 := Lib.hid (HR14.out.setU hgr (gs' := (geosOf rs).1 ++ [geoOf (geosOf rs).2 r]) (by rw [geoCells_snoc, List.length_append, hG.1]; exact hown))
    have hu2c := own_oneCell R15.out.ou
    have P15 := P14.trans (o15.toBelow (fun k hk => (own_blk HR14.out.ou hk).1) hB14)
    clear hown hgr hloc
    have hS15 : ∀ l, Stage (fun w' : World => w'.heap[w.heap.size]? = some (.cells #[.string r.name, .int .u8 r.lab.1, .int .u16 r.lab.2, .int .i64 r.bl, .int .i64 r.no, .int .i64 r.fr, .int .i64 r.pr, .int .i64 r.op, .int .i64 r.cl] 138) ∧ w'.heap[x9]? = some (.cells #[.int .i64 (geosOf rs).2, .int .i64 (n3 : Nat), .int .i64 (n7 : Nat), .int .i64 ((geosOf rs).2 + (n3 : Nat) + (n7 : Nat)), .int .i64 r.bl, .int .i64 r.no] 167)) [(24, (fun w' : World => w'.heap[g]? = some (.cells #[v, .map (some gT), m, .map (some gN), .map (some gL), u, .int .i64 (geosOf rs).2] 155)))] l w15 := fun l => Stage.one ⟨hb15, hx15⟩ (fun _ => hg15)
    refine ⟨hS15 _, ?_⟩
    refine takeG 22 (.pointer (some ⟨g, 0, none⟩)) (some 126) rfl rfl (by kernel_rfl) (by kernel_rfl) (by kernel_rfl) (by kernel_rfl) (fun _ _ _ h => h) (.inl ⟨by kernel_rfl, fun w _ => by go_simp⟩) (hS15 _) ?_
    refine takeG 23 (.pointer (some ⟨g, 0, none⟩)) (some 127) rfl rfl (by kernel_rfl) (by kernel_rfl) (by kernel_rfl) (by kernel_rfl) (fun _ _ _ h => h) (.inl ⟨by kernel_rfl, fun w _ => by go_simp⟩) (hS15 _) ?_
    refine storeCellG 24 rfl (by kernel_rfl) (by kernel_rfl) rfl 143 (.tmp 127) (.tmp 113) rfl 0 (v2) #[v, .map (some gT), m, .map (some gN), .map (some gL), u, .int .i64 (geosOf rs).2] 155 (g := g) (by go_simp) (by go_simp) (by kernel_rfl) (by kernel_rfl) hv2c hg15 (by simp) (fun w16 hq16 o16 => ?_)
    have hg16 : w16.heap[g]? = some (.cells #[v2, .map (some gT), m, .map (some gN), .map (some gL), u, .int .i64 (geosOf rs).2] 155) := hq16
    have hb16 := o16.blk hb15 hgb
    have hx16 := o16.blk hx15 hgx
    have hS16 : ∀ l, l.getD 24 true = true → Stage (fun w' : World => w'.heap[w.heap.size]? = some (.cells #[.string r.name, .int .u8 r.lab.1, .int .u16 r.lab.2, .int .i64 r.bl, .int .i64 r.no, .int .i64 r.fr, .int .i64 r.pr, .int .i64 r.op, .int .i64 r.cl] 138) ∧ w'.heap[x9]? = some (.cells #[.int .i64 (geosOf rs).2, .int .i64 (n3 : Nat), .int .i64 (n7 : Nat), .int .i64 ((geosOf rs).2 + (n3 : Nat) + (n7 : Nat)), .int .i64 r.bl, .int .i64 r.no] 167)) [(24, (fun w' : World => w'.heap[g]? = some (.cells #[v, .map (some gT), m, .map (some gN), .map (some gL), u, .int .i64 (geosOf rs).2] 155)))] l w16 := Stage.late1 ⟨hb16, hx16⟩
    refine ⟨hS16 _ (by kernel_rfl), ?_⟩
    refine takeG 25 (.pointer (some ⟨g, 0, none⟩)) (some 128) rfl rfl (by kernel_rfl) (by kernel_rfl) (by kernel_rfl) (by kernel_rfl) (fun _ _ _ h => h) (.inl ⟨by kernel_rfl, fun w _ => by go_simp⟩) (hS16 _ (by kernel_rfl)) ?_
    refine takeG 26 (.pointer (some ⟨g, 5, none⟩)) (some 129) rfl rfl (by kernel_rfl) (by kernel_rfl) (by kernel_rfl) (by kernel_rfl) (fun _ _ _ h => h) (.inl ⟨by kernel_rfl, fun w _ => by go_simp⟩) (hS16 _ (by kernel_rfl)) ?_
    refine storeCellG 27 rfl (by kernel_rfl) (by kernel_rfl) rfl 153 (.tmp 129) (.tmp 120) rfl 5 (u2) #[v2, .map (some gT), m, .map (some gN), .map (some gL), u, .int .i64 (geosOf rs).2] 155 (g := g) (by go_simp) (by go_simp) (by kernel_rfl) (by kernel_rfl) hu2c hg16 (by simp) (fun w17 hq17 o17 => ?_)
    have hg17 : w17.heap[g]? = some (.cells #[v2, .map (some gT), m, .map (some gN), .map (some gL), u2, .int .i64 (geosOf rs).2] 155) := hq17
    have hb17 := o17.blk hb16 hgb
    have hx17 := o17.blk hx16 hgx
    have hS17 : ∀ l, l.getD 24 true = true → Stage (fun w' : World => w'.heap[w.heap.size]? = some (.cells #[.string r.name, .int .u8 r.lab.1, .int .u16 r.lab.2, .int .i64 r.bl, .int .i64 r.no, .int .i64 r.fr, .int .i64 r.pr, .int .i64 r.op, .int .i64 r.cl] 138) ∧ w'.heap[x9]? = some (.cells #[.int .i64 (geosOf rs).2, .int .i64 (n3 : Nat), .int .i64 (n7 : Nat), .int .i64 ((geosOf rs).2 + (n3 : Nat) + (n7 : Nat)), .int .i64 r.bl, .int .i64 r.no] 167)) [(24, (fun w' : World => w'.heap[g]? = some (.cells #[v, .map (some gT), m, .map (some gN), .map (some gL), u, .int .i64 (geosOf rs).2] 155)))] l w17 := Stage.late1 ⟨hb17, hx17⟩
    refine ⟨hS17 _ (by kernel_rfl), ?_⟩
    refine takeG 28 (.pointer (some ⟨g, 0, none⟩)) (some 130) rfl rfl (by kernel_rfl) (by kernel_rfl) (by kernel_rfl) (by kernel_rfl) (fun _ _ _ h => h) (.inl ⟨by kernel_rfl, fun w _ => by go_simp⟩) (hS17 _ (by kernel_rfl)) ?_
    refine takeG 29 (.pointer (some ⟨g, 6, none⟩)) (some 131) rfl rfl (by kernel_rfl) (by kernel_rfl) (by kernel_rfl) (by kernel_rfl) (fun _ _ _ h => h) (.inl ⟨by kernel_rfl, fun w _ => by go_simp⟩) (hS17 _ (by kernel_rfl)) ?_
    refine storeCellG 30 rfl (by kernel_rfl) (by kernel_rfl) rfl 3 (.tmp 131) (.tmp 125) rfl 6 (.int .i64 (n9 : Nat)) #[v2, .map (some gT), m, .map (some gN), .map (some gL), u2, .int .i64 (geosOf rs).2] 155 (g := g) (by go_simp) (by go_simp) (by kernel_rfl) (by kernel_rfl) rfl hg17 (by simp) (fun w18 hq18 o18 => ?_)
    have hg18 : w18.heap[g]? = some (.cells #[v2, .map (some gT), m, .map (some gN), .map (some gL), u2, .int .i64 (n9 : Nat)] 155) := hq18
    have hb18 := o18.blk hb17 hgb
    have hx18 := o18.blk hx17 hgx
    have hS18 : ∀ l, l.getD 24 true = true → Stage (fun w' : World => w'.heap[w.heap.size]? = some (.cells #[.string r.name, .int .u8 r.lab.1, .int .u16 r.lab.2, .int .i64 r.bl, .int .i64 r.no, .int .i64 r.fr, .int .i64 r.pr, .int .i64 r.op, .int .i64 r.cl] 138) ∧ w'.heap[x9]? = some (.cells #[.int .i64 (geosOf rs).2, .int .i64 (n3 : Nat), .int .i64 (n7 : Nat), .int .i64 ((geosOf rs).2 + (n3 : Nat) + (n7 : Nat)), .int .i64 r.bl, .int .i64 r.no] 167)) [(24, (fun w' : World => w'.heap[g]? = some (.cells #[v, .map (some gT), m, .map (some gN), .map (some gL), u, .int .i64 (geosOf rs).2] 155)))] l w18 := Stage.late1 ⟨hb18, hx18⟩
    refine ⟨hS18 _ (by kernel_rfl), ?_⟩
    refine wpAnyG_done (by kernel_rfl) ?_ _
    go_simp
    go_wp2_with fail
    go_ret
    have d1 := R15.out.off hg15 (by decide) (by decide) (by decide)
    have P18 := ((P15.trans (o16.toBelow (fun k hk => by cases hk; exact hb0) (Nat.le_trans hB P15.size))).trans (o17.toBelow (fun k hk => by cases hk; exact hb0) (Nat.le_trans hB (Nat.le_trans P15.size o16.size)))).trans (o18.toBelow (fun k hk => by cases hk; exact hb0) (Nat.le_trans hB (Nat.le_trans P15.size (Nat.le_trans o16.size o17.size))))
    refine ⟨rfl, P18, v2, u2, ?_, hb0, ?_⟩
    · rw [hG.2]; exact hg18
    · rw [geosOf_snoc]
      exact ((R15.out.one o16 d1).one o17 d1).one o18 d1
end Go.Proofs.Ytapcbfeifeobhaa
