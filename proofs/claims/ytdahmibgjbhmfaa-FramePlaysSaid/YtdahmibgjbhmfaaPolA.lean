/- The document's answer for pages: rows of taken marks, rows of pages: what holds of it; what turns. -/
import Derived.Test.YtdahmibgjbhmfaaFrmE
set_option linter.unusedVariables false
set_option linter.unusedSimpArgs false
namespace Go.Proofs.Ytdahmibgjbhmfaa
open Go.RowKit
open Go.Maps (Keyed)

/-- Where the document's pool lies: its block, the slices' rows, each label's rows. -/
structure PoolY where
  gq : Nat
  R : Value
  m : Nat
  fr : Nat → Nat
  base : Nat
  gt : Nat
  ct : Nat
  gb : Nat
  cb : Nat
  tb : Nat → Nat
  bb : Nat → Nat
def poolF (Y : PoolY) : Nat → Value
  | 0 => Y.R
  | 1 => .slice (some ⟨Y.gt, 0, none⟩) Y.m Y.ct
  | _ => .slice (some ⟨Y.gb, 0, none⟩) Y.m Y.cb
def rowS (g n : Nat) : Value := .slice (some ⟨g, 0, none⟩) n n
def pageS : Option Nat → Value
  | none => .slice none 0 0
  | some b => .slice (some ⟨b, 0, none⟩) 64 64
def byteF (f : Nat → Nat) (j : Nat) : Value := .int .u8 (f j)
structure RP (w : World) (Y : PoolY) (pv : Nat → Nat → Option Nat) (T : Nat → Nat → Bool) (B : Nat → Nat → Nat → Nat) : Prop where
  row : w.rowIs Y.gq 52 3 (poolF Y)
  tt : ∃ cur, w.heap[Y.gt]? = some (.cells cur 48 (0, 0)) ∧ ∀ k, k < Y.m → cur[k]? = some (rowS (Y.tb k) (Y.fr k))
  bt : ∃ cur, w.heap[Y.gb]? = some (.cells cur 54 (0, 0)) ∧ ∀ k, k < Y.m → cur[k]? = some (rowS (Y.bb k) (Y.fr k))
  rowT : ∀ k, k < Y.m → w.rowIs (Y.tb k) 4 (Y.fr k) (fun n => .bool (T k n))
  rowB : ∀ k, k < Y.m → w.rowIs (Y.bb k) 24 (Y.fr k) (fun n => pageS (pv k n))
  pg : ∀ k n, k < Y.m → n < Y.fr k → T k n = true → ∃ b, pv k n = some b ∧ w.rowIs b 5 64 (byteF (B k n))
  injT : ∀ k l, k < Y.m → l < Y.m → Y.tb k = Y.tb l → k = l
  injB : ∀ k l, k < Y.m → l < Y.m → Y.bb k = Y.bb l → k = l
  injP : ∀ k n l i b, k < Y.m → n < Y.fr k → l < Y.m → i < Y.fr l → pv k n = some b → pv l i = some b → k = l ∧ n = i
  pgl : ∀ k n b, k < Y.m → n < Y.fr k → pv k n = some b → b < w.heap.size
  ge0 : Y.base ≤ Y.gq ∧ Y.base ≤ Y.gt ∧ Y.base ≤ Y.gb
  geT : ∀ k, k < Y.m → Y.base ≤ Y.tb k ∧ Y.base ≤ Y.bb k
  geP : ∀ k n b, k < Y.m → n < Y.fr k → pv k n = some b → Y.base ≤ b
  bd : ∀ k n j, B k n j ≤ 255
  m0 : 0 < Y.m
  m64 : Y.m ≤ 64
  caps : Y.m ≤ Y.ct ∧ Y.ct ≤ maxLen ∧ Y.m ≤ Y.cb ∧ Y.cb ≤ maxLen
  frs : ∀ k, k < Y.m → Y.fr k ≤ 1000

def polT (t : TypeId) : Prop := t = 52 ∨ t = 48 ∨ t = 54 ∨ t = 4 ∨ t = 24 ∨ t = 5
def set2 {α : Type} (T : Nat → Nat → α) (k n : Nat) (x : α) : Nat → Nat → α := fun l i => if l = k ∧ i = n then x else T l i
theorem set2_same {α : Type} (T : Nat → Nat → α) (k n : Nat) (x : α) : set2 T k n x k n = x := if_pos ⟨rfl, rfl⟩
theorem set2_other {α : Type} (T : Nat → Nat → α) {k n l i : Nat} (x : α) (h : ¬ (l = k ∧ i = n)) : set2 T k n x l i = T l i := if_neg h
section
variable {w w' : World} {Y : PoolY} {pv : Nat → Nat → Option Nat} {T : Nat → Nat → Bool} {B : Nat → Nat → Nat → Nat}
theorem RP.keepAt (h : RP w Y pv T B) (hs : w.heap.size ≤ w'.heap.size) (hk : ∀ (x : Nat) (cur : Array Value) (t : TypeId), w.heap[x]? = some (.cells cur t (0, 0)) → polT t → w'.heap[x]? = w.heap[x]?) : RP w' Y pv T B := by
  have hr : ∀ {g : Nat} {t : TypeId} {n : Nat} {f : Nat → Value}, w.rowIs g t n f → polT t → w'.rowIs g t n f := fun {g t n f} hr ht => hr.of_block (by
    obtain ⟨c, hc, _⟩ := hr
    exact hk g c t hc ht)
  refine { h with row := hr h.row (.inl rfl), tt := ?_, bt := ?_, rowT := ?_, rowB := ?_, pg := ?_, pgl := ?_ }
  · obtain ⟨c, hc, h2⟩ := h.tt
    exact ⟨c, by rw [hk _ _ _ hc (.inr (.inl rfl))]; exact hc, h2⟩
  · obtain ⟨c, hc, h2⟩ := h.bt
    exact ⟨c, by rw [hk _ _ _ hc (.inr (.inr (.inl rfl)))]; exact hc, h2⟩
  · exact fun k hk => hr (h.rowT k hk) (.inr (.inr (.inr (.inl rfl))))
  · exact fun k hk => hr (h.rowB k hk) (.inr (.inr (.inr (.inr (.inl rfl)))))
  · intro k n h1 h2 h3
    obtain ⟨b, hb, h4⟩ := h.pg k n h1 h2 h3
    exact ⟨b, hb, hr h4 (.inr (.inr (.inr (.inr (.inr rfl)))))⟩
  · exact fun k n b h1 h2 h3 => Nat.lt_of_lt_of_le (h.pgl k n b h1 h2 h3) hs
theorem RP.keep (h : RP w Y pv T B) (hb : Below w.heap.size w w') : RP w' Y pv T B :=
  h.keepAt hb.size fun x cur t hx _ => hb.block x (rowlt hx)
theorem RP.ct_cell (h : RP w Y pv T B) {k : Nat} (hk : k < Y.m) : w.cell? ⟨Y.gt, k, none⟩ = some (rowS (Y.tb k) (Y.fr k)) := by
  obtain ⟨c, hc, h2⟩ := h.tt
  rw [rowcell hc, h2 k hk]
theorem RP.cb_cell (h : RP w Y pv T B) {k : Nat} (hk : k < Y.m) : w.cell? ⟨Y.gb, k, none⟩ = some (rowS (Y.bb k) (Y.fr k)) := by
  obtain ⟨c, hc, h2⟩ := h.bt
  rw [rowcell hc, h2 k hk]
theorem RP.t_cell (h : RP w Y pv T B) {k n : Nat} (hk : k < Y.m) (hn : n < Y.fr k) : w.cell? ⟨Y.tb k, n, none⟩ = some (.bool (T k n)) := (h.rowT k hk).cell hn
theorem RP.b_cell (h : RP w Y pv T B) {k n : Nat} (hk : k < Y.m) (hn : n < Y.fr k) : w.cell? ⟨Y.bb k, n, none⟩ = some (pageS (pv k n)) := (h.rowB k hk).cell hn
theorem RP.c1 (h : RP w Y pv T B) : w.cell? ⟨Y.gq, 1, none⟩ = some (.slice (some ⟨Y.gt, 0, none⟩) Y.m Y.ct) := h.row.cell (i := 1) (by omega)
theorem RP.c2 (h : RP w Y pv T B) : w.cell? ⟨Y.gq, 2, none⟩ = some (.slice (some ⟨Y.gb, 0, none⟩) Y.m Y.cb) := h.row.cell (i := 2) (by omega)

/-- Rows of unlike types lie in unlike blocks. -/
theorem row_ne {x y : Nat} {c d : Array Value} {t u : TypeId} (hx : w.heap[x]? = some (.cells c t (0, 0))) (hy : w.heap[y]? = some (.cells d u (0, 0))) (h : t ≠ u) : x ≠ y := fun e => by
  subst e
  rw [hx] at hy
  injection hy with hy
  injection hy with _ h2 _
  exact h h2
theorem rowIs_blk {g n : Nat} {t : TypeId} {f : Nat → Value} (h : w.rowIs g t n f) : ∃ c, w.heap[g]? = some (.cells c t (0, 0)) := by
  obtain ⟨c, hc, _⟩ := h
  exact ⟨c, hc⟩
theorem row_one {g x n m : Nat} {t u : TypeId} {f e : Nat → Value} (h : w.rowIs g t n f) (o : One w w' (some x)) (hx : w.rowIs x u m e) (hne : t ≠ u) : w'.rowIs g t n f := by
  obtain ⟨c, hc⟩ := rowIs_blk h
  obtain ⟨d, hd⟩ := rowIs_blk hx
  exact h.of_block (o.block g h.lt (fun e2 => row_ne hc hd hne (by cases e2; rfl)))
theorem row_oneN {g x n : Nat} {t : TypeId} {f : Nat → Value} (h : w.rowIs g t n f) (o : One w w' (some x)) (hne : g ≠ x) : w'.rowIs g t n f :=
  h.of_block (o.block g h.lt (fun e2 => hne (by cases e2; rfl)))
theorem blk_one {g x m : Nat} {t u : TypeId} {c : Array Value} {e : Nat → Value} (h : w.heap[g]? = some (.cells c t (0, 0))) (o : One w w' (some x)) (hx : w.rowIs x u m e) (hne : t ≠ u) : w'.heap[g]? = some (.cells c t (0, 0)) := by
  obtain ⟨d, hd⟩ := rowIs_blk hx
  rw [o.block g (rowlt h) (fun e2 => row_ne h hd hne (by cases e2; rfl))]
  exact h

/-- A mark turns: to false (any page), or to true where a page lies. -/
theorem RP.mark (h : RP w Y pv T B) {k n : Nat} (hk : k < Y.m) (hn : n < Y.fr k) (b : Bool) (o : One w w' (some (Y.tb k))) (hr : w'.rowIs (Y.tb k) 4 (Y.fr k) (fun i => if i = n then .bool b else .bool (T k i)))
    (hp : b = true → ∃ x, pv k n = some x ∧ w.rowIs x 5 64 (byteF (B k n))) : RP w' Y pv (set2 T k n b) B := by
  have hx := h.rowT k hk
  refine { h with row := row_one h.row o hx (by decide), tt := ?_, bt := ?_, rowT := ?_, rowB := fun l hl => row_one (h.rowB l hl) o hx (by decide), pg := ?_, pgl := fun l i c h1 h2 h3 => Nat.lt_of_lt_of_le (h.pgl l i c h1 h2 h3) o.size }
  · obtain ⟨c, hc, h2⟩ := h.tt
    exact ⟨c, blk_one hc o hx (by decide), h2⟩
  · obtain ⟨c, hc, h2⟩ := h.bt
    exact ⟨c, blk_one hc o hx (by decide), h2⟩
  · intro l hl
    by_cases e : l = k
    · subst e
      refine hr.congr (fun i hi => ?_)
      by_cases e2 : i = n
      · subst e2; rw [if_pos rfl, set2_same]
      · rw [if_neg e2, set2_other _ _ (fun e3 => e2 e3.2)]
    · refine (row_oneN (h.rowT l hl) o (fun e2 => e (h.injT l k hl hk e2))).congr (fun i hi => ?_)
      rw [set2_other _ _ (fun e3 => e e3.1)]
  · intro l i h1 h2 h3
    by_cases e : l = k ∧ i = n
    · obtain ⟨rfl, rfl⟩ := e
      rw [set2_same] at h3
      obtain ⟨x, hx1, hx2⟩ := hp h3
      exact ⟨x, hx1, row_one hx2 o hx (by decide)⟩
    · rw [set2_other _ _ e] at h3
      obtain ⟨x, hx1, hx2⟩ := h.pg l i h1 h2 h3
      exact ⟨x, hx1, row_one hx2 o hx (by decide)⟩
/-- A page turns. -/
theorem RP.page (h : RP w Y pv T B) {k n b : Nat} (hk : k < Y.m) (hn : n < Y.fr k) (hp : pv k n = some b) (f : Nat → Nat) (hf : ∀ j, f j ≤ 255) {f0 : Nat → Value} (hx : w.rowIs b 5 64 f0) (o : One w w' (some b)) (hr : w'.rowIs b 5 64 (byteF f)) : RP w' Y pv T (set2 B k n f) := by
  refine { h with row := row_one h.row o hx (by decide), tt := ?_, bt := ?_, rowT := fun l hl => row_one (h.rowT l hl) o hx (by decide), rowB := fun l hl => row_one (h.rowB l hl) o hx (by decide), pg := ?_, pgl := fun l i c h1 h2 h3 => Nat.lt_of_lt_of_le (h.pgl l i c h1 h2 h3) o.size, bd := ?_ }
  · obtain ⟨c, hc, h2⟩ := h.tt
    exact ⟨c, blk_one hc o hx (by decide), h2⟩
  · obtain ⟨c, hc, h2⟩ := h.bt
    exact ⟨c, blk_one hc o hx (by decide), h2⟩
  · intro l i h1 h2 h3
    obtain ⟨x, hx1, hx2⟩ := h.pg l i h1 h2 h3
    by_cases e : l = k ∧ i = n
    · obtain ⟨rfl, rfl⟩ := e
      rw [hp] at hx1
      cases hx1
      exact ⟨b, hp, by rw [set2_same]; exact hr⟩
    · refine ⟨x, hx1, ?_⟩
      rw [set2_other _ _ e]
      exact row_oneN hx2 o (fun e2 => by subst e2; exact e (h.injP l i k n x h1 h2 hk hn hx1 hp))
  · intro l i j
    by_cases e : l = k ∧ i = n
    · obtain ⟨rfl, rfl⟩ := e
      rw [set2_same]; exact hf j
    · rw [set2_other _ _ e]; exact h.bd l i j
theorem row_ne' {g x n m : Nat} {t u : TypeId} {f e : Nat → Value} (h : w.rowIs g t n f) (hx : w.rowIs x u m e) (hne : t ≠ u) : g ≠ x := by
  obtain ⟨c, hc⟩ := rowIs_blk h
  obtain ⟨d, hd⟩ := rowIs_blk hx
  exact row_ne hc hd hne
theorem row_duo {g x y n : Nat} {t : TypeId} {f : Nat → Value} (h : w.rowIs g t n f) (d : Duo w w' x y) (h1 : g ≠ x) (h2 : g ≠ y) : w'.rowIs g t n f := h.of_block (d.block g h.lt h1 h2)
/-- A page is taken: its mark, a new page, laid into its place. -/
theorem RP.take (h : RP w Y pv T B) {k n b : Nat} (hk : k < Y.m) (hn : n < Y.fr k) (hT : T k n = false) (hb : w.heap.size ≤ b) (hbase : Y.base ≤ w.heap.size) (d : Duo w w' (Y.tb k) (Y.bb k))
    (hrT : w'.rowIs (Y.tb k) 4 (Y.fr k) (fun i => if i = n then .bool true else .bool (T k i))) (hrB : w'.rowIs (Y.bb k) 24 (Y.fr k) (fun i => if i = n then pageS (some b) else pageS (pv k i)))
    (hp : w'.rowIs b 5 64 (byteF fun _ => 0)) : RP w' Y (set2 pv k n (some b)) (set2 T k n true) (set2 B k n fun _ => 0) := by
  have hx := h.rowT k hk
  have hy := h.rowB k hk
  have hcases : ∀ l i, l = k ∧ i = n ∨ ¬ (l = k ∧ i = n) := fun l i => by by_cases e : l = k ∧ i = n; exact .inl e; exact .inr e
  refine { h with row := row_duo h.row d (row_ne' h.row hx (by decide)) (row_ne' h.row hy (by decide)), tt := ?_, bt := ?_, rowT := ?_, rowB := ?_, pg := ?_, injP := ?_, pgl := ?_, geP := ?_, bd := ?_ }
  · obtain ⟨c, hc, h2⟩ := h.tt
    obtain ⟨d1, hd1⟩ := rowIs_blk hx
    obtain ⟨d2, hd2⟩ := rowIs_blk hy
    exact ⟨c, d.blk hc (row_ne hc hd1 (by decide)) (row_ne hc hd2 (by decide)), h2⟩
  · obtain ⟨c, hc, h2⟩ := h.bt
    obtain ⟨d1, hd1⟩ := rowIs_blk hx
    obtain ⟨d2, hd2⟩ := rowIs_blk hy
    exact ⟨c, d.blk hc (row_ne hc hd1 (by decide)) (row_ne hc hd2 (by decide)), h2⟩
  · intro l hl
    by_cases e : l = k
    · subst e
      refine hrT.congr (fun i hi => ?_)
      by_cases e2 : i = n
      · subst e2; rw [if_pos rfl, set2_same]
      · rw [if_neg e2, set2_other _ _ (fun e3 => e2 e3.2)]
    · refine (row_duo (h.rowT l hl) d (fun e2 => e (h.injT l k hl hk e2)) (row_ne' (h.rowT l hl) hy (by decide))).congr (fun i hi => ?_)
      rw [set2_other _ _ (fun e3 => e e3.1)]
  · intro l hl
    by_cases e : l = k
    · subst e
      refine hrB.congr (fun i hi => ?_)
      by_cases e2 : i = n
      · subst e2; rw [if_pos rfl, set2_same]
      · rw [if_neg e2, set2_other _ _ (fun e3 => e2 e3.2)]
    · refine (row_duo (h.rowB l hl) d (row_ne' (h.rowB l hl) hx (by decide)) (fun e2 => e (h.injB l k hl hk e2))).congr (fun i hi => ?_)
      rw [set2_other _ _ (fun e3 => e e3.1)]
  · intro l i h1 h2 h3
    rcases hcases l i with e | e
    · obtain ⟨rfl, rfl⟩ := e
      exact ⟨b, set2_same _ _ _ _, by rw [set2_same]; exact hp⟩
    · rw [set2_other _ _ e] at h3
      obtain ⟨x, hx1, hx2⟩ := h.pg l i h1 h2 h3
      rw [set2_other _ _ e, set2_other _ _ e]
      exact ⟨x, hx1, row_duo hx2 d (row_ne' hx2 hx (by decide)) (row_ne' hx2 hy (by decide))⟩
  · intro l i l' i' c h1 h2 h3 h4 h5 h6
    rcases hcases l i with e | e
    · rcases hcases l' i' with e' | e'
      · exact ⟨e.1.trans e'.1.symm, e.2.trans e'.2.symm⟩
      · rw [set2_other _ _ e'] at h6
        obtain ⟨rfl, rfl⟩ := e
        rw [set2_same] at h5
        cases h5
        have := h.pgl _ _ _ h3 h4 h6
        omega
    · rw [set2_other _ _ e] at h5
      rcases hcases l' i' with e' | e'
      · obtain ⟨rfl, rfl⟩ := e'
        rw [set2_same] at h6
        cases h6
        have := h.pgl _ _ _ h1 h2 h5
        omega
      · rw [set2_other _ _ e'] at h6
        exact h.injP _ _ _ _ _ h1 h2 h3 h4 h5 h6
  · intro l i c h1 h2 h3
    rcases hcases l i with e | e
    · obtain ⟨rfl, rfl⟩ := e
      rw [set2_same] at h3
      cases h3
      exact hp.lt
    · rw [set2_other _ _ e] at h3
      exact Nat.lt_of_lt_of_le (h.pgl l i c h1 h2 h3) d.size
  · intro l i c h1 h2 h3
    rcases hcases l i with e | e
    · obtain ⟨rfl, rfl⟩ := e
      rw [set2_same] at h3
      cases h3
      omega
    · rw [set2_other _ _ e] at h3
      exact h.geP l i c h1 h2 h3
  · intro l i j
    rcases hcases l i with e | e
    · obtain ⟨rfl, rfl⟩ := e
      rw [set2_same]; exact Nat.zero_le _
    · rw [set2_other _ _ e]; exact h.bd l i j
end

/-- How many of the first so many are taken. -/
def cntT (t : Nat → Bool) : Nat → Nat
  | 0 => 0
  | n + 1 => cntT t n + if t n then 1 else 0
theorem cntT_le (t : Nat → Bool) : ∀ n, cntT t n ≤ n
  | 0 => Nat.le_refl _
  | n + 1 => by have := cntT_le t n; unfold cntT; split <;> omega
end Go.Proofs.Ytdahmibgjbhmfaa
