/- TurnFair: the plain law; what the walk holds. -/
import Derived.Test.YtpjfnmmgfmfcfaaTskJ
import Derived.Test.YtpjfnmmgfmfcfaaTskG
set_option linter.unusedVariables false
set_option linter.unusedSimpArgs false
namespace Go.Proofs.Ytpjfnmmgfmfcfaa
open Go.RowKit
open Go.Maps (Keyed)

/-- An act's cells. -/
theorem act25 {w : World} {m : Nat} {cs : List Value} (h : Okay Try.prog w m 82 cs) :
    ∃ (kd lab num to_ : Nat) (n : Int) (raw : Bool), cs = [.int .u8 kd, .int .u8 lab, .int .u8 num, .int .u8 to_, .int .i32 n, .bool raw] ∧ kd ≤ 255 ∧ lab ≤ 255 ∧ num ≤ 255 ∧ to_ ≤ 255 ∧ -2147483648 ≤ n ∧ n ≤ 2147483647 := by
  have hf := Okay.fits 3 _ _ cs [⟨0, .u8, 0⟩, ⟨0, .u8, 0⟩, ⟨0, .u8, 0⟩, ⟨0, .u8, 0⟩, ⟨0, .i32, 0⟩, ⟨1, .i64, 0⟩] h (by kernel_rfl)
  rcases cs with _ | ⟨c0, _ | ⟨c1, _ | ⟨c2, _ | ⟨c3, _ | ⟨c4, _ | ⟨c5, _ | ⟨c6, cs⟩⟩⟩⟩⟩⟩⟩
  any_goals (exfalso; simp [FitsAll] at hf; done)
  obtain ⟨⟨x0, rfl, h0⟩, ⟨x1, rfl, h1⟩, ⟨x2, rfl, h2⟩, ⟨x3, rfl, h3⟩, ⟨x4, rfl, h4⟩, ⟨b, rfl⟩, _⟩ := hf
  have k0 := wf_u8 h0
  have k1 := wf_u8 h1
  have k2 := wf_u8 h2
  have k3 := wf_u8 h3
  simp [Lit.wf, IntKind.min, IntKind.max, IntKind.bits, IntKind.signed] at h4
  refine ⟨x0.toNat, x1.toNat, x2.toNat, x3.toNat, x4, b, ?_, by omega, by omega, by omega, by omega, by omega, by omega⟩
  rw [show ((x0.toNat : Nat) : Int) = x0 by omega, show ((x1.toNat : Nat) : Int) = x1 by omega, show ((x2.toNat : Nat) : Int) = x2 by omega, show ((x3.toNat : Nat) : Int) = x3 by omega]

/-- The first number that is free. -/
theorem free_asc : ∀ (L : List TE) (b : Nat), (L.Pairwise fun a b => a.pr.num < b.pr.num) → (∀ t ∈ L, b < t.pr.num) → ∃ n, b < n ∧ n ≤ b + L.length + 1 ∧ (∀ t ∈ L, t.pr.num ≠ n) ∧ ∀ m, b < m → m < n → ∃ t ∈ L, t.pr.num = m
  | [], b, _, _ => ⟨b + 1, by omega, by simp, fun t ht => absurd ht List.not_mem_nil, fun m h1 h2 => by omega⟩
  | x :: L, b, hp, hb => by
    rw [List.pairwise_cons] at hp
    have h0 := hb x List.mem_cons_self
    by_cases e : x.pr.num = b + 1
    · obtain ⟨n, h1, h2, h3, h4⟩ := free_asc L (b + 1) hp.2 (fun t ht => by have := hp.1 t ht; omega)
      refine ⟨n, by omega, by simp only [List.length_cons]; omega, fun t ht => ?_, fun m h5 h6 => ?_⟩
      · rcases List.mem_cons.1 ht with rfl | ht
        · omega
        · exact h3 t ht
      · by_cases e2 : m = b + 1
        · exact ⟨x, List.mem_cons_self, by omega⟩
        · obtain ⟨t, ht, h7⟩ := h4 m (by omega) h6
          exact ⟨t, List.mem_cons_of_mem _ ht, h7⟩
    · refine ⟨b + 1, by omega, by simp, fun t ht => ?_, fun m h5 h6 => by omega⟩
      rcases List.mem_cons.1 ht with rfl | ht
      · exact e
      · have := hp.1 t ht; omega
/-- How many steps from a number to another one, round about. -/
def distN (pr n l : Nat) : Nat := if n ≤ l then l - n else l + pr - n
def rdy (L : List TE) (n : Nat) : Prop := ∃ t ∈ L, t.pr.num = n ∧ t.pr.st = 1
structure FairI (pr : Nat) (L : List TE) (l : Nat) (D : Nat → Option Nat) : Prop where
  num : ∀ t ∈ L, 1 ≤ t.pr.num ∧ t.pr.num ≤ pr
  asc : L.Pairwise fun a b => a.pr.num < b.pr.num
  flat : ∀ t ∈ L, t.pr.par = 0 ∧ t.pr.mem = none ∧ (t.pr.st = 1 ∨ t.pr.st = 2) ∧ (prR t.pr).ok
  len : L.length ≤ pr
  last : l ≤ pr
  yes : ∀ n, rdy L n → (D n).getD 0 ≤ distN pr n l
  no : ∀ n, ¬ rdy L n → (D n).getD 0 = 0

section
variable {pr l : Nat} {L : List TE} {D : Nat → Option Nat}
theorem FairI.start (pr : Nat) : FairI pr [] 0 (fun _ => none) where
  num := fun t ht => absurd ht List.not_mem_nil
  asc := List.Pairwise.nil
  flat := fun t ht => absurd ht List.not_mem_nil
  len := Nat.zero_le _
  last := Nat.zero_le _
  yes := fun n ⟨t, ht, _⟩ => absurd ht List.not_mem_nil
  no := fun _ _ => rfl
theorem FairI.add (h : FairI pr L l D) (hl : L.length < pr) {t : TE} (h1 : 1 ≤ t.pr.num) (h2 : t.pr.num ≤ pr) (hf : ∀ x ∈ L, x.pr.num ≠ t.pr.num) (hfl : t.pr.par = 0 ∧ t.pr.mem = none ∧ (t.pr.st = 1 ∨ t.pr.st = 2) ∧ (prR t.pr).ok) : FairI pr (insE L t) l D where
  num := fun x hx => by
    rcases mem_insE.1 hx with rfl | hx
    · exact ⟨h1, h2⟩
    · exact h.num x hx
  asc := asc_insE L t h.asc hf
  flat := fun x hx => by
    rcases mem_insE.1 hx with rfl | hx
    · exact hfl
    · exact h.flat x hx
  len := by rw [len_insE]; omega
  last := h.last
  yes := fun n ⟨x, hx, e1, e2⟩ => by
    rcases mem_insE.1 hx with rfl | hx
    · have : ¬ rdy L n := fun ⟨y, hy, e3, _⟩ => hf y hy (by rw [e3, e1])
      rw [h.no n this]
      exact Nat.zero_le _
    · exact h.yes n ⟨x, hx, e1, e2⟩
  no := fun n hn => h.no n (fun ⟨x, hx, e⟩ => hn ⟨x, mem_insE.2 (.inr hx), e⟩)
/-- A number's count begins anew. -/
theorem FairI.del (h : FairI pr L l D) (n : Nat) : FairI pr L l (delF D n) where
  num := h.num
  asc := h.asc
  flat := h.flat
  len := h.len
  last := h.last
  yes := fun m hm => by
    unfold delF
    split
    · exact Nat.zero_le _
    · exact h.yes m hm
  no := fun m hm => by
    unfold delF
    split
    · rfl
    · exact h.no m hm
theorem FairI.drop (h : FairI pr L l D) (n : Nat) : FairI pr (dropE L n) l (delF D n) where
  num := fun x hx => h.num x (mem_dropE.1 hx).1
  asc := asc_dropE n h.asc
  flat := fun x hx => h.flat x (mem_dropE.1 hx).1
  len := Nat.le_trans (List.length_filter_le _ _) h.len
  last := h.last
  yes := fun m ⟨x, hx, e⟩ => by
    unfold delF
    split
    · exact Nat.zero_le _
    · exact h.yes m ⟨x, (mem_dropE.1 hx).1, e⟩
  no := fun m hm => by
    unfold delF
    split
    · rfl
    · rename_i hmn
      exact h.no m (fun ⟨x, hx, e1, e2⟩ => hm ⟨x, mem_dropE.2 ⟨hx, by omega⟩, e1, e2⟩)
theorem FairI.keys {L' : List TE} (h : FairI pr L l D) (hk : L'.map keyE = L.map keyE) (hf : ∀ t ∈ L', t.pr.par = 0 ∧ t.pr.mem = none ∧ (t.pr.st = 1 ∨ t.pr.st = 2) ∧ (prR t.pr).ok) {D' : Nat → Option Nat}
    (hy : ∀ n, rdy L' n → (D' n).getD 0 ≤ distN pr n l) (hn : ∀ n, ¬ rdy L' n → (D' n).getD 0 = 0) : FairI pr L' l D' where
  num := fun t ht => by
    obtain ⟨t', h1, h2, _⟩ := keys_mem hk ht
    have := h.num t' h1
    omega
  asc := keys_asc hk h.asc
  flat := hf
  len := by have := congrArg List.length hk; simp at this; rw [this]; exact h.len
  last := h.last
  yes := hy
  no := hn
theorem updE_key (b : PrL → Bool) (f : PrL → PrL) (hf : ∀ p, (f p).num = p.num) (n : Nat) (t : TE) : keyE (updE b f n t) = keyE t := by
  unfold updE
  split
  · simp [keyE, hf]
  · rfl
theorem map_keys (f : TE → TE) (hf : ∀ t, keyE (f t) = keyE t) (L : List TE) : (L.map f).map keyE = L.map keyE := by
  rw [List.map_map]
  exact List.map_congr_left fun t _ => hf t
theorem FairI.sleep (h : FairI pr L l D) (n u : Nat) (r : RsL) (hr : r.ok) : FairI pr (L.map (updE (fun p => decide (p.st = 1)) (sleepP r u) n)) l (delF D n) := by
  have hk := map_keys (updE (fun p => decide (p.st = 1)) (sleepP r u) n) (updE_key _ (sleepP r u) (fun _ => rfl) n) L
  refine h.keys hk (fun t ht => ?_) (fun m ⟨t, ht, e1, e2⟩ => ?_) (fun m hm => ?_)
  · obtain ⟨x, hx, rfl⟩ := List.mem_map.1 ht
    have hx' := h.flat x hx
    unfold updE
    split
    · exact ⟨hx'.1, hx'.2.1, .inr rfl, hr⟩
    · exact hx'
  · obtain ⟨x, hx, rfl⟩ := List.mem_map.1 ht
    unfold delF
    split
    · exact Nat.zero_le _
    · rename_i hmn
      unfold updE at e1 e2
      split at e1
      · rename_i hc
        exact absurd (show m = n from by rw [← e1]; exact hc.1) hmn
      · rename_i hc
        rw [if_neg hc] at e2
        exact h.yes m ⟨x, hx, e1, e2⟩
  · unfold delF
    split
    · rfl
    · rename_i hmn
      refine h.no m (fun ⟨x, hx, e1, e2⟩ => hm ⟨updE (fun p => decide (p.st = 1)) (sleepP r u) n x, List.mem_map_of_mem hx, ?_⟩)
      have : ¬ (x.pr.num = n ∧ (fun p : PrL => decide (p.st = 1)) x.pr = true) := fun hc => hmn (by rw [← e1]; exact hc.1)
      unfold updE
      rw [if_neg this]
      exact ⟨e1, e2⟩
theorem FairI.wake (h : FairI pr L l D) (b : PrL → Bool) : FairI pr (L.map (wakeE b)) l D := by
  have hk := map_keys (wakeE b) (wakeE_key b) L
  refine h.keys hk (fun t ht => ?_) (fun m ⟨t, ht, e1, e2⟩ => ?_) (fun m hm => ?_)
  · obtain ⟨x, hx, rfl⟩ := List.mem_map.1 ht
    have hx' := h.flat x hx
    unfold wakeE
    split
    · exact ⟨hx'.1, hx'.2.1, .inl rfl, ⟨Nat.zero_le _, Nat.zero_le _, Nat.zero_le _, Nat.zero_le _⟩⟩
    · exact hx'
  · obtain ⟨x, hx, rfl⟩ := List.mem_map.1 ht
    have e3 : x.pr.num = m := by
      have := congrArg Prod.fst (wakeE_key b x)
      simp only [keyE] at this
      rw [← this, e1]
    by_cases hc : rdy L m
    · exact h.yes m hc
    · rw [h.no m hc]; exact Nat.zero_le _
  · refine h.no m (fun ⟨x, hx, e1, e2⟩ => hm ⟨wakeE b x, List.mem_map_of_mem hx, ?_⟩)
    unfold wakeE
    split
    · exact ⟨e1, rfl⟩
    · exact ⟨e1, e2⟩
/-- What is picked lies ahead of each other one that is ready. -/
theorem pick_ahead (hp : L.Pairwise fun a b => a.pr.num < b.pr.num) (hn : ∀ t ∈ L, 1 ≤ t.pr.num ∧ t.pr.num ≤ pr) (hl : l ≤ pr) {p q : TE} (h : pickL L l = some p) (hq : q ∈ L) (h1 : q.pr.st = 1) (h2 : q.pr.num ≠ p.pr.num) :
    distN pr q.pr.num l + 1 ≤ distN pr q.pr.num p.pr.num ∧ distN pr q.pr.num p.pr.num + 1 ≤ pr := by
  have hmin : ∀ (f : TE → Bool) (x : TE), L.find? f = some x → ∀ y ∈ L, f y = true → x.pr.num ≤ y.pr.num := by
    intro f x hx y hy hfy
    obtain ⟨_, xs, ys, e, hno⟩ := List.find?_eq_some_iff_append.1 hx
    rw [e] at hy hp
    rw [List.pairwise_append] at hp
    rcases List.mem_append.1 hy with h3 | h3
    · have := hno y h3
      simp [hfy] at this
    · rcases List.mem_cons.1 h3 with rfl | h3
      · exact Nat.le_refl _
      · have := (List.pairwise_cons.1 hp.2.1).1 y h3; omega
  have hqn := hn q hq
  unfold pickL at h
  cases hc : L.find? (nextE l) with
  | some x =>
    rw [hc] at h
    injection h with h
    subst h
    have hx := List.find?_some hc
    have hxm := List.mem_of_find?_eq_some hc
    have hxn := hn x hxm
    unfold nextE at hx
    simp only [Bool.and_eq_true, decide_eq_true_eq] at hx
    by_cases hql : l < q.pr.num
    · have := hmin _ _ hc q hq (by unfold nextE; rw [decide_eq_true h1, decide_eq_true hql]; rfl)
      unfold distN
      rw [if_neg (by omega), if_neg (by omega)]
      omega
    · unfold distN
      rw [if_pos (by omega), if_pos (by omega)]
      omega
  | none =>
    rw [hc] at h
    simp only at h
    have hpm := List.mem_of_find?_eq_some h
    have hpn := hn p hpm
    have hql : ¬ l < q.pr.num := fun hlt => by
      have := List.find?_eq_none.1 hc q hq
      unfold nextE at this
      rw [decide_eq_true h1, decide_eq_true hlt] at this
      simp at this
    have := hmin _ _ h q hq (decide_eq_true h1)
    unfold distN
    rw [if_pos (by omega), if_neg (by omega)]
    omega
theorem pick_none (h : pickL L l = none) : ∀ t ∈ L, t.pr.st ≠ 1 := fun t ht e => by
  unfold pickL at h
  cases hc : L.find? (nextE l) with
  | some x => rw [hc] at h; cases h
  | none =>
    rw [hc] at h
    simp only at h
    have := List.find?_eq_none.1 h t ht
    unfold readyE at this
    rw [decide_eq_true e] at this
    simp at this
theorem pick_mem {p : TE} (h : pickL L l = some p) : p ∈ L ∧ p.pr.st = 1 := by
  unfold pickL at h
  cases hc : L.find? (nextE l) with
  | some x =>
    rw [hc] at h
    injection h with h
    subst h
    have := List.find?_some hc
    unfold nextE at this
    simp only [Bool.and_eq_true, decide_eq_true_eq] at this
    exact ⟨List.mem_of_find?_eq_some hc, this.1⟩
  | none =>
    rw [hc] at h
    simp only at h
    have := List.find?_some h
    unfold readyE at this
    exact ⟨List.mem_of_find?_eq_some h, by simpa using this⟩
/-- What the counts are behind so many of a list. -/
def cntI (D Dj : Nat → Option Nat) (L : List TE) (pn : Nat) (j : Nat) : Prop :=
  (∀ t ∈ L.take j, t.pr.st = 1 → t.pr.num ≠ pn → (Dj t.pr.num).getD 0 = (D t.pr.num).getD 0 + 1) ∧ ∀ n, (∀ t ∈ L.take j, t.pr.num = n → t.pr.st = 1 → t.pr.num = pn) → (Dj n).getD 0 = (D n).getD 0
theorem cntI.start (D : Nat → Option Nat) (L : List TE) (pn : Nat) : cntI D D L pn 0 := ⟨fun t ht => absurd ht List.not_mem_nil, fun _ _ => rfl⟩
theorem take_mem {L : List TE} {j : Nat} (hj : j < L.length) {x : TE} (hx : x ∈ L.take (j + 1)) : x ∈ L.take j ∨ x = L[j] := by
  rw [List.take_succ_eq_append_getElem hj, List.mem_append, List.mem_singleton] at hx
  exact hx
theorem cntI.skip {Dj : Nat → Option Nat} {pn j : Nat} (h : cntI D Dj L pn j) (hj : j < L.length) (hs : L[j].pr.st = 1 → L[j].pr.num = pn) : cntI D Dj L pn (j + 1) := by
  refine ⟨fun t ht h1 h2 => ?_, fun n hn => h.2 n (fun t ht => hn t (by rw [List.take_succ_eq_append_getElem hj]; exact List.mem_append_left _ ht))⟩
  rcases take_mem hj ht with h3 | rfl
  · exact h.1 t h3 h1 h2
  · exact absurd (hs h1) h2
theorem cntI.put {Dj : Nat → Option Nat} {pn j : Nat} (h : cntI D Dj L pn j) (ha : L.Pairwise fun a b => a.pr.num < b.pr.num) (hj : j < L.length) (h1 : L[j].pr.st = 1) (h2 : L[j].pr.num ≠ pn) :
    (Dj L[j].pr.num).getD 0 = (D L[j].pr.num).getD 0 ∧ cntI D (putF Dj L[j].pr.num ((Dj L[j].pr.num).getD 0 + 1)) L pn (j + 1) := by
  have hlt : ∀ t ∈ L.take j, t.pr.num < L[j].pr.num := fun t ht => by
    have h3 : (L.take j ++ L.drop j).Pairwise fun a b => a.pr.num < b.pr.num := by rw [List.take_append_drop]; exact ha
    rw [List.pairwise_append] at h3
    exact h3.2.2 t ht L[j] (by rw [List.drop_eq_getElem_cons hj]; exact List.mem_cons_self)
  have h0 := h.2 L[j].pr.num (fun t ht e _ => by have := hlt t ht; omega)
  refine ⟨h0, fun t ht e1 e2 => ?_, fun n hn => ?_⟩
  · rcases take_mem hj ht with h3 | rfl
    · have := hlt t h3
      unfold putF
      rw [if_neg (by omega)]
      exact h.1 t h3 e1 e2
    · unfold putF
      rw [if_pos rfl, Option.getD_some, h0]
  · have hne : n ≠ L[j].pr.num := fun e => h2 (hn L[j] (by rw [List.take_succ_eq_append_getElem hj]; exact List.mem_append_right _ List.mem_cons_self) e.symm h1)
    unfold putF
    rw [if_neg hne]
    exact h.2 n (fun t ht => hn t (by rw [List.take_succ_eq_append_getElem hj]; exact List.mem_append_left _ ht))
theorem FairI.pick (h : FairI pr L l D) {p : TE} (hp : pickL L l = some p) {D' : Nat → Option Nat} (hd : cntI D D' L p.pr.num L.length) : FairI pr L p.pr.num (delF D' p.pr.num) where
  num := h.num
  asc := h.asc
  flat := h.flat
  len := h.len
  last := (h.num p (pick_mem hp).1).2
  yes := fun n ⟨t, ht, e1, e2⟩ => by
    unfold delF
    split
    · exact Nat.zero_le _
    · rename_i hne
      subst e1
      have h1 := hd.1 t (by rw [List.take_length]; exact ht) e2 hne
      have h2 := h.yes t.pr.num ⟨t, ht, rfl, e2⟩
      have h3 := (pick_ahead h.asc h.num h.last hp ht e2 hne).1
      omega
  no := fun n hn => by
    unfold delF
    split
    · rfl
    · have h1 := hd.2 n (fun t ht e1 e2 => absurd ⟨t, by rw [List.take_length] at ht; exact ht, e1, e2⟩ hn)
      rw [h1]
      exact h.no n hn
end
end Go.Proofs.Ytpjfnmmgfmfcfaa
