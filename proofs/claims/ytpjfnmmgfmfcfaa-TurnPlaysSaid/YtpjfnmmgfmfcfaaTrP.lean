/- TurnPlays: the plain law: what the program's table and the document's have in common. -/
import Derived.Test.YtpjfnmmgfmfcfaaTskK
import Derived.Test.YtpjfnmmgfmfcfaaTra
set_option linter.unusedVariables false
set_option linter.unusedSimpArgs false
namespace Go.Proofs.Ytpjfnmmgfmfcfaa
open Go.RowKit
open Go.Maps (Keyed)

def qE (t : TE) : QL := ⟨t.pr.lab, t.pr.num, t.pr.st, t.pr.cau, t.pr.til⟩
def UQ (L : List QL) : Prop := L.Pairwise fun a b => ¬ (a.lab = b.lab ∧ a.num = b.num)
structure Flg (p : PrL) : Prop where
  par : p.par = 0
  mem : p.mem = none
  nmd : p.nmd = false
  n0 : p.n0 = 0
  n1 : p.n1 = 0
  n2 : p.n2 = 0
  kil : p.kil = false
  cau : p.cau ≤ 2
  st : p.st = 1 ∨ p.st = 2
def isB (l n : Nat) (q : QL) : Bool := decide (q.lab = l) && decide (q.num = n)
theorem isB_iff {l n : Nat} {q : QL} : isB l n q = true ↔ isQ l n q := by simp [isB, isQ]
def updQ (l n : Nat) (f : QL → QL) (q : QL) : QL := if isB l n q then f q else q
theorem UQ.set (f : QL → QL) : ∀ {L : List QL}, UQ L → ∀ (k : Nat) (hk : k < L.length), L.set k (f L[k]) = L.map (updQ L[k].lab L[k].num f)
  | a :: L, h, 0, _ => by
    rw [UQ, List.pairwise_cons] at h
    simp only [List.set_cons_zero, List.getElem_cons_zero, List.map_cons]
    rw [show updQ a.lab a.num f a = f a from if_pos (by simp [isB])]
    congr 1
    symm
    rw [List.map_congr_left (g := id) (fun q hq => ?_), List.map_id]
    exact if_neg (by rw [isB_iff]; exact fun e => h.1 q hq ⟨e.1.symm, e.2.symm⟩)
  | a :: L, h, k + 1, hk => by
    rw [UQ, List.pairwise_cons] at h
    have hk' : k < L.length := by simpa using hk
    simp only [List.set_cons_succ, List.getElem_cons_succ, List.map_cons]
    rw [UQ.set f h.2 k hk']
    congr 1
    exact (if_neg (by rw [isB_iff]; exact fun e => h.1 _ (List.getElem_mem hk') e)).symm
theorem UQ.cut : ∀ {L : List QL}, UQ L → ∀ (k : Nat) (hk : k < L.length), L.take k ++ L.drop (k + 1) = L.filter fun q => !isB L[k].lab L[k].num q
  | a :: L, h, 0, _ => by
    rw [UQ, List.pairwise_cons] at h
    simp only [List.take_zero, List.nil_append, List.drop_succ_cons, List.drop_zero, List.getElem_cons_zero]
    rw [List.filter_cons_of_neg (by simp [isB])]
    symm
    rw [List.filter_eq_self]
    intro q hq
    have : isB a.lab a.num q = false := by
      rw [Bool.eq_false_iff]
      exact fun e => h.1 q hq ⟨(isB_iff.1 e).1.symm, (isB_iff.1 e).2.symm⟩
    simp [this]
  | a :: L, h, k + 1, hk => by
    rw [UQ, List.pairwise_cons] at h
    have hk' : k < L.length := by simpa using hk
    simp only [List.take_succ_cons, List.drop_succ_cons, List.getElem_cons_succ, List.cons_append]
    have : isB L[k].lab L[k].num a = false := by
      rw [Bool.eq_false_iff]
      exact fun e => h.1 _ (List.getElem_mem hk') (isB_iff.1 e)
    rw [UQ.cut h.2 k hk', List.filter_cons_of_pos (by simp [this])]
theorem updQ_no (l n : Nat) (f : QL → QL) (L : List QL) (h : ∀ q ∈ L, ¬ isQ l n q) : L.map (updQ l n f) = L := by
  rw [List.map_congr_left (g := id) (fun q hq => ?_), List.map_id]
  exact if_neg (by rw [isB_iff]; exact h q hq)
theorem cut_no (l n : Nat) (L : List QL) (h : ∀ q ∈ L, ¬ isQ l n q) : (L.filter fun q => !isB l n q) = L := by
  rw [List.filter_eq_self]
  intro q hq
  have : isB l n q = false := by
    rw [Bool.eq_false_iff]
    exact fun e => h q hq (isB_iff.1 e)
  simp [this]
/-- The two tables say the same. -/
structure Mt (n : Nat) (T : Nat → List TE) (L : List QL) : Prop where
  perm : ∀ l, (L.filter fun q => decide (q.lab = l)).Perm ((T l).map qE)
  lab : ∀ q ∈ L, q.lab < n
  fl : ∀ l, ∀ t ∈ T l, Flg t.pr
section
variable {n B : Nat} {T : Nat → List TE} {L : List QL}
theorem Mt.there (h : Mt n T L) {q : QL} (hq : q ∈ L) : ∃ t ∈ T q.lab, qE t = q := by
  have : q ∈ (L.filter fun x => decide (x.lab = q.lab)) := List.mem_filter.2 ⟨hq, by simp⟩
  exact List.mem_map.1 ((h.perm q.lab).mem_iff.1 this)
theorem Mt.here (h : Mt n T L) {l : Nat} {t : TE} (ht : t ∈ T l) : qE t ∈ L ∧ (qE t).lab = l := by
  have := (h.perm l).mem_iff.2 (List.mem_map_of_mem ht)
  rw [List.mem_filter] at this
  exact ⟨this.1, of_decide_eq_true this.2⟩
theorem Mt.cnt (h : Mt n T L) (l : Nat) : cntQ L l = (T l).length := by
  unfold cntQ
  rw [List.countP_eq_length_filter, (h.perm l).length_eq, List.length_map]
theorem Mt.uq (h : Mt n T L) (ok : TOk B T) : UQ L := by
  have key : ∀ l, L.Pairwise fun a b => a.lab = l → b.lab = l → a.num ≠ b.num := fun l => by
    have h1 : ((T l).map qE).Pairwise fun a b => a.num ≠ b.num := by
      rw [List.pairwise_map]
      exact (ok.asc l).imp (fun {a b} hab => Nat.ne_of_lt hab)
    have h2 : (L.filter fun q => decide (q.lab = l)).Pairwise fun a b => a.num ≠ b.num := ((h.perm l).pairwise_iff (fun {a b} hab => fun e => hab e.symm)).2 h1
    rw [List.pairwise_filter] at h2
    exact h2.imp (fun {a b} hab h1 h2 => hab (by simpa using h1) (by simpa using h2))
  rw [UQ, List.pairwise_iff_getElem]
  intro i j hi hj hij e
  exact (List.pairwise_iff_getElem.1 (key L[i].lab)) i j hi hj hij rfl e.1.symm e.2
theorem Mt.nil (n : Nat) : Mt n (fun _ => []) [] := ⟨fun l => .refl _, fun q hq => absurd hq List.not_mem_nil, fun l t ht => absurd ht List.not_mem_nil⟩
theorem perm_insE (t : TE) : ∀ L : List TE, (insE L t).Perm (t :: L)
  | [] => by unfold insE; exact .refl _
  | x :: L => by
    unfold insE
    split
    · exact .refl _
    · exact ((perm_insE t L).cons x).trans (.swap t x L)
theorem newP_flg (l n cl : Nat) : Flg (newP l n 0 cl) := ⟨rfl, rfl, rfl, rfl, rfl, rfl, rfl, Nat.zero_le _, .inl rfl⟩
theorem Mt.add (h : Mt n T L) {l : Nat} (hl : l < n) (m x cl : Nat) : Mt n (setT T l (insE (T l) ⟨x, newP l m 0 cl⟩)) (L ++ [newQ l m]) := by
  refine ⟨fun j => ?_, fun q hq => ?_, fun j t ht => ?_⟩
  · rw [List.filter_append]
    by_cases e : j = l
    · subst e
      rw [setT_same, List.filter_cons_of_pos (by simp [newQ]), List.filter_nil]
      have h1 : ((T j).map qE).cons (newQ j m) = (⟨x, newP j m 0 cl⟩ :: T j).map qE := rfl
      have h2 := ((perm_insE ⟨x, newP j m 0 cl⟩ (T j)).map qE).symm
      rw [← h1] at h2
      exact (List.perm_append_singleton _ _).trans (((h.perm j).cons (newQ j m)).trans h2)
    · have e' : ¬ l = j := fun h => e h.symm
      rw [setT_other _ _ e, List.filter_cons_of_neg (by simp [newQ, e']), List.filter_nil, List.append_nil]
      exact h.perm j
  · rcases List.mem_append.1 hq with hq | hq
    · exact h.lab q hq
    · rw [List.mem_singleton.1 hq]; exact hl
  · rcases mem_setT ht with ⟨rfl, ht⟩ | ⟨_, ht⟩
    · rcases mem_insE.1 ht with rfl | ht
      · exact newP_flg _ _ _
      · exact h.fl _ t ht
    · exact h.fl _ t ht
theorem Mt.drop (h : Mt n T L) (l m : Nat) : Mt n (setT T l (dropE (T l) m)) (L.filter fun q => !isB l m q) := by
  refine ⟨fun j => ?_, fun q hq => h.lab q (List.mem_filter.1 hq).1, fun j t ht => ?_⟩
  · rw [List.filter_filter]
    by_cases e : j = l
    · subst e
      rw [setT_same]
      have h1 : (L.filter fun q => decide (q.lab = j) && !isB j m q) = (L.filter fun q => decide (q.lab = j)).filter fun q => !decide (q.num = m) := by
        rw [List.filter_filter]
        apply List.filter_congr
        intro q _
        unfold isB
        by_cases h1 : q.lab = j <;> by_cases h2 : q.num = m <;> simp [h1, h2]
      rw [h1]
      have h2 := (h.perm j).filter fun q => !decide (q.num = m)
      rw [List.filter_map] at h2
      exact h2
    · rw [setT_other _ _ e]
      have h1 : (L.filter fun q => decide (q.lab = j) && !isB l m q) = L.filter fun q => decide (q.lab = j) := by
        apply List.filter_congr
        intro q _
        unfold isB
        by_cases h1 : q.lab = j
        · have : ¬ q.lab = l := fun h => e (h1.symm.trans h)
          simp [h1, e]
        · simp [h1]
      rw [h1]
      exact h.perm j
  · rcases mem_setT ht with ⟨rfl, ht⟩ | ⟨_, ht⟩
    · exact h.fl _ t (mem_dropE.1 ht).1
    · exact h.fl _ t ht
theorem Mt.map (h : Mt n T L) (f : TE → TE) (F : QL → QL) (hF : ∀ q, (F q).lab = q.lab) {T' : Nat → List TE} (hT : ∀ l, ((T' l).map qE).Perm ((T l).map fun t => F (qE t))) (hf : ∀ l, ∀ t ∈ T' l, Flg t.pr) : Mt n T' (L.map F) := by
  refine ⟨fun j => ?_, fun q hq => ?_, hf⟩
  · rw [List.filter_map]
    have h1 : ((fun q : QL => decide (q.lab = j)) ∘ F) = fun q => decide (q.lab = j) := funext fun q => by simp [hF]
    rw [h1]
    refine ((h.perm j).map F).trans ?_
    rw [List.map_map]
    exact (hT j).symm
  · obtain ⟨x, hx, rfl⟩ := List.mem_map.1 hq
    rw [hF]
    exact h.lab x hx
def rs2 : RsL := ⟨2, false, 0, 0, 0⟩
def sleepQ (u : Nat) (q : QL) : QL := if q.st = 1 then { q with st := 2, cau := 2, til := u } else q
theorem Mt.sleep (h : Mt n T L) (ok : TOk B T) (l m u : Nat) : Mt n (setT T l ((T l).map (updE (fun p => decide (p.st = 1)) (sleepP rs2 u) m))) (L.map (updQ l m (sleepQ u))) := by
  refine h.map id (updQ l m (sleepQ u)) (fun q => ?_) (fun j => ?_) (fun j t ht => ?_)
  · unfold updQ sleepQ
    split
    · split <;> rfl
    · rfl
  · by_cases e : j = l
    · subst e
      rw [setT_same, List.map_map]
      refine List.Perm.of_eq (List.map_congr_left fun t ht => ?_)
      have hl := ok.lab j t ht
      show qE (updE _ _ m t) = _
      unfold updE updQ sleepQ isB qE
      simp only [hl]
      by_cases h1 : t.pr.num = m <;> by_cases h2 : t.pr.st = 1 <;> simp [h1, h2, hl, sleepP, rs2]
    · rw [setT_other _ _ e]
      refine List.Perm.of_eq (List.map_congr_left fun t ht => ?_)
      have hl := ok.lab j t ht
      exact (if_neg (by rw [isB_iff]; exact fun h => e (by rw [← hl]; exact h.1))).symm
  · rcases mem_setT ht with ⟨rfl, ht⟩ | ⟨_, ht⟩
    · obtain ⟨x, hx, rfl⟩ := List.mem_map.1 ht
      have hf := h.fl _ x hx
      unfold updE
      split
      · exact ⟨hf.par, hf.mem, rfl, rfl, rfl, rfl, hf.kil, Nat.le_refl 2, .inr rfl⟩
      · exact hf
    · exact h.fl _ t ht
def dueQ (now : Nat) (q : QL) : Bool := decide (q.st = 2) && decide (q.cau = 2) && decide (q.til ≤ now)
def tickQ (now : Nat) (q : QL) : QL := if dueQ now q then wakeQ q else q
theorem Mt.tick (h : Mt n T L) (ok : TOk B T) (hfar : ∀ l, n ≤ l → T l = []) (now : Nat) : Mt n (wakeT (tickB now) T n) (L.map (tickQ now)) := by
  refine h.map id (tickQ now) (fun q => ?_) (fun j => ?_) (fun j t ht => ?_)
  · unfold tickQ
    split <;> rfl
  · unfold wakeT
    by_cases e : j < n
    · rw [if_pos e, List.map_map]
      refine List.Perm.of_eq (List.map_congr_left fun t ht => ?_)
      show qE (wakeE _ t) = _
      unfold wakeE tickQ
      rw [show dueQ now (qE t) = tickB now t.pr from rfl]
      by_cases h : tickB now t.pr = true
      · rw [if_pos h, if_pos h]; rfl
      · rw [if_neg h, if_neg h]
    · rw [if_neg e, hfar j (by omega)]
      exact .refl _
  · unfold wakeT at ht
    split at ht
    · obtain ⟨x, hx, rfl⟩ := List.mem_map.1 ht
      have hf := h.fl _ x hx
      unfold wakeE
      split
      · exact ⟨hf.par, hf.mem, rfl, rfl, rfl, rfl, hf.kil, Nat.zero_le _, .inl rfl⟩
      · exact hf
    · exact h.fl _ t ht
theorem Mt.far (h : Mt n T L) (l : Nat) (hl : n ≤ l) : T l = [] := by
  cases e : T l with
  | nil => rfl
  | cons t M =>
    have ht : t ∈ T l := by rw [e]; exact List.mem_cons_self
    have := h.here ht
    have h2 := h.lab _ this.1
    rw [this.2] at h2
    omega
theorem Mt.count (h : Mt n T L) (p : QL → Bool) (b : PrL → Bool) (hpb : ∀ t, p (qE t) = b t.pr) : L.countP p = cntT b T n := by
  have key : ∀ m, (L.countP fun q => p q && decide (q.lab < m)) = cntT b T m := fun m => by
    induction m with
    | zero => simp [cntT]
    | succ m ih =>
      unfold cntT
      rw [← ih]
      have h1 : cntB b (T m) = (L.countP fun q => p q && decide (q.lab = m)) := by
        rw [← List.countP_filter, (h.perm m).countP_eq, List.countP_map]
        unfold cntB
        rw [List.countP_eq_length_filter]
        congr 1
        exact List.filter_congr fun t _ => (hpb t).symm
      rw [h1]
      clear ih h1 h
      induction L with
      | nil => rfl
      | cons q L ih =>
        simp only [List.countP_cons]
        rw [ih]
        by_cases hp : p q = true
        · rcases Nat.lt_trichotomy q.lab m with h | h | h
          · have h1 : q.lab < m + 1 := by omega
            have h2 : ¬ q.lab = m := by omega
            simp [hp, h, h1, h2]; omega
          · subst h
            simp [hp]; omega
          · have h1 : ¬ q.lab < m + 1 := by omega
            have h2 : ¬ q.lab = m := by omega
            have h3 : ¬ q.lab < m := by omega
            simp [hp, h1, h2, h3]
        · simp [hp]
  rw [← key n]
  apply List.countP_congr
  intro q hq
  simp [h.lab q hq]
theorem Mt.total (h : Mt n T L) : L.length = cntT (fun _ => true) T n := by
  rw [← h.count (fun _ => true) (fun _ => true) (fun _ => rfl)]
  simp
/-- The least number of such a one; nought: there is none. -/
def MinP (P : QL → Prop) (L : List QL) (x : Nat) : Prop := (x = 0 ∧ ∀ q ∈ L, ¬ P q) ∨ (∃ q ∈ L, P q ∧ q.num = x ∧ ∀ q' ∈ L, P q' → x ≤ q'.num)
def rdyQ (l : Nat) (q : QL) : Prop := q.lab = l ∧ q.st = 1
def nxtQ (l k : Nat) (q : QL) : Prop := q.lab = l ∧ q.st = 1 ∧ k < q.num
theorem find_least (p : TE → Bool) : ∀ {M : List TE}, (M.Pairwise fun a b => a.pr.num < b.pr.num) → ∀ {t : TE}, M.find? p = some t → t ∈ M ∧ p t = true ∧ ∀ s ∈ M, p s = true → t.pr.num ≤ s.pr.num
  | x :: M, h, t, e => by
    rw [List.pairwise_cons] at h
    by_cases hx : p x = true
    · rw [List.find?_cons_of_pos hx] at e
      injection e with e
      subst e
      refine ⟨List.mem_cons_self, hx, fun s hs _ => ?_⟩
      rcases List.mem_cons.1 hs with rfl | hs
      · exact Nat.le_refl _
      · exact Nat.le_of_lt (h.1 s hs)
    · rw [List.find?_cons_of_neg hx] at e
      obtain ⟨h1, h2, h3⟩ := find_least p h.2 e
      refine ⟨List.mem_cons_of_mem _ h1, h2, fun s hs hp => ?_⟩
      rcases List.mem_cons.1 hs with rfl | hs
      · exact absurd hp hx
      · exact h3 s hs hp
theorem Mt.min (h : Mt n T L) (ok : TOk B T) (l : Nat) (p : TE → Bool) (P : QL → Prop) (hP : ∀ t, t ∈ T l → (P (qE t) ↔ p t = true)) (hl : ∀ q, P q → q.lab = l) {x : Nat} (hx : MinP P L x) : x = (((T l).find? p).map fun t => t.pr.num).getD 0 := by
  cases e : (T l).find? p with
  | none =>
    rw [List.find?_eq_none] at e
    rcases hx with ⟨rfl, _⟩ | ⟨q, hq, h1, rfl, h2⟩
    · rfl
    · obtain ⟨t, ht, rfl⟩ := h.there hq
      rw [hl _ h1] at ht
      exact absurd ((hP t ht).1 h1) (e t ht)
  | some t =>
    obtain ⟨h1, h2, h3⟩ := find_least p (ok.asc l) e
    rcases hx with ⟨rfl, h4⟩ | ⟨q, hq, h4, rfl, h5⟩
    · exact absurd ((hP t h1).2 h2) (h4 _ (h.here h1).1)
    · obtain ⟨s, hs, rfl⟩ := h.there hq
      rw [hl _ h4] at hs
      have a := h3 s hs ((hP s hs).1 h4)
      have b := h5 _ (h.here h1).1 ((hP t h1).2 h2)
      show s.pr.num = t.pr.num
      have b' : s.pr.num ≤ t.pr.num := b
      omega
theorem Mt.pick (h : Mt n T L) (ok : TOk B T) (l k : Nat) {x y : Nat} (hx : MinP (rdyQ l) L x) (hy : MinP (nxtQ l k) L y) : (if 0 < y then y else x) = ((pickL (T l) k).map fun t => t.pr.num).getD 0 := by
  have h1 := h.min ok l readyE (rdyQ l) (fun t ht => by
    have := ok.lab l t ht
    simp [rdyQ, readyE, qE, this]) (fun q hq => hq.1) hx
  have h2 := h.min ok l (nextE k) (nxtQ l k) (fun t ht => by
    have := ok.lab l t ht
    simp [nxtQ, nextE, qE, this]) (fun q hq => hq.1) hy
  unfold pickL
  cases e : (T l).find? (nextE k) with
  | none =>
    rw [e] at h2
    have : y = 0 := h2
    rw [if_neg (by omega)]
    exact h1
  | some t =>
    rw [e] at h2
    have h3 : y = t.pr.num := h2
    have h4 := (ok.num l t (List.mem_of_find?_eq_some e)).1
    rw [if_pos (by omega), h3]
    rfl
end
end Go.Proofs.Ytpjfnmmgfmfcfaa
