/- What the functions answer, part 2. -/
import Derived.Test.YtgekbancaeabgaaP1
set_option linter.unusedVariables false
set_option linter.unusedSimpArgs false
set_option linter.defProp false
set_option maxRecDepth 100000
/- What the functions answer, part 2. -/
namespace Go.Proofs.Ytgekbancaeabgaa.AM
open Go Go.Proofs.Ytgekbancaeabgaa Go.Proofs
/-- One in front is put into its place. -/
theorem merge_front {D : Int → Int} {l l' : List Int} {a i b : Nat} (hs : SortS D l (a + 1) b) (hx : Ahd l a (a + 1) b) (hi : a + 1 ≤ i) (hib : i ≤ b)
    (h1 : ∀ x, a + 1 ≤ x → x < i → D (gx l x) < D (gx l a)) (h2 : ∀ x, i ≤ x → x < b → ¬ D (gx l x) < D (gx l a)) (hu : Up1 l l' a (i - 1)) : SortS D l' a b := by
  intro p q hp hpq hq
  rw [hu p, hu q]
  by_cases c1 : q < i - 1
  · rw [if_pos (by omega), if_pos (by omega)]; exact hs _ _ (by omega) (by omega) (by omega)
  · rw [if_neg (c := a ≤ q ∧ q < i - 1) (by omega)]
    by_cases c2 : q = i - 1
    · rw [if_pos c2, if_pos (by omega)]
      exact .inl (h1 _ (by omega) (by omega))
    · rw [if_neg c2]
      by_cases c3 : p < i - 1
      · rw [if_pos (by omega)]; exact hs _ _ (by omega) (by omega) hq
      · rw [if_neg (by omega)]
        by_cases c4 : p = i - 1
        · rw [if_pos c4]
          have e1 := h2 q (by omega) hq
          have e2 := hx a q (Nat.le_refl _) (by omega) (by omega) hq
          unfold slt; omega
        · rw [if_neg c4]; exact hs _ _ (by omega) hpq hq
/-- One at the end is put into its place. -/
theorem merge_back {D : Int → Int} {l l' : List Int} {a i m : Nat} (hs : SortS D l a m) (hx : Ahd l a m (m + 1)) (hi : a ≤ i) (him : i ≤ m)
    (h1 : ∀ x, a ≤ x → x < i → ¬ D (gx l m) < D (gx l x)) (h2 : ∀ x, i ≤ x → x < m → D (gx l m) < D (gx l x)) (hu : Dn1 l l' i m) : SortS D l' a (m + 1) := by
  intro p q hp hpq hq
  rw [hu p, hu q]
  by_cases c1 : i < p
  · rw [if_pos (by omega), if_pos (by omega)]; exact hs _ _ (by omega) (by omega) (by omega)
  · rw [if_neg (c := i < p ∧ p ≤ m) (by omega)]
    by_cases c2 : p = i
    · rw [if_pos c2, if_pos (by omega)]
      exact .inl (h2 _ (by omega) (by omega))
    · rw [if_neg c2]
      by_cases c3 : i < q
      · rw [if_pos (by omega)]; exact hs _ _ hp (by omega) (by omega)
      · rw [if_neg (by omega)]
        by_cases c4 : q = i
        · rw [if_pos c4]
          have e1 := h1 p hp (by omega)
          have e2 := hx p m hp (by omega) (Nat.le_refl _) (by omega)
          unfold slt; omega
        · rw [if_neg c4]; exact hs _ _ hp hpq (by omega)
theorem slt_le {D : Int → Int} {x y : Int} (h : slt D x y) : D x ≤ D y := by unfold slt at h; omega
theorem SortS.le {D : Int → Int} {l : List Int} {a b : Nat} (h : SortS D l a b) {i j : Nat} (h1 : a ≤ i) (h2 : i ≤ j) (h3 : j < b) : D (gx l i) ≤ D (gx l j) := by
  rcases Nat.lt_or_ge i j with h4 | h4
  · exact slt_le (h i j h1 h4 h3)
  · have : i = j := by omega
    subst this; exact Int.le_refl _
/-- After a turn about the middle all on the left stand ahead of all on the right. -/
theorem halves_cross {D : Int → Int} {l t : List Int} {a st m en mid b : Nat} (h1 : SortS D l a m) (h2 : SortS D l m b) (hx : Ahd l a m b) (hr : Rot l t st m en) (ha : a ≤ st) (hsm : st ≤ m) (hme : m ≤ en) (heb : en ≤ b) (hmid : mid + m = st + en)
    (p1 : a < st → en < b → ¬ D (gx l en) < D (gx l (st - 1))) (p2 : st < m → m < en → D (gx l (en - 1)) < D (gx l st)) (p q : Nat) (hp : a ≤ p) (hp2 : p < mid) (hq : mid ≤ q) (hq2 : q < b) : slt D (gx t p) (gx t q) := by
  rw [hr p, hr q, if_neg (c := st ≤ q ∧ q < st + (en - m)) (by omega)]
  by_cases c1 : p < st
  · rw [if_neg (by omega), if_neg (by omega)]
    by_cases c2 : q < en
    · rw [if_pos (by omega)]; exact h1 _ _ hp (by omega) (by omega)
    · rw [if_neg (by omega)]
      have e1 := p1 (by omega) (by omega)
      have e2 := hx (st - 1) en (by omega) (by omega) hme (by omega)
      have e3 : slt D (gx l (st - 1)) (gx l en) := by unfold slt; omega
      have e4 : slt D (gx l p) (gx l en) := by
        rcases Nat.lt_or_ge p (st - 1) with h | h
        · exact slt_trans (h1 p (st - 1) hp h (by omega)) e3
        · have : p = st - 1 := by omega
          subst this; exact e3
      rcases Nat.lt_or_ge en q with h | h
      · exact slt_trans e4 (h2 en q hme h hq2)
      · have : q = en := by omega
        subst this; exact e4
  · rw [if_pos (by omega)]
    by_cases c2 : q < en
    · rw [if_pos (by omega)]
      have e1 := p2 (by omega) (by omega)
      have e2 := h2.le (i := p + (m - st)) (j := en - 1) (by omega) (by omega) (by omega)
      have e3 := h1.le (i := st) (j := q - (en - m)) (by omega) (by omega) (by omega)
      exact .inl (by omega)
    · rw [if_neg (by omega)]; exact h2 _ _ (by omega) (by omega) hq2
theorem halves_left {D : Int → Int} {l t : List Int} {a st m en mid b : Nat} (h1 : SortS D l a m) (h2 : SortS D l m b) (hx : Ahd l a m b) (hr : Rot l t st m en) (ha : a ≤ st) (hsm : st ≤ m) (hme : m ≤ en) (heb : en ≤ b) (hmid : mid + m = st + en) :
    SortS D t a st ∧ SortS D t st mid ∧ Ahd t a st mid := by
  refine ⟨fun i j i1 i2 i3 => ?_, fun i j i1 i2 i3 => ?_, fun i j i1 i2 i3 i4 => ?_⟩
  · rw [hr i, hr j, if_neg (by omega), if_neg (by omega), if_neg (by omega), if_neg (by omega)]; exact h1 i j i1 i2 (by omega)
  · rw [hr i, hr j, if_pos (by omega), if_pos (by omega)]; exact h2 _ _ (by omega) (by omega) (by omega)
  · rw [hr i, hr j, if_neg (by omega), if_neg (by omega), if_pos (by omega)]; exact hx _ _ i1 (by omega) (by omega) (by omega)
theorem halves_right {D : Int → Int} {l t : List Int} {a st m en mid b : Nat} (h1 : SortS D l a m) (h2 : SortS D l m b) (hx : Ahd l a m b) (hr : Rot l t st m en) (ha : a ≤ st) (hsm : st ≤ m) (hme : m ≤ en) (heb : en ≤ b) (hmid : mid + m = st + en) :
    SortS D t mid en ∧ SortS D t en b ∧ Ahd t mid en b := by
  refine ⟨fun i j i1 i2 i3 => ?_, fun i j i1 i2 i3 => ?_, fun i j i1 i2 i3 i4 => ?_⟩
  · rw [hr i, hr j, if_neg (by omega), if_pos (by omega), if_neg (by omega), if_pos (by omega)]; exact h1 _ _ (by omega) (by omega) (by omega)
  · rw [hr i, hr j, if_neg (by omega), if_neg (by omega), if_neg (by omega), if_neg (by omega)]; exact h2 _ _ (by omega) (by omega) (by omega)
  · rw [hr i, hr j, if_neg (by omega), if_pos (by omega), if_neg (by omega), if_neg (by omega)]; exact hx _ _ (by omega) (by omega) (by omega) (by omega)
theorem halves_join {D : Int → Int} {t t1 t2 : List Int} {a mid b : Nat} (hc : ∀ p q, a ≤ p → p < mid → mid ≤ q → q < b → slt D (gx t p) (gx t q))
    (m1 : Mv t t1 a mid) (m2 : Mv t1 t2 mid b) (s1 : SortS D t1 a mid) (s2 : SortS D t2 mid b) : SortS D t2 a b := by
  intro p q hp hpq hq
  by_cases c1 : q < mid
  · rw [m2.out p (by omega), m2.out q (by omega)]; exact s1 p q hp hpq c1
  · by_cases c2 : mid ≤ p
    · exact s2 p q c2 hpq hq
    · rw [m2.out p (by omega)]
      obtain ⟨p', h1, h2, e1⟩ := m1.inn p hp (by omega)
      obtain ⟨q', h3, h4, e2⟩ := m2.inn q (by omega) hq
      rw [e1, e2, m1.out q' (by omega)]
      exact hc p' q' h1 h2 h3 h4
theorem Rot.self {l : List Int} {a m b : Nat} (h : a ≥ m ∨ m ≥ b) : Rot l l a m b := fun x => by
  by_cases h1 : a ≤ x ∧ x < a + (b - m)
  · rw [if_pos h1]; congr 1; omega
  · rw [if_neg h1]
    by_cases h2 : a + (b - m) ≤ x ∧ x < b
    · rw [if_pos h2]; congr 1; omega
    · rw [if_neg h2]
/-- What stands between two places stood there ahead, too. -/
def MvI (l0 l : List Int) (a b : Nat) : Prop := ∀ i, a ≤ i → i < b → ∃ j, a ≤ j ∧ j < b ∧ gx l i = gx l0 j
def AscS (l0 : List Int) (n : Nat) : Prop := ∀ i j, i < j → j < n → gx l0 i < gx l0 j
/-- So many blocks are sorted. -/
def Bks (D : Int → Int) (l0 l : List Int) (S K : Nat) : Prop := ∀ k, k < K → SortS D l (k * S) (k * S + S) ∧ MvI l0 l (k * S) (k * S + S)
/-- All blocks are sorted. -/
def Bkd (D : Int → Int) (l0 l : List Int) (S n : Nat) : Prop := ∀ k, k * S < n → SortS D l (k * S) (min (k * S + S) n) ∧ MvI l0 l (k * S) (min (k * S + S) n)
theorem Bks.zero {D : Int → Int} {l0 l : List Int} {S : Nat} : Bks D l0 l S 0 := fun k hk => absurd hk (Nat.not_lt_zero _)
set_option maxHeartbeats 4000000 in
theorem mul_lt_step {k K S : Nat} (h : k < K) : k * S + S ≤ K * S := by
  have := Nat.mul_le_mul_right S (show k + 1 ≤ K from h)
  rwa [Nat.succ_mul] at this
theorem MvI.same {l0 l l' : List Int} {a b : Nat} (h : MvI l0 l a b) (he : ∀ i, a ≤ i → i < b → gx l' i = gx l i) : MvI l0 l' a b := fun i h1 h2 => by
  rw [he i h1 h2]; exact h i h1 h2
theorem Bks.step {D : Int → Int} {l0 l l' : List Int} {S K : Nat} (h : Bks D l0 l S K) (hm : ∀ i, i < K * S → gx l' i = gx l i) (hs : SortS D l' (K * S) (K * S + S)) (hi : MvI l0 l' (K * S) (K * S + S)) : Bks D l0 l' S (K + 1) := by
  intro k hk
  rcases Nat.lt_or_ge k K with h1 | h1
  · have h2 := mul_lt_step (S := S) h1
    obtain ⟨e1, e2⟩ := h k h1
    exact ⟨e1.mv fun i i1 i2 => hm i (by omega), e2.same fun i i1 i2 => hm i (by omega)⟩
  · have : k = K := by omega
    subst this; exact ⟨hs, hi⟩
theorem Bks.done {D : Int → Int} {l0 l l' : List Int} {S K n : Nat} (h : Bks D l0 l S K) (hm : ∀ i, i < K * S → gx l' i = gx l i) (hs : SortS D l' (K * S) n) (hi : MvI l0 l' (K * S) n) (h1 : n ≤ K * S + S) (h2 : K * S ≤ n) : Bkd D l0 l' S n := by
  intro k hk
  rcases Nat.lt_or_ge k K with h3 | h3
  · have h4 := mul_lt_step (S := S) h3
    rw [Nat.min_eq_left (by omega)]
    obtain ⟨e1, e2⟩ := h k h3
    exact ⟨e1.mv fun i i1 i2 => hm i (by omega), e2.same fun i i1 i2 => hm i (by omega)⟩
  · have : k = K := by
      rcases Nat.lt_or_ge K k with h5 | h5
      · have := mul_lt_step (S := S) h5; omega
      · omega
    subst this
    rw [Nat.min_eq_right h1]
    exact ⟨hs, hi⟩
/-- Two blocks of a row that stands as it stood from the first of them on. -/
theorem Bkd.two {D : Int → Int} {l0 ls l : List Int} {S K n : Nat} (h : Bkd D l0 ls S n) (ha : AscS l0 n) (he : ∀ i, K * (2 * S) ≤ i → gx l i = gx ls i) {b : Nat} (hb : b = min (K * (2 * S) + 2 * S) n) (hm : K * (2 * S) + S < n) (hS : 0 < S) :
    SortS D l (K * (2 * S)) (K * (2 * S) + S) ∧ SortS D l (K * (2 * S) + S) b ∧ Ahd l (K * (2 * S)) (K * (2 * S) + S) b ∧ MvI l0 l (K * (2 * S)) b := by
  have e1 : (2 * K) * S = K * (2 * S) := by rw [Nat.mul_comm 2 K, Nat.mul_assoc]
  have e2 : (2 * K + 1) * S = K * (2 * S) + S := by rw [Nat.succ_mul, e1]
  obtain ⟨s1, m1⟩ := h (2 * K) (by omega)
  obtain ⟨s2, m2⟩ := h (2 * K + 1) (by omega)
  rw [e1, Nat.min_eq_left (by omega)] at s1 m1
  rw [e2, show min (K * (2 * S) + S + S) n = b by rw [hb]; congr 1; omega] at s2 m2
  have hbn : b ≤ n := by omega
  have hbm : K * (2 * S) + S ≤ b := by omega
  generalize K * (2 * S) = A at *
  refine ⟨s1.mv fun i i1 _ => he i i1, s2.mv fun i i1 _ => he i (by omega), fun p q p1 p2 q1 q2 => ?_, fun i i1 i2 => ?_⟩
  · obtain ⟨p', a1, a2, x1⟩ := m1 p p1 p2
    obtain ⟨q', b1, b2, x2⟩ := m2 q q1 q2
    rw [he p p1, he q (by omega), x1, x2]
    exact ha p' q' (by omega) (by omega)
  · rw [he i i1]
    by_cases hc : i < A + S
    · obtain ⟨j, a1, a2, x1⟩ := m1 i i1 hc; exact ⟨j, a1, by omega, x1⟩
    · obtain ⟨j, a1, a2, x1⟩ := m2 i (by omega) i2; exact ⟨j, by omega, a2, x1⟩
theorem Bkd.one {D : Int → Int} {l0 ls l : List Int} {S K n : Nat} (h : Bkd D l0 ls S n) (he : ∀ i, K * (2 * S) ≤ i → gx l i = gx ls i) (hm : n ≤ K * (2 * S) + S) :
    SortS D l (K * (2 * S)) n ∧ MvI l0 l (K * (2 * S)) n := by
  have e1 : (2 * K) * S = K * (2 * S) := by rw [Nat.mul_comm 2 K, Nat.mul_assoc]
  rcases Nat.lt_or_ge (K * (2 * S)) n with hlt | hge
  · obtain ⟨s1, m1⟩ := h (2 * K) (by omega)
    rw [e1, Nat.min_eq_right (by omega)] at s1 m1
    exact ⟨s1.mv fun i i1 _ => he i i1, m1.same fun i i1 _ => he i i1⟩
  · exact ⟨fun i j i1 i2 i3 => by omega, fun i i1 i2 => by omega⟩
theorem MvI.mv {l0 l l' : List Int} {a b : Nat} (h : MvI l0 l a b) (hm : Mv l l' a b) : MvI l0 l' a b := fun i i1 i2 => by
  obtain ⟨j, j1, j2, e⟩ := hm.inn i i1 i2
  obtain ⟨k, k1, k2, e2⟩ := h j j1 j2
  exact ⟨k, k1, k2, by rw [e, e2]⟩
/-- There is one such order alone. -/
theorem slt_unique {D : Int → Int} : ∀ {l l' : List Int}, l.Perm l' → l.Pairwise (slt D) → l'.Pairwise (slt D) → l = l'
  | [], l', h, _, _ => by rw [List.nil_perm.1 h]
  | x :: t, [], h, _, _ => by simp at h
  | x :: t, y :: t', h, h1, h2 => by
    have hxy : x = y := by
      have m1 := h.mem_iff.1 (List.mem_cons_self (a := x) (l := t))
      have m2 := h.mem_iff.2 (List.mem_cons_self (a := y) (l := t'))
      rcases List.mem_cons.1 m1 with e | m1
      · exact e
      · rcases List.mem_cons.1 m2 with e | m2
        · exact e.symm
        · exact absurd ((List.pairwise_cons.1 h1).1 y m2) (slt_asym ((List.pairwise_cons.1 h2).1 x m1))
    subst hxy
    rw [slt_unique (List.perm_cons x |>.1 h) (List.pairwise_cons.1 h1).2 (List.pairwise_cons.1 h2).2]
theorem SortS.pw {D : Int → Int} {l : List Int} (h : SortS D l 0 l.length) : l.Pairwise (slt D) := by
  rw [List.pairwise_iff_getElem]
  intro i j hi hj hij
  rw [gx_el hi, gx_el hj]
  exact h i j (Nat.zero_le _) hij hj
/-- A number is put behind those that are not greater. -/
def putG (D : Int → Int) (x : Int) : List Int → List Int
  | [] => [x]
  | y :: t => if D y > D x then x :: y :: t else y :: putG D x t
/-- The indices of a row, as its numbers ascend. -/
def grdG (D : Int → Int) : Nat → List Int
  | 0 => []
  | n + 1 => putG D n (grdG D n)
theorem putG_perm {D : Int → Int} {x : Int} : ∀ {l : List Int}, (putG D x l).Perm (x :: l)
  | [] => List.Perm.refl _
  | y :: t => by
    unfold putG
    split
    · exact List.Perm.refl _
    · exact ((putG_perm (l := t)).cons y).trans (List.Perm.swap _ _ _)
theorem putG_pw {D : Int → Int} {x : Int} : ∀ {l : List Int}, l.Pairwise (slt D) → (∀ y ∈ l, y < x) → (putG D x l).Pairwise (slt D)
  | [], _, _ => by simp [putG]
  | y :: t, h, hx => by
    obtain ⟨h1, h2⟩ := List.pairwise_cons.1 h
    unfold putG
    split
    · rename_i hc
      refine List.pairwise_cons.2 ⟨fun z hz => ?_, h⟩
      rcases List.mem_cons.1 hz with rfl | hz
      · exact .inl hc
      · have := slt_le (h1 z hz); exact .inl (by omega)
    · rename_i hc
      refine List.pairwise_cons.2 ⟨fun z hz => ?_, putG_pw h2 fun z hz => hx z (List.mem_cons_of_mem _ hz)⟩
      rcases List.mem_cons.1 (putG_perm.mem_iff.1 hz) with rfl | hz
      · have := hx y (List.mem_cons_self ..); unfold slt; omega
      · exact h1 z hz
theorem grdG_perm {D : Int → Int} : ∀ {n : Nat}, (grdG D n).Perm ((List.range n).map fun i : Nat => (i : Int))
  | 0 => by simp [grdG]
  | n + 1 => by
    rw [List.range_succ, List.map_append]
    exact (putG_perm.trans ((grdG_perm (n := n)).cons _)).trans (List.perm_append_singleton _ _).symm
theorem grdG_mem {D : Int → Int} {n : Nat} {y : Int} (h : y ∈ grdG D n) : 0 ≤ y ∧ y < n := by
  have := grdG_perm.mem_iff.1 h
  simp at this
  obtain ⟨i, hi, rfl⟩ := this
  omega
theorem grdG_len {D : Int → Int} {n : Nat} : (grdG D n).length = n := by rw [grdG_perm.length_eq]; simp
theorem grdG_pw {D : Int → Int} : ∀ {n : Nat}, (grdG D n).Pairwise (slt D)
  | 0 => by simp [grdG]
  | n + 1 => putG_pw grdG_pw fun y hy => (grdG_mem hy).2
theorem grdG_eq {D : Int → Int} {n : Nat} {l : List Int} (hp : l.Perm ((List.range n).map fun i : Nat => (i : Int))) (hs : SortS D l 0 n) : l = grdG D n := by
  have hl : l.length = n := by rw [hp.length_eq]; simp
  refine slt_unique (hp.trans grdG_perm.symm) (SortS.pw (by rw [hl]; exact hs)) grdG_pw

/-- A heap that is as it was, but for a row that was moved. -/
structure SR (G : AH) (b o : Nat) (l0 l : List Int) (H : AH) : Prop where
  len : H.length = G.length
  keep : ∀ j, j ≠ b → H[j]? = G[j]?
  perm : l.Perm l0
  row : ∃ cs, H[b]? = some ⟨cs, .own⟩ ∧ o + l.length ≤ cs.length ∧ ∀ k x, l[k]? = some x → cs[o + k]? = some (.int .i64 x)
def cmpI (a b : Int) : Int := if a < b then -1 else if a > b then 1 else 0
theorem cmpI_lt {a b : Int} : decide (cmpI a b < 0) = decide (a < b) := by
  unfold cmpI
  by_cases h : a < b
  · rw [if_pos h]; simp [h]
  · rw [if_neg h]; split <;> simp [h]
structure CmpOk (P : Program) (g : FuncId) (cap : Value) (G : AH) (b o : Nat) (l0 : List Int) (D : Int → Int) : Prop where
  call : ∀ l H, SR G b o l0 l H → ∀ x ∈ l0, ∀ y ∈ l0, ∀ Φ, CallsA P g #[.int .i64 x, .int .i64 y, cap] H Φ = Φ (.int .i64 (cmpI (D x) (D y))) H
theorem arr21 {a c d : Value} : (#[a, c] ++ #[d] : Array Value) = #[a, c, d] := rfl
theorem SR.lenl {G : AH} {b o : Nat} {l0 l : List Int} {H : AH} (h : SR G b o l0 l H) : l.length = l0.length := h.perm.length_eq
theorem SR.mem {G : AH} {b o : Nat} {l0 l : List Int} {H : AH} (h : SR G b o l0 l H) {i : Nat} (hi : i < l0.length) : gx l i ∈ l0 := by
  have h1 : i < l.length := by rw [h.lenl]; exact hi
  rw [← h.perm.mem_iff]
  exact List.mem_of_getElem? (gx_get h1)
theorem SR.get {G : AH} {b o : Nat} {l0 l : List Int} {H : AH} (h : SR G b o l0 l H) : ∃ cs, H[b]? = some ⟨cs, .own⟩ ∧ o + l0.length ≤ cs.length ∧ ∀ k, k < l0.length → cs[o + k]? = some (.int .i64 (gx l k)) := by
  obtain ⟨cs, h1, h2, h3⟩ := h.row
  have := h.lenl
  exact ⟨cs, h1, by omega, fun k hk => h3 k _ (gx_get (by omega))⟩
theorem SR.swap {G : AH} {b o : Nat} {l0 l : List Int} {H : AH} {cs : List Value} (h : SR G b o l0 l H) (hb : H[b]? = some ⟨cs, .own⟩) {i j : Nat} (hi : i < l0.length) (hj : j < l0.length) :
    SR G b o l0 (swp l i j) (H.set b ⟨(cs.set (o + i) (.int .i64 (gx l j))).set (o + j) (.int .i64 (gx l i)), .own⟩) := by
  have hl := h.lenl
  obtain ⟨cs', h1, h2, h3⟩ := h.row
  rw [hb] at h1
  obtain rfl : cs = cs' := by injection h1 with h1; injection h1
  refine ⟨by rw [List.length_set]; exact h.len, fun k hk => by rw [List.getElem?_set_ne (fun e => hk e.symm)]; exact h.keep k hk, (swp_perm (by omega) (by omega)).trans h.perm, _, set_at hb, by simp [swp]; omega, fun k x hx => ?_⟩
  have hk : k < (swp l i j).length := (List.getElem?_eq_some_iff.1 hx).1
  have e := gx_of hx
  rw [gx_swp (by omega) (by omega)] at e
  rw [swp_len] at hk
  by_cases e1 : k = j
  · subst e1
    rw [List.getElem?_set_self (by simp; omega)]
    rw [if_pos rfl] at e; rw [e]
  · rw [List.getElem?_set_ne (by omega)]
    rw [if_neg e1] at e
    by_cases e2 : k = i
    · subst e2
      rw [List.getElem?_set_self (by omega)]
      rw [if_pos rfl] at e; rw [e]
    · rw [List.getElem?_set_ne (by omega)]
      rw [if_neg e2] at e
      rw [h3 k _ (gx_get hk), e]

set_option maxHeartbeats 4000000 in
theorem swapRange_ok {G H : AH} {b o : Nat} {l0 l : List Int} {f : Value} (h : SR G b o l0 l H) (hn : l0.length ≤ 1048576) {p q m : Nat} (hpq : p + m ≤ q) (hq : q + m ≤ l0.length) :
    CallsA Try.prog 194 #[.slice (some ⟨b, o, none⟩) l0.length 1, .int .i64 p, .int .i64 q, .int .i64 m, f] H fun r H' => ∃ l', SR G b o l0 l' H' ∧ Swr l l' p q m ∧ Mv l l' p (q + m) := by
  refine w194 ?_
  unfold k194
  simp -implicitDefEqProofs only [kz, kk0, kk1, kk2, kk3, ↓two_true, ↓two_false, oS_some, oM_some, mkv, aggAt, Nat.reduceLeDiff, Nat.reduceSub, Nat.reduceMul, implies_true, Nat.reduceEqDiff, reduceIte, Nat.reduceAdd, Nat.reduceBEq, reduceCtorEq, ix43, ld3, st3]
  refine rW_loop (σ := Nat × List Int) (fun (k, l') tm H' => tm 0 = .slice (some ⟨b, o, none⟩) l0.length 1 ∧ tm 1 = .int .i64 p ∧ tm 2 = .int .i64 q ∧ tm 3 = .int .i64 m ∧ tm 10 = .int .i64 k ∧ k ≤ m ∧ SR G b o l0 l' H' ∧ Swr l l' p q k ∧ Mv l l' p (q + m)) (fun s => m - s.1) (0, l) ?_ ?_
  · simp -implicitDefEqProofs [kk0, kk1, kk2, kk3, rW_block, ↓two_true, ↓two_false, rW_cond, rO_guard, oS_some, oM_some, mkv, aggAt, Nat.reduceLeDiff, Nat.reduceSub, Nat.reduceMul, cond_true, cond_false, Option.bind_some, List.length_append, List.length_cons, List.length_nil, List.append_assoc, List.cons_append, List.nil_append, List.set_cons_zero, List.set_cons_succ, List.size_toArray, List.all_cons, List.all_nil, List.drop_zero, List.drop_succ_cons, List.take_succ_cons, List.take_zero, List.mem_cons, Prod.mk.injEq, List.not_mem_nil, implies_true, List.getElem?_toArray, List.getElem?_cons_zero, List.getElem?_cons_succ, List.getElem?_nil, Option.getD_some, Option.getD_none, Nat.reduceEqDiff, reduceIte, Nat.reduceAdd, List.map_toArray, List.map_cons, List.map_nil, Bool.false_eq_true, Nat.reduceBEq, Option.map_some, Option.map_none, reduceCtorEq, ix43, ld3, st3]
    exact ⟨h, Swr.zero, Mv.refl⟩
  · rintro ⟨k, l'⟩ tm H1 ⟨h0, h1, h2, h3, h10, hk, hs, hw, hm⟩
    simp -implicitDefEqProofs only [kz, kk0, kk1, kk2, kk3, ↓two_true, ↓two_false, oS_some, oM_some, mkv, aggAt, Nat.reduceLeDiff, Nat.reduceSub, Nat.reduceMul, implies_true, Nat.reduceEqDiff, reduceIte, Nat.reduceAdd, Nat.reduceBEq, reduceCtorEq, ix43, ld3, st3, h0, h1, h2, h3, h10]
    refine two_intro (fun hc => ?_) (fun hc => ?_)
    · have hlt : k < m := by simpa using hc
      obtain ⟨cs, hb, hle, hcell⟩ := hs.get
      have w1 : IntKind.i64.wrap ((p : Int) + k) = ((p + k : Nat) : Int) := by rw [IntWalk.i64_in _ (by omega)]; omega
      have w2 : IntKind.i64.wrap ((q : Int) + k) = ((q + k : Nat) : Int) := by rw [IntWalk.i64_in _ (by omega)]; omega
      have w3 : IntKind.i64.wrap ((k : Int) + 1) = ((k + 1 : Nat) : Int) := by rw [IntWalk.i64_in _ (by omega)]; omega
      simp -implicitDefEqProofs only [kz, kk0, kk1, kk2, kk3, ↓two_true, ↓two_false, oS_some, oM_some, mkv, aggAt, Nat.reduceLeDiff, Nat.reduceSub, Nat.reduceMul, implies_true, Nat.reduceEqDiff, reduceIte, Nat.reduceAdd, Nat.reduceBEq, reduceCtorEq, ix43, ld3, st3, h0, h1, h2, h3, h10, Int.toNat_natCast, Nat.mul_one, w1, w2, w3, rd_own hb, wrt_own hb, wrt_own (set_at hb), hcell (p + k) (by omega), hcell (q + k) (by omega)]
      refine ⟨by omega, by omega, by omega, by omega, by omega, by rw [List.length_set]; omega, (k + 1, swp l' (p + k) (q + k)), by simp only; omega, rfl, hlt, ?_, hw.step (by omega) (by rw [hs.lenl]; omega), hm.trans (Mv.swp (by omega) (by omega) (by omega) (by omega) (by rw [hs.lenl]; omega))⟩
      rw [list_set_set]
      exact hs.swap hb (by omega) (by omega)
    · have : k = m := by have : ¬ k < m := by simpa using hc
                         omega
      subst this
      exact ⟨l', hs, hw, hm⟩

set_option maxHeartbeats 4000000 in
theorem rotate_ok {G H : AH} {b o : Nat} {l0 l : List Int} {f : Value} (h : SR G b o l0 l H) (hn : l0.length ≤ 1048576) {x m y : Nat} (hxm : x < m) (hmy : m < y) (hy : y ≤ l0.length) :
    CallsA Try.prog 193 #[.slice (some ⟨b, o, none⟩) l0.length 1, .int .i64 x, .int .i64 m, .int .i64 y, f] H fun r H' => ∃ l', SR G b o l0 l' H' ∧ Rot l l' x m y ∧ Mv l l' x y := by
  have w1 : IntKind.i64.wrap ((m : Int) - x) = ((m - x : Nat) : Int) := by rw [IntWalk.i64_in _ (by omega)]; omega
  have w2 : IntKind.i64.wrap ((y : Int) - m) = ((y - m : Nat) : Int) := by rw [IntWalk.i64_in _ (by omega)]; omega
  refine w193 ?_
  unfold k193
  simp -implicitDefEqProofs only [kz, kk0, kk1, kk2, kk3, ↓two_true, ↓two_false, oS_some, oM_some, mkv, aggAt, Nat.reduceLeDiff, Nat.reduceSub, Nat.reduceMul, implies_true, Nat.reduceEqDiff, reduceIte, Nat.reduceAdd, Nat.reduceBEq, reduceCtorEq, w1, w2]
  refine rW_loop (σ := Nat × Nat × List Int) (fun (i, j, l') tm H' => tm 0 = .slice (some ⟨b, o, none⟩) l0.length 1 ∧ tm 2 = .int .i64 m ∧ tm 4 = f ∧ tm 10 = .int .i64 i ∧ tm 11 = .int .i64 j ∧ 0 < i ∧ 0 < j ∧ x + i ≤ m ∧ m + j ≤ y ∧ SR G b o l0 l' H' ∧ Mv l l' x y ∧ ∀ t, Rot l' t (m - i) m (m + j) → Rot l t x m y) (fun s => s.1 + s.2.1) (m - x, y - m, l) ?_ ?_
  · simp -implicitDefEqProofs [kk0, kk1, kk2, kk3, rW_block, ↓two_true, ↓two_false, rW_cond, rO_guard, oS_some, oM_some, mkv, aggAt, Nat.reduceLeDiff, Nat.reduceSub, Nat.reduceMul, cond_true, cond_false, Option.bind_some, List.length_append, List.length_cons, List.length_nil, List.append_assoc, List.cons_append, List.nil_append, List.set_cons_zero, List.set_cons_succ, List.size_toArray, List.all_cons, List.all_nil, List.drop_zero, List.drop_succ_cons, List.take_succ_cons, List.take_zero, List.mem_cons, Prod.mk.injEq, List.not_mem_nil, implies_true, List.getElem?_toArray, List.getElem?_cons_zero, List.getElem?_cons_succ, List.getElem?_nil, Option.getD_some, Option.getD_none, Nat.reduceEqDiff, reduceIte, Nat.reduceAdd, List.map_toArray, List.map_cons, List.map_nil, Bool.false_eq_true, Nat.reduceBEq, Option.map_some, Option.map_none, reduceCtorEq]
    exact ⟨by omega, by omega, by omega, by omega, h, Mv.refl, fun t ht => by rw [show m - (m - x) = x by omega, show m + (y - m) = y by omega] at ht; exact ht⟩
  · rintro ⟨i, j, l'⟩ tm H1 ⟨h0, h2, h4, h10, h11, hi, hj, hxi, hjy, hs, hm, hr⟩
    have w3 : IntKind.i64.wrap ((m : Int) - i) = ((m - i : Nat) : Int) := by rw [IntWalk.i64_in _ (by omega)]; omega
    have w4 : IntKind.i64.wrap ((i : Int) - j) = (i : Int) - j := IntWalk.i64_in _ (by omega)
    have w5 : IntKind.i64.wrap ((j : Int) - i) = (j : Int) - i := IntWalk.i64_in _ (by omega)
    have w6 : IntKind.i64.wrap ((m : Int) + j) = ((m + j : Nat) : Int) := by rw [IntWalk.i64_in _ (by omega)]; omega
    have w7 : IntKind.i64.wrap (((m + j : Nat) : Int) - i) = ((m + j - i : Nat) : Int) := by rw [IntWalk.i64_in _ (by omega)]; omega
    simp -implicitDefEqProofs only [kz, kk0, kk1, kk2, kk3, ↓two_true, ↓two_false, oS_some, oM_some, mkv, aggAt, Nat.reduceLeDiff, Nat.reduceSub, Nat.reduceMul, implies_true, Nat.reduceEqDiff, reduceIte, Nat.reduceAdd, Nat.reduceBEq, reduceCtorEq, h0, h2, h4, h10, h11, w3, w6, w7]
    refine two_intro (fun hc => ?_) (fun hc => ?_)
    · have hne : i ≠ j := fun e => by subst e; simp at hc
      refine two_intro (fun hg => ?_) (fun hg => ?_)
      · have hij : j < i := by simpa using hg
        refine (swapRange_ok hs hn (p := m - i) (q := m) (m := j) (by omega) (by omega)).mono ?_
        rintro _ H2 ⟨l2, s2, sw, m2⟩
        simp -implicitDefEqProofs only [kz, kk0, kk1, kk2, kk3, ↓two_true, ↓two_false, oS_some, oM_some, mkv, aggAt, Nat.reduceLeDiff, Nat.reduceSub, Nat.reduceMul, implies_true, Nat.reduceEqDiff, reduceIte, Nat.reduceAdd, Nat.reduceBEq, reduceCtorEq, h0, h2, h4, h10, h11, w4]
        refine ⟨(i - j, j, l2), by simp only; omega, by simp only; congr 1; omega, rfl, by simp only; omega, hj, by simp only; omega, hjy, s2, hm.trans (m2.wide (by omega) (by omega)), fun t ht => hr t (Rot.left (by omega) hij sw ?_)⟩
        simp only at ht
        rw [show m - i + j = m - (i - j) by omega]; exact ht
      · have hij : i < j := by have : ¬ j < i := by simpa using hg
                               omega
        refine (swapRange_ok hs hn (p := m - i) (q := m + j - i) (m := i) (by omega) (by omega)).mono ?_
        rintro _ H2 ⟨l2, s2, sw, m2⟩
        simp -implicitDefEqProofs only [kz, kk0, kk1, kk2, kk3, ↓two_true, ↓two_false, oS_some, oM_some, mkv, aggAt, Nat.reduceLeDiff, Nat.reduceSub, Nat.reduceMul, implies_true, Nat.reduceEqDiff, reduceIte, Nat.reduceAdd, Nat.reduceBEq, reduceCtorEq, h0, h2, h4, h10, h11, w5]
        exact ⟨(i, j - i, l2), by simp only; omega, rfl, by simp only; congr 1; omega, hi, by simp only; omega, hxi, by simp only; omega, s2, hm.trans (m2.wide (by omega) (by omega)), fun t ht => hr t (Rot.right (by omega) hij sw ht)⟩
    · have hij : i = j := by have := bne_eq_false_iff_eq.1 hc; omega
      subst hij
      refine (swapRange_ok hs hn (p := m - i) (q := m) (m := i) (by omega) (by omega)).mono ?_
      rintro _ H2 ⟨l2, s2, sw, m2⟩
      simp -implicitDefEqProofs only [kz, kk0, kk1, kk2, kk3, ↓two_true, ↓two_false, oS_some, oM_some, mkv, aggAt, Nat.reduceLeDiff, Nat.reduceSub, Nat.reduceMul, implies_true, Nat.reduceEqDiff, reduceIte, Nat.reduceAdd, Nat.reduceBEq, reduceCtorEq]
      exact ⟨l2, s2, hr _ (Rot.same (by omega) sw), hm.trans (m2.wide (by omega) (by omega))⟩

set_option maxHeartbeats 4000000 in
theorem insSort_ok {G H : AH} {b o : Nat} {l0 l : List Int} {g : FuncId} {cap : Value} {D : Int → Int} (hcmp : CmpOk Try.prog g cap G b o l0 D) (h : SR G b o l0 l H) (hn : l0.length ≤ 1048576) {x y : Nat} (hxy : x ≤ y) (hy : y ≤ l0.length) (ha : ∀ p q, x ≤ p → p < q → q < y → gx l p < gx l q) :
    CallsA Try.prog 190 #[.slice (some ⟨b, o, none⟩) l0.length 1, .int .i64 x, .int .i64 y, .func (.func g) #[] #[cap]] H fun r H' => ∃ l', SR G b o l0 l' H' ∧ SortS D l' x y ∧ Mv l l' x y := by
  have w1 : IntKind.i64.wrap ((x : Int) + 1) = ((x + 1 : Nat) : Int) := by rw [IntWalk.i64_in _ (by omega)]; omega
  refine w190 ?_
  unfold k190
  simp -implicitDefEqProofs only [kz, kk0, kk1, kk2, kk3, ↓two_true, ↓two_false, oS_some, oM_some, mkv, aggAt, Nat.reduceLeDiff, Nat.reduceSub, Nat.reduceMul, implies_true, Nat.reduceEqDiff, reduceIte, Nat.reduceAdd, Nat.reduceBEq, reduceCtorEq, ix43, ld3, st3, w1]
  refine rW_loop (σ := Nat × List Int) (fun (i, l') tm H' => tm 0 = .slice (some ⟨b, o, none⟩) l0.length 1 ∧ tm 1 = .int .i64 x ∧ tm 2 = .int .i64 y ∧ tm 3 = .func (.func g) #[] #[cap] ∧ tm 8 = .int .i64 i ∧ x + 1 ≤ i ∧ (i ≤ y ∨ i = x + 1) ∧ SR G b o l0 l' H' ∧ SortS D l' x (min i y) ∧ Mv l l' x (min i y)) (fun s => y - s.1) (x + 1, l) ?_ ?_
  · simp -implicitDefEqProofs [kk0, kk1, kk2, kk3, rW_block, ↓two_true, ↓two_false, rW_cond, rO_guard, oS_some, oM_some, mkv, aggAt, Nat.reduceLeDiff, Nat.reduceSub, Nat.reduceMul, cond_true, cond_false, Option.bind_some, List.length_append, List.length_cons, List.length_nil, List.append_assoc, List.cons_append, List.nil_append, List.set_cons_zero, List.set_cons_succ, List.size_toArray, List.all_cons, List.all_nil, List.drop_zero, List.drop_succ_cons, List.take_succ_cons, List.take_zero, List.mem_cons, Prod.mk.injEq, List.not_mem_nil, implies_true, List.getElem?_toArray, List.getElem?_cons_zero, List.getElem?_cons_succ, List.getElem?_nil, Option.getD_some, Option.getD_none, Nat.reduceEqDiff, reduceIte, Nat.reduceAdd, List.map_toArray, List.map_cons, List.map_nil, Bool.false_eq_true, Nat.reduceBEq, Option.map_some, Option.map_none, reduceCtorEq, ix43, ld3, st3]
    exact ⟨h, fun i j i1 i2 i3 => by omega, Mv.refl⟩
  · rintro ⟨i, l'⟩ tm H1 ⟨h0, h1, h2, h3, h8, hxi, hiy, hs, hso, hm⟩
    simp -implicitDefEqProofs only [kz, kk0, kk1, kk2, kk3, ↓two_true, ↓two_false, oS_some, oM_some, mkv, aggAt, Nat.reduceLeDiff, Nat.reduceSub, Nat.reduceMul, implies_true, Nat.reduceEqDiff, reduceIte, Nat.reduceAdd, Nat.reduceBEq, reduceCtorEq, ix43, ld3, st3, h0, h1, h2, h3, h8]
    refine two_intro (fun hc => ?_) (fun hc => ?_)
    · have hlt : i < y := by simpa using hc
      rw [Nat.min_eq_left (by omega)] at hso hm
      refine rW_loop (σ := Nat × List Int) (fun (j, l') tm H' => tm 0 = .slice (some ⟨b, o, none⟩) l0.length 1 ∧ tm 1 = .int .i64 x ∧ tm 2 = .int .i64 y ∧ tm 3 = .func (.func g) #[] #[cap] ∧ tm 8 = .int .i64 i ∧ tm 9 = .int .i64 j ∧ x ≤ j ∧ j ≤ i ∧ SR G b o l0 l' H' ∧ Ins1 D l' x i j ∧ Mv l l' x (i + 1)) (fun s => s.1) (i, l') ?_ ?_
      · simp -implicitDefEqProofs [kk0, kk1, kk2, kk3, rW_block, ↓two_true, ↓two_false, rW_cond, rO_guard, oS_some, oM_some, mkv, aggAt, Nat.reduceLeDiff, Nat.reduceSub, Nat.reduceMul, cond_true, cond_false, Option.bind_some, List.length_append, List.length_cons, List.length_nil, List.append_assoc, List.cons_append, List.nil_append, List.set_cons_zero, List.set_cons_succ, List.size_toArray, List.all_cons, List.all_nil, List.drop_zero, List.drop_succ_cons, List.take_succ_cons, List.take_zero, List.mem_cons, Prod.mk.injEq, List.not_mem_nil, implies_true, List.getElem?_toArray, List.getElem?_cons_zero, List.getElem?_cons_succ, List.getElem?_nil, Option.getD_some, Option.getD_none, Nat.reduceEqDiff, reduceIte, Nat.reduceAdd, List.map_toArray, List.map_cons, List.map_nil, Bool.false_eq_true, Nat.reduceBEq, Option.map_some, Option.map_none, reduceCtorEq, ix43, ld3, st3, h0, h1, h2, h3, h8]
        refine ⟨by omega, hs, Ins1.start hso fun p p1 p2 => ?_, hm.wide (Nat.le_refl _) (by omega)⟩
        obtain ⟨p', q1, q2, e⟩ := hm.inn p p1 p2
        rw [e, hm.out i (by omega)]
        exact ha p' i q1 q2 hlt
      · rintro ⟨j, l2⟩ tm H2 ⟨h0, h1, h2, h3, h8, h9, hxj, hji, hs2, hin, hm2⟩
        by_cases hj : x < j
        · obtain ⟨k, rfl⟩ : ∃ k, j = k + 1 := ⟨j - 1, by omega⟩
          obtain ⟨cs, hb, hle, hcell⟩ := hs2.get
          have d1 : decide (((k + 1 : Nat) : Int) > x) = true := decide_eq_true (by omega)
          have wk : IntKind.i64.wrap (((k + 1 : Nat) : Int) - 1) = (k : Int) := by rw [IntWalk.i64_in _ (by omega)]; omega
          have ec := hcmp.call l2 H2 hs2 _ (hs2.mem (i := k + 1) (by omega)) _ (hs2.mem (i := k) (by omega))
          simp -implicitDefEqProofs only [kz, kk0, kk1, kk2, kk3, ↓two_true, ↓two_false, oS_some, oM_some, mkv, aggAt, Nat.reduceLeDiff, Nat.reduceSub, Nat.reduceMul, implies_true, Nat.reduceEqDiff, reduceIte, Nat.reduceAdd, Nat.reduceBEq, reduceCtorEq, ix43, ld3, st3, h0, h1, h2, h3, h8, h9, d1, wk, Int.toNat_natCast, Nat.mul_one, rd_own hb, wrt_own hb, wrt_own (set_at hb), hcell (k + 1) (by omega), hcell k (by omega), arr21, Array.empty_append, Array.append_empty, ec, cmpI_lt]
          refine ⟨by omega, by omega, two_intro (fun hd => ?_) (fun hd => ?_)⟩
          · have hd' : D (gx l2 (k + 1)) < D (gx l2 k) := of_decide_eq_true hd
            refine ⟨by omega, by omega, by omega, by omega, by omega, by rw [List.length_set]; omega, (k, swp l2 (k + 1) k), by simp only; omega, rfl, by simp only; omega, by simp only; omega, ?_, hin.step (by omega) hji (by rw [hs2.lenl]; omega) hd', hm2.trans (Mv.swp (by omega) (by omega) (by omega) (by omega) (by rw [hs2.lenl]; omega))⟩
            rw [list_set_set]
            exact hs2.swap hb (by omega) (by omega)
          · have hd' : ¬ D (gx l2 (k + 1)) < D (gx l2 k) := of_decide_eq_false hd
            have wi : IntKind.i64.wrap ((i : Int) + 1) = ((i + 1 : Nat) : Int) := by rw [IntWalk.i64_in _ (by omega)]; omega
            rw [wi]
            exact ⟨(i + 1, l2), by simp only; omega, rfl, by simp only; omega, .inl hlt, hs2, by simp only; rw [Nat.min_eq_left (by omega)]; exact hin.stop (by omega) hji hd', by simp only; rw [Nat.min_eq_left (by omega)]; exact hm2⟩
        · have d1 : decide ((j : Int) > x) = false := decide_eq_false (by omega)
          simp -implicitDefEqProofs only [kz, kk0, kk1, kk2, kk3, ↓two_true, ↓two_false, oS_some, oM_some, mkv, aggAt, Nat.reduceLeDiff, Nat.reduceSub, Nat.reduceMul, implies_true, Nat.reduceEqDiff, reduceIte, Nat.reduceAdd, Nat.reduceBEq, reduceCtorEq, ix43, ld3, st3, h0, h1, h2, h3, h8, h9, d1]
          have hjx : j = x := by omega
          subst hjx
          have wi : IntKind.i64.wrap ((i : Int) + 1) = ((i + 1 : Nat) : Int) := by rw [IntWalk.i64_in _ (by omega)]; omega
          rw [wi]
          exact ⟨(i + 1, l2), by simp only; omega, rfl, by simp only; omega, .inl hlt, hs2, by simp only; rw [Nat.min_eq_left (by omega)]; exact hin.stop0, by simp only; rw [Nat.min_eq_left (by omega)]; exact hm2⟩
    · have hle : y ≤ i := by have : ¬ i < y := by simpa using hc
                             omega
      rw [Nat.min_eq_right hle] at hso hm
      exact ⟨l', hs, hso, hm⟩

theorem half_u {P : Program} {t : TypeId} {x y : Operand} {a : Nat} (h : a < 4611686018427387904) : aBin P .shr t x y (.int .u64 (IntKind.u64.wrap a)) (.int .u64 1) = some (.int .u64 ((a / 2 : Nat) : Int)) := by
  have e : IntKind.u64.wrap (a : Int) = a := by
    have e : IntKind.u64.wrap (a : Int) = ((a : Int) % 18446744073709551616) := by simp [IntKind.wrap, IntKind.bits, IntKind.signed]
    rw [e]; omega
  rw [e, bin_shr (by decide)]
  have e2 : (min (1 : Int).toNat IntKind.u64.bits) = 1 := by decide
  rw [e2]
  congr 2
  have : ((a : Int).fdiv (2 ^ 1)) = (a : Int) / 2 := by rw [Int.fdiv_eq_ediv_of_nonneg _ (by decide)]; rfl
  rw [this]; omega
theorem two_nl {p q : Nat} {R : Prop} (h : decide ((p : Int) < q) = false) : ¬ (p < q ∧ R) := fun ⟨h1, _⟩ => by
  rw [decide_eq_true (Int.ofNat_lt.2 h1)] at h; cases h
theorem two_nr {p q : Nat} {R : Prop} (h : decide ((p : Int) < q) = false) : ¬ (R ∧ p < q) := fun ⟨_, h1⟩ => by
  rw [decide_eq_true (Int.ofNat_lt.2 h1)] at h; cases h
theorem so_of {D : Int → Int} {t : List Int} {x s m : Nat} (q1 : SortS D t x s) (q2 : SortS D t s m) (h : ¬ (x < s ∧ s < m)) (h1 : x ≤ s) (h2 : s ≤ m) : SortS D t x m := by
  by_cases h9 : x = s
  · subst h9; exact q2
  · have : s = m := by omega
    subst this; exact q1
def SymOk (G : AH) (b o : Nat) (l0 : List Int) (g : FuncId) (cap : Value) (D : Int → Int) (d : Nat) : Prop := ∀ (H : AH) (l : List Int) (x m y : Nat), y - x ≤ d → SR G b o l0 l H → x < m → m < y → y ≤ l0.length → SortS D l x m → SortS D l m y → Ahd l x m y →
    CallsA Try.prog 191 #[.slice (some ⟨b, o, none⟩) l0.length 1, .int .i64 x, .int .i64 m, .int .i64 y, .func (.func g) #[] #[cap]] H fun r H' => ∃ l', SR G b o l0 l' H' ∧ SortS D l' x y ∧ Mv l l' x y
set_option maxHeartbeats 4000000 in
theorem symMerge_step {G : AH} {b o : Nat} {l0 : List Int} {g : FuncId} {cap : Value} {D : Int → Int} (hcmp : CmpOk Try.prog g cap G b o l0 D) (hn : l0.length ≤ 1048576) {d : Nat} (ih : SymOk G b o l0 g cap D d) : SymOk G b o l0 g cap D (d + 1) := by
    intro H l x m y hd h hxm hmy hy s1 s2 ha
    have w1 : IntKind.i64.wrap ((m : Int) - x) = ((m - x : Nat) : Int) := by rw [IntWalk.i64_in _ (by omega)]; omega
    have w2 : IntKind.i64.wrap ((y : Int) - m) = ((y - m : Nat) : Int) := by rw [IntWalk.i64_in _ (by omega)]; omega
    obtain ⟨cs, hb, hle, hcell⟩ := h.get
    refine w191 ?_
    unfold k191
    by_cases hA : m - x = 1
    · have e1 : (((m - x : Nat) : Int) == 1) = true := by simp; omega
      obtain rfl : m = x + 1 := by omega
      simp -implicitDefEqProofs only [kz, kk0, kk1, kk2, kk3, ↓two_true, ↓two_false, oS_some, oM_some, mkv, aggAt, Nat.reduceLeDiff, Nat.reduceSub, Nat.reduceMul, implies_true, Nat.reduceEqDiff, reduceIte, Nat.reduceAdd, Nat.reduceBEq, reduceCtorEq, cv3_177, cv177_3, ix43, ld3, st3, w1, e1]
      refine rW_loop (σ := Nat × Nat) (fun (i, j) tm H' => tm 0 = .slice (some ⟨b, o, none⟩) l0.length 1 ∧ tm 1 = .int .i64 x ∧ tm 3 = .int .i64 y ∧ tm 4 = .func (.func g) #[] #[cap] ∧ tm 10 = .int .i64 i ∧ tm 11 = .int .i64 j ∧ H' = H ∧ x + 1 ≤ i ∧ i ≤ j ∧ j ≤ y ∧ (∀ t, x + 1 ≤ t → t < i → D (gx l t) < D (gx l x)) ∧ (∀ t, j ≤ t → t < y → ¬ D (gx l t) < D (gx l x))) (fun s => s.2 - s.1) (x + 1, y) ?_ ?_
      · simp -implicitDefEqProofs [kk0, kk1, kk2, kk3, rW_block, ↓two_true, ↓two_false, rW_cond, rO_guard, oS_some, oM_some, mkv, aggAt, Nat.reduceLeDiff, Nat.reduceSub, Nat.reduceMul, cond_true, cond_false, Option.bind_some, List.length_append, List.length_cons, List.length_nil, List.append_assoc, List.cons_append, List.nil_append, List.set_cons_zero, List.set_cons_succ, List.size_toArray, List.all_cons, List.all_nil, List.drop_zero, List.drop_succ_cons, List.take_succ_cons, List.take_zero, List.mem_cons, Prod.mk.injEq, List.not_mem_nil, implies_true, List.getElem?_toArray, List.getElem?_cons_zero, List.getElem?_cons_succ, List.getElem?_nil, Option.getD_some, Option.getD_none, Nat.reduceEqDiff, reduceIte, Nat.reduceAdd, List.map_toArray, List.map_cons, List.map_nil, Bool.false_eq_true, Nat.reduceBEq, Option.map_some, Option.map_none, reduceCtorEq, cv3_177, cv177_3, ix43, ld3, st3]
        exact ⟨by omega, fun t t1 t2 => by omega, fun t t1 t2 => by omega⟩
      · rintro ⟨i, j⟩ tm H1 ⟨h0, hf0, hf1, h4, hti, htj, rfl, hli, hij, hjh, p1, p2⟩
        have w3 : IntKind.i64.wrap ((i : Int) + j) = ((i + j : Nat) : Int) := by rw [IntWalk.i64_in _ (by omega)]; omega
        have wh : IntKind.i64.wrap (((i + j) / 2 : Nat) : Int) = (((i + j) / 2 : Nat) : Int) := IntWalk.i64_in _ (by omega)
        have wh1 : IntKind.i64.wrap ((((i + j) / 2 : Nat) : Int) + 1) = (((i + j) / 2 + 1 : Nat) : Int) := by rw [IntWalk.i64_in _ (by omega)]; omega
        simp -implicitDefEqProofs only [kz, kk0, kk1, kk2, kk3, ↓two_true, ↓two_false, oS_some, oM_some, mkv, aggAt, Nat.reduceLeDiff, Nat.reduceSub, Nat.reduceMul, implies_true, Nat.reduceEqDiff, reduceIte, Nat.reduceAdd, Nat.reduceBEq, reduceCtorEq, cv3_177, cv177_3, ix43, ld3, st3, h0, hf0, hf1, h4, hti, htj]
        refine two_intro (fun hc => ?_) (fun hc => ?_)
        · have hlt : i < j := by simpa using hc
          have ec := hcmp.call l H1 h _ (h.mem (i := (i + j) / 2) (by omega)) _ (h.mem (i := x) (by omega))
          simp -implicitDefEqProofs only [kz, kk0, kk1, kk2, kk3, ↓two_true, ↓two_false, oS_some, oM_some, mkv, aggAt, Nat.reduceLeDiff, Nat.reduceSub, Nat.reduceMul, implies_true, Nat.reduceEqDiff, reduceIte, Nat.reduceAdd, Nat.reduceBEq, reduceCtorEq, cv3_177, cv177_3, ix43, ld3, st3, h0, hf0, hf1, h4, hti, htj, w3, half_u (show i + j < 4611686018427387904 by omega), wh, wh1,  Int.toNat_natCast, Nat.mul_one, rd_own hb, hcell ((i + j) / 2) (by omega), hcell (x) (by omega), arr21, Array.empty_append, Array.append_empty, ec, cmpI_lt]
          refine ⟨by omega, by omega, two_intro (fun hd => ?_) (fun hd => ?_)⟩
          · exact ⟨((i + j) / 2 + 1, j), by simp only; omega, rfl, rfl, by simp only; omega, by simp only; omega, hjh, fun t t1 t2 => by have := s2.le (i := t) (j := (i + j) / 2) t1 (by simp only at t2; omega) (by omega); have := of_decide_eq_true hd; omega, p2⟩
          · exact ⟨(i, (i + j) / 2), by simp only; omega, rfl, rfl, hli, by simp only; omega, by simp only; omega, p1, fun t t1 t2 => by have := s2.le (i := (i + j) / 2) (j := t) (by omega) t1 t2; have := of_decide_eq_false hd; omega⟩
        · have hij : i = j := by have : ¬ i < j := by simpa using hc
                                 omega
          subst hij
          have wi : IntKind.i64.wrap ((i : Int) - 1) = ((i - 1 : Nat) : Int) := by rw [IntWalk.i64_in _ (by omega)]; omega
          refine rW_loop (σ := Nat × List Int) (fun (k, l') tm H' => tm 0 = .slice (some ⟨b, o, none⟩) l0.length 1 ∧ tm 10 = .int .i64 i ∧ tm 13 = .int .i64 k ∧ x ≤ k ∧ k ≤ i - 1 ∧ SR G b o l0 l' H' ∧ Up1 l l' x k ∧ Mv l l' x y) (fun s => i - 1 - s.1) (x, l) ?_ ?_
          · simp -implicitDefEqProofs [kk0, kk1, kk2, kk3, rW_block, ↓two_true, ↓two_false, rW_cond, rO_guard, oS_some, oM_some, mkv, aggAt, Nat.reduceLeDiff, Nat.reduceSub, Nat.reduceMul, cond_true, cond_false, Option.bind_some, List.length_append, List.length_cons, List.length_nil, List.append_assoc, List.cons_append, List.nil_append, List.set_cons_zero, List.set_cons_succ, List.size_toArray, List.all_cons, List.all_nil, List.drop_zero, List.drop_succ_cons, List.take_succ_cons, List.take_zero, List.mem_cons, Prod.mk.injEq, List.not_mem_nil, implies_true, List.getElem?_toArray, List.getElem?_cons_zero, List.getElem?_cons_succ, List.getElem?_nil, Option.getD_some, Option.getD_none, Nat.reduceEqDiff, reduceIte, Nat.reduceAdd, List.map_toArray, List.map_cons, List.map_nil, Bool.false_eq_true, Nat.reduceBEq, Option.map_some, Option.map_none, reduceCtorEq, cv3_177, cv177_3, ix43, ld3, st3, h0, hf0, hf1, hti]
            exact ⟨by omega, h, Up1.zero, Mv.refl⟩
          · rintro ⟨k, l'⟩ tm H2 ⟨h0, h10, h13, hxk, hki, hs, hu, hm⟩
            simp -implicitDefEqProofs only [kz, kk0, kk1, kk2, kk3, ↓two_true, ↓two_false, oS_some, oM_some, mkv, aggAt, Nat.reduceLeDiff, Nat.reduceSub, Nat.reduceMul, implies_true, Nat.reduceEqDiff, reduceIte, Nat.reduceAdd, Nat.reduceBEq, reduceCtorEq, cv3_177, cv177_3, ix43, ld3, st3, h0, h10, h13, wi]
            refine two_intro (fun hc => ?_) (fun hc => ?_)
            · have hlt : k < i - 1 := by have := of_decide_eq_true hc; omega
              obtain ⟨cs, hb, hle, hcell⟩ := hs.get
              have wk : IntKind.i64.wrap ((k : Int) + 1) = ((k + 1 : Nat) : Int) := by rw [IntWalk.i64_in _ (by omega)]; omega
              simp -implicitDefEqProofs only [kz, kk0, kk1, kk2, kk3, ↓two_true, ↓two_false, oS_some, oM_some, mkv, aggAt, Nat.reduceLeDiff, Nat.reduceSub, Nat.reduceMul, implies_true, Nat.reduceEqDiff, reduceIte, Nat.reduceAdd, Nat.reduceBEq, reduceCtorEq, cv3_177, cv177_3, ix43, ld3, st3, h0, h10, h13, wi, wk, Int.toNat_natCast, Nat.mul_one, rd_own hb, wrt_own hb, wrt_own (set_at hb), hcell k (by omega), hcell (k + 1) (by omega)]
              refine ⟨by omega, by omega, by omega, by omega, by omega, by rw [List.length_set]; omega, (k + 1, swp l' k (k + 1)), by simp only; omega, rfl, by simp only; omega, by simp only; omega, ?_, hu.step hxk (by rw [hs.lenl]; omega), hm.trans (Mv.swp (by omega) (by omega) (by omega) (by omega) (by rw [hs.lenl]; omega))⟩
              rw [list_set_set]
              exact hs.swap hb (by omega) (by omega)
            · have hk : k = i - 1 := by have := of_decide_eq_false hc; omega
              subst hk
              exact ⟨l', hs, merge_front s2 ha hli hjh p1 p2 hu, hm⟩
    have e1 : (((m - x : Nat) : Int) == 1) = false := beq_eq_false_iff_ne.2 (by omega)
    by_cases hB : y - m = 1
    · have e2 : (((y - m : Nat) : Int) == 1) = true := by simp; omega
      obtain rfl : y = m + 1 := by omega
      simp -implicitDefEqProofs only [kz, kk0, kk1, kk2, kk3, ↓two_true, ↓two_false, oS_some, oM_some, mkv, aggAt, Nat.reduceLeDiff, Nat.reduceSub, Nat.reduceMul, implies_true, Nat.reduceEqDiff, reduceIte, Nat.reduceAdd, Nat.reduceBEq, reduceCtorEq, cv3_177, cv177_3, ix43, ld3, st3, w1, w2, e1, e2]
      refine rW_loop (σ := Nat × Nat) (fun (i, j) tm H' => tm 0 = .slice (some ⟨b, o, none⟩) l0.length 1 ∧ tm 2 = .int .i64 m ∧ tm 4 = .func (.func g) #[] #[cap] ∧ tm 14 = .int .i64 i ∧ tm 15 = .int .i64 j ∧ H' = H ∧ x ≤ i ∧ i ≤ j ∧ j ≤ m ∧ (∀ t, x ≤ t → t < i → ¬ D (gx l m) < D (gx l t)) ∧ (∀ t, j ≤ t → t < m → D (gx l m) < D (gx l t))) (fun s => s.2 - s.1) (x, m) ?_ ?_
      · simp -implicitDefEqProofs [kk0, kk1, kk2, kk3, rW_block, ↓two_true, ↓two_false, rW_cond, rO_guard, oS_some, oM_some, mkv, aggAt, Nat.reduceLeDiff, Nat.reduceSub, Nat.reduceMul, cond_true, cond_false, Option.bind_some, List.length_append, List.length_cons, List.length_nil, List.append_assoc, List.cons_append, List.nil_append, List.set_cons_zero, List.set_cons_succ, List.size_toArray, List.all_cons, List.all_nil, List.drop_zero, List.drop_succ_cons, List.take_succ_cons, List.take_zero, List.mem_cons, Prod.mk.injEq, List.not_mem_nil, implies_true, List.getElem?_toArray, List.getElem?_cons_zero, List.getElem?_cons_succ, List.getElem?_nil, Option.getD_some, Option.getD_none, Nat.reduceEqDiff, reduceIte, Nat.reduceAdd, List.map_toArray, List.map_cons, List.map_nil, Bool.false_eq_true, Nat.reduceBEq, Option.map_some, Option.map_none, reduceCtorEq, cv3_177, cv177_3, ix43, ld3, st3]
        exact ⟨by omega, fun t t1 t2 => by omega, fun t t1 t2 => by omega⟩
      · rintro ⟨i, j⟩ tm H1 ⟨h0, hf0, h4, hti, htj, rfl, hli, hij, hjh, p1, p2⟩
        have w3 : IntKind.i64.wrap ((i : Int) + j) = ((i + j : Nat) : Int) := by rw [IntWalk.i64_in _ (by omega)]; omega
        have wh : IntKind.i64.wrap (((i + j) / 2 : Nat) : Int) = (((i + j) / 2 : Nat) : Int) := IntWalk.i64_in _ (by omega)
        have wh1 : IntKind.i64.wrap ((((i + j) / 2 : Nat) : Int) + 1) = (((i + j) / 2 + 1 : Nat) : Int) := by rw [IntWalk.i64_in _ (by omega)]; omega
        simp -implicitDefEqProofs only [kz, kk0, kk1, kk2, kk3, ↓two_true, ↓two_false, oS_some, oM_some, mkv, aggAt, Nat.reduceLeDiff, Nat.reduceSub, Nat.reduceMul, implies_true, Nat.reduceEqDiff, reduceIte, Nat.reduceAdd, Nat.reduceBEq, reduceCtorEq, cv3_177, cv177_3, ix43, ld3, st3, h0, hf0, h4, hti, htj]
        refine two_intro (fun hc => ?_) (fun hc => ?_)
        · have hlt : i < j := by simpa using hc
          have ec := hcmp.call l H1 h _ (h.mem (i := m) (by omega)) _ (h.mem (i := (i + j) / 2) (by omega))
          simp -implicitDefEqProofs only [kz, kk0, kk1, kk2, kk3, ↓two_true, ↓two_false, oS_some, oM_some, mkv, aggAt, Nat.reduceLeDiff, Nat.reduceSub, Nat.reduceMul, implies_true, Nat.reduceEqDiff, reduceIte, Nat.reduceAdd, Nat.reduceBEq, reduceCtorEq, cv3_177, cv177_3, ix43, ld3, st3, h0, hf0, h4, hti, htj, w3, half_u (show i + j < 4611686018427387904 by omega), wh, wh1,  Int.toNat_natCast, Nat.mul_one, rd_own hb, hcell (m) (by omega), hcell ((i + j) / 2) (by omega), arr21, Array.empty_append, Array.append_empty, ec, cmpI_lt]
          refine ⟨by omega, by omega, two_intro (fun hd => ?_) (fun hd => ?_)⟩
          · exact ⟨((i + j) / 2 + 1, j), by simp only; omega, rfl, rfl, by simp only; omega, by simp only; omega, hjh, fun t t1 t2 => by have h8 := s1.le (i := t) (j := (i + j) / 2) t1 (by simp only at t2; omega) (by omega); have h9 := (show ¬ D (gx l m) < D (gx l ((i + j) / 2)) from by simpa using hd); omega, p2⟩
          · exact ⟨(i, (i + j) / 2), by simp only; omega, rfl, rfl, hli, by simp only; omega, by simp only; omega, p1, fun t t1 t2 => by have h8 := s1.le (i := (i + j) / 2) (j := t) (by omega) t1 t2; have h9 := (show D (gx l m) < D (gx l ((i + j) / 2)) from by simpa using hd); omega⟩
        · have hij : i = j := by have : ¬ i < j := by simpa using hc
                                 omega
          subst hij
          refine rW_loop (σ := Nat × List Int) (fun (k, l') tm H' => tm 0 = .slice (some ⟨b, o, none⟩) l0.length 1 ∧ tm 14 = .int .i64 i ∧ tm 17 = .int .i64 k ∧ i ≤ k ∧ k ≤ m ∧ SR G b o l0 l' H' ∧ Dn1 l l' k m ∧ Mv l l' x (m + 1)) (fun s => s.1) (m, l) ?_ ?_
          · simp -implicitDefEqProofs [kk0, kk1, kk2, kk3, rW_block, ↓two_true, ↓two_false, rW_cond, rO_guard, oS_some, oM_some, mkv, aggAt, Nat.reduceLeDiff, Nat.reduceSub, Nat.reduceMul, cond_true, cond_false, Option.bind_some, List.length_append, List.length_cons, List.length_nil, List.append_assoc, List.cons_append, List.nil_append, List.set_cons_zero, List.set_cons_succ, List.size_toArray, List.all_cons, List.all_nil, List.drop_zero, List.drop_succ_cons, List.take_succ_cons, List.take_zero, List.mem_cons, Prod.mk.injEq, List.not_mem_nil, implies_true, List.getElem?_toArray, List.getElem?_cons_zero, List.getElem?_cons_succ, List.getElem?_nil, Option.getD_some, Option.getD_none, Nat.reduceEqDiff, reduceIte, Nat.reduceAdd, List.map_toArray, List.map_cons, List.map_nil, Bool.false_eq_true, Nat.reduceBEq, Option.map_some, Option.map_none, reduceCtorEq, cv3_177, cv177_3, ix43, ld3, st3, h0, hf0, hti]
            exact ⟨by omega, h, Dn1.zero, Mv.refl⟩
          · rintro ⟨k, l'⟩ tm H2 ⟨h0, h10, h13, hik, hkm, hs, hu, hm⟩
            simp -implicitDefEqProofs only [kz, kk0, kk1, kk2, kk3, ↓two_true, ↓two_false, oS_some, oM_some, mkv, aggAt, Nat.reduceLeDiff, Nat.reduceSub, Nat.reduceMul, implies_true, Nat.reduceEqDiff, reduceIte, Nat.reduceAdd, Nat.reduceBEq, reduceCtorEq, cv3_177, cv177_3, ix43, ld3, st3, h0, h10, h13]
            refine two_intro (fun hc => ?_) (fun hc => ?_)
            · have hlt : i < k := by have := of_decide_eq_true hc; omega
              obtain ⟨k, rfl⟩ : ∃ k', k = k' + 1 := ⟨k - 1, by omega⟩
              obtain ⟨cs, hb, hle, hcell⟩ := hs.get
              have wk : IntKind.i64.wrap (((k + 1 : Nat) : Int) - 1) = (k : Int) := by rw [IntWalk.i64_in _ (by omega)]; omega
              simp -implicitDefEqProofs only [kz, kk0, kk1, kk2, kk3, ↓two_true, ↓two_false, oS_some, oM_some, mkv, aggAt, Nat.reduceLeDiff, Nat.reduceSub, Nat.reduceMul, implies_true, Nat.reduceEqDiff, reduceIte, Nat.reduceAdd, Nat.reduceBEq, reduceCtorEq, cv3_177, cv177_3, ix43, ld3, st3, h0, h10, h13, wk, Int.toNat_natCast, Nat.mul_one, rd_own hb, wrt_own hb, wrt_own (set_at hb), hcell k (by omega), hcell (k + 1) (by omega)]
              refine ⟨by omega, by omega, by omega, by omega, by omega, by rw [List.length_set]; omega, (k, swp l' (k + 1) k), by simp only; omega, rfl, by simp only; omega, by simp only; omega, ?_, hu.step hkm (by rw [hs.lenl]; omega), hm.trans (Mv.swp (by omega) (by omega) (by omega) (by omega) (by rw [hs.lenl]; omega))⟩
              rw [list_set_set]
              exact hs.swap hb (by omega) (by omega)
            · have hk : k = i := by have := of_decide_eq_false hc; omega
              subst hk
              exact ⟨l', hs, merge_back s1 ha hli hjh p1 p2 hu, hm⟩
    have e2 : (((y - m : Nat) : Int) == 1) = false := beq_eq_false_iff_ne.2 (by omega)
    have w5 : IntKind.i64.wrap ((x : Int) + y) = ((x + y : Nat) : Int) := by rw [IntWalk.i64_in _ (by omega)]; omega
    have wh : IntKind.i64.wrap (((x + y) / 2 : Nat) : Int) = (((x + y) / 2 : Nat) : Int) := IntWalk.i64_in _ (by omega)
    have hhu := half_u (P := Try.prog) (t := 177) (x := .tmp 132) (y := .const (.int .u64 1)) (show x + y < 4611686018427387904 by omega)
    obtain ⟨mid, hmd⟩ : ∃ mid, mid = (x + y) / 2 := ⟨_, rfl⟩
    rw [← hmd] at wh hhu
    have w6 : IntKind.i64.wrap ((mid : Int) + m) = ((mid + m : Nat) : Int) := by rw [IntWalk.i64_in _ (by omega)]; omega
    have w7 : IntKind.i64.wrap (((mid + m : Nat) : Int) - 1) = ((mid + m - 1 : Nat) : Int) := by rw [IntWalk.i64_in _ (by omega)]; omega
    by_cases hM : mid < m
    · have dM : decide ((m : Int) > mid) = true := decide_eq_true (by omega)
      have w8 : IntKind.i64.wrap (((mid + m : Nat) : Int) - y) = ((mid + m - y : Nat) : Int) := by rw [IntWalk.i64_in _ (by omega)]; omega
      simp -implicitDefEqProofs only [kz, kk0, kk1, kk2, kk3, ↓two_true, ↓two_false, oS_some, oM_some, mkv, aggAt, Nat.reduceLeDiff, Nat.reduceSub, Nat.reduceMul, implies_true, Nat.reduceEqDiff, reduceIte, Nat.reduceAdd, Nat.reduceBEq, reduceCtorEq, cv3_177, cv177_3, ix43, ld3, st3, w1, w2, e1, e2, w5, hhu, wh, w6, w7, w8, dM]
      refine rW_loop (σ := Nat × Nat) (fun (s, r) tm H' => tm 0 = .slice (some ⟨b, o, none⟩) l0.length 1 ∧ tm 1 = .int .i64 x ∧ tm 2 = .int .i64 m ∧ tm 3 = .int .i64 y ∧ tm 4 = .func (.func g) #[] #[cap] ∧ tm 18 = .int .i64 mid ∧ tm 19 = .int .i64 (mid + m : Nat) ∧ tm 20 = .int .i64 s ∧ tm 21 = .int .i64 r ∧ tm 22 = .int .i64 (mid + m - 1 : Nat) ∧ H' = H ∧ (mid + m - y) ≤ s ∧ s ≤ r ∧ r ≤ mid ∧ (s = (mid + m - y) ∨ ¬ D (gx l (mid + m - s)) < D (gx l (s - 1))) ∧ (r = mid ∨ D (gx l (mid + m - 1 - r)) < D (gx l r))) (fun s => s.2 - s.1) ((mid + m - y), mid) ?_ ?_
      · simp -implicitDefEqProofs [kk0, kk1, kk2, kk3, rW_block, ↓two_true, ↓two_false, rW_cond, rO_guard, oS_some, oM_some, mkv, aggAt, Nat.reduceLeDiff, Nat.reduceSub, Nat.reduceMul, cond_true, cond_false, Option.bind_some, List.length_append, List.length_cons, List.length_nil, List.append_assoc, List.cons_append, List.nil_append, List.set_cons_zero, List.set_cons_succ, List.size_toArray, List.all_cons, List.all_nil, List.drop_zero, List.drop_succ_cons, List.take_succ_cons, List.take_zero, List.mem_cons, Prod.mk.injEq, List.not_mem_nil, implies_true, List.getElem?_toArray, List.getElem?_cons_zero, List.getElem?_cons_succ, List.getElem?_nil, Option.getD_some, Option.getD_none, Nat.reduceEqDiff, reduceIte, Nat.reduceAdd, List.map_toArray, List.map_cons, List.map_nil, Bool.false_eq_true, Nat.reduceBEq, Option.map_some, Option.map_none, reduceCtorEq, cv3_177, cv177_3, ix43, ld3, st3]
        omega
      · rintro ⟨st, r⟩ tm H1 ⟨h0, hf0, hf1, hf2, h4, h18, h19, h20, h21, h22, rfl, hls, hsr, hrh, p1, p2⟩
        have w3 : IntKind.i64.wrap ((st : Int) + r) = ((st + r : Nat) : Int) := by rw [IntWalk.i64_in _ (by omega)]; omega
        by_cases hlt : st < r
        · have dlt : decide ((st : Int) < r) = true := decide_eq_true (by omega)
          have hcb : st ≤ (st + r) / 2 ∧ (st + r) / 2 < r := by omega
          have wh : IntKind.i64.wrap (((st + r) / 2 : Nat) : Int) = (((st + r) / 2 : Nat) : Int) := IntWalk.i64_in _ (by omega)
          have hhu := half_u (P := Try.prog) (t := 177) (x := .tmp 155) (y := .const (.int .u64 1)) (show st + r < 4611686018427387904 by omega)
          generalize (st + r) / 2 = c at *
          have wh1 : IntKind.i64.wrap ((c : Int) + 1) = ((c + 1 : Nat) : Int) := by rw [IntWalk.i64_in _ (by omega)]; omega
          have wpc : IntKind.i64.wrap (((mid + m - 1 : Nat) : Int) - c) = ((mid + m - 1 - c : Nat) : Int) := by rw [IntWalk.i64_in _ (by omega)]; omega
          have ec := hcmp.call l H1 h _ (h.mem (i := mid + m - 1 - c) (by omega)) _ (h.mem (i := c) (by omega))
          simp -implicitDefEqProofs only [kz, kk0, kk1, kk2, kk3, ↓two_true, ↓two_false, oS_some, oM_some, mkv, aggAt, Nat.reduceLeDiff, Nat.reduceSub, Nat.reduceMul, implies_true, Nat.reduceEqDiff, reduceIte, Nat.reduceAdd, Nat.reduceBEq, reduceCtorEq, cv3_177, cv177_3, ix43, ld3, st3, h0, hf0, hf1, hf2, h4, h18, h19, h20, h21, h22, dlt, w3, hhu, wh, wh1, wpc, Int.toNat_natCast, Nat.mul_one, rd_own hb, hcell (mid + m - 1 - c) (by omega), hcell c (by omega), arr21, Array.empty_append, Array.append_empty, ec, cmpI_lt]
          refine ⟨by omega, by omega, two_intro (fun hd => ?_) (fun hd => ?_)⟩
          · have h9 : ¬ D (gx l (mid + m - 1 - c)) < D (gx l c) := by simpa using hd
            exact ⟨(c + 1, r), by simp only; omega, rfl, rfl, by simp only; omega, by simp only; omega, hrh, .inr (by simp only [Nat.add_sub_cancel]; rw [show mid + m - (c + 1) = mid + m - 1 - c by omega]; exact h9), p2⟩
          · have h9 : D (gx l (mid + m - 1 - c)) < D (gx l c) := by simpa using hd
            exact ⟨(st, c), by simp only; omega, rfl, rfl, hls, by simp only; omega, by simp only; omega, p1, .inr h9⟩
        · have dlt : decide ((st : Int) < r) = false := decide_eq_false (by omega)
          obtain rfl : st = r := by omega
          obtain ⟨en, hen0⟩ : ∃ en, en = mid + m - st := ⟨_, rfl⟩
          have wen : IntKind.i64.wrap (((mid + m : Nat) : Int) - st) = (en : Int) := by rw [IntWalk.i64_in _ (by omega)]; omega
          have hst0 : x ≤ st := by omega
          have hstm : st ≤ m := by omega
          have hme : m ≤ en := by omega
          have hen : en ≤ y := by omega
          have hmid : mid + m = st + en := by omega
          have hp1 : x < st → en < y → ¬ D (gx l en) < D (gx l (st - 1)) := fun a1 a2 => by
            rcases p1 with p1 | p1
            · omega
            · rw [hen0]; exact p1
          have hp2 : st < m → m < en → D (gx l (en - 1)) < D (gx l st) := fun a1 a2 => by
            rcases p2 with p2 | p2
            · omega
            · rw [show en - 1 = mid + m - 1 - st by omega]; exact p2
          simp -implicitDefEqProofs only [kz, kk0, kk1, kk2, kk3, ↓two_true, ↓two_false, oS_some, oM_some, mkv, aggAt, Nat.reduceLeDiff, Nat.reduceSub, Nat.reduceMul, implies_true, Nat.reduceEqDiff, reduceIte, Nat.reduceAdd, Nat.reduceBEq, reduceCtorEq, cv3_177, cv177_3, ix43, ld3, st3, h0, hf0, hf1, hf2, h4, h18, h19, h20, h21, h22, dlt, wen]
          clear w1 w2 e1 e2 w5 wh hhu w6 w7 dM w3 dlt hcell hle hb p1 p2 hls hsr hrh hlt hen0 wen
          have hmx2 : x ≤ mid := by omega
          have hmy2 : mid ≤ y := by omega
          have hen2 : mid ≤ en := by omega
          have hst2 : st ≤ mid := by omega
          have hd1 : mid - x ≤ d := by omega
          have hd2 : y - mid ≤ d := by omega
          have hmidl : mid ≤ l0.length := by omega
          have henl : en ≤ l0.length := by omega
          refine two_intro (fun c1 => two_intro (fun c2 => ?_) (fun c2 => ?_)) (fun c1 => ?_)
          · have g1 : st < m := Int.ofNat_lt.1 (of_decide_eq_true c1)
            have g2 : m < en := Int.ofNat_lt.1 (of_decide_eq_true c2)
            refine (rotate_ok h hn g1 g2 henl).mono ?_
            rintro _ H2 ⟨t, srt, rot, mvt⟩
            have mvw := mvt.wide hst0 hen
            simp -implicitDefEqProofs only [kz, kk0, kk1, kk2, kk3, ↓two_true, ↓two_false, oS_some, oM_some, mkv, aggAt, Nat.reduceLeDiff, Nat.reduceSub, Nat.reduceMul, implies_true, Nat.reduceEqDiff, reduceIte, Nat.reduceAdd, Nat.reduceBEq, reduceCtorEq, cv3_177, cv177_3, ix43, ld3, st3, h0, hf0, hf1, hf2, h4, h18, h19, h20, h21, h22]
            obtain ⟨q1, q2, q3⟩ := halves_left s1 s2 ha rot hst0 hstm hme hen hmid
            obtain ⟨q4, q5, q6⟩ := halves_right s1 s2 ha rot hst0 hstm hme hen hmid
            have hcr := halves_cross s1 s2 ha rot hst0 hstm hme hen hmid hp1 hp2
            refine two_intro (fun a1 => two_intro (fun a2 => ?_) (fun a2 => ?_)) (fun a1 => ?_)
            · have b1 : x < st := Int.ofNat_lt.1 (of_decide_eq_true a1)
              have b2 : st < mid := Int.ofNat_lt.1 (of_decide_eq_true a2)
              refine (ih _ _ x st mid hd1 srt b1 b2 hmidl q1 q2 q3).mono ?_
              rintro _ Ha ⟨t1, sr1, so1, mv1⟩
              have q4 := q4.mv (l' := t1) fun i i1 _ => mv1.out i (.inr i1)
              have q5 := q5.mv (l' := t1) fun i i1 _ => mv1.out i (.inr (Nat.le_trans hen2 i1))
              have q6 : Ahd t1 mid en y := fun p q p1 p2 p3 p4 => by rw [mv1.out p (.inr p1), mv1.out q (.inr (Nat.le_trans hen2 p3))]; exact q6 p q p1 p2 p3 p4
              simp -implicitDefEqProofs only [kz, kk0, kk1, kk2, kk3, ↓two_true, ↓two_false, oS_some, oM_some, mkv, aggAt, Nat.reduceLeDiff, Nat.reduceSub, Nat.reduceMul, implies_true, Nat.reduceEqDiff, reduceIte, Nat.reduceAdd, Nat.reduceBEq, reduceCtorEq, cv3_177, cv177_3, ix43, ld3, st3, h0, hf0, hf1, hf2, h4, h18, h19, h20, h21, h22]
              refine two_intro (fun a1 => two_intro (fun a2 => ?_) (fun a2 => ?_)) (fun a1 => ?_)
              · have b1 : mid < en := Int.ofNat_lt.1 (of_decide_eq_true a1)
                have b2 : en < y := Int.ofNat_lt.1 (of_decide_eq_true a2)
                refine (ih _ _ mid en y hd2 sr1 b1 b2 hy q4 q5 q6).mono ?_
                rintro _ Hb ⟨t2, sr2, so2, mv2⟩
                simp -implicitDefEqProofs only [kz, kk0, kk1, kk2, kk3, ↓two_true, ↓two_false, oS_some, oM_some, mkv, aggAt, Nat.reduceLeDiff, Nat.reduceSub, Nat.reduceMul, implies_true, Nat.reduceEqDiff, reduceIte, Nat.reduceAdd, Nat.reduceBEq, reduceCtorEq, cv3_177, cv177_3, ix43, ld3, st3, h0, hf0, hf1, hf2, h4, h18, h19, h20, h21, h22]
                exact ⟨t2, sr2, halves_join hcr mv1 mv2 so1 so2, (mvw).trans ((Mv.wide mv1 (Nat.le_refl _) hmy2).trans (mv2.wide hmx2 (Nat.le_refl _)))⟩
              · exact ⟨t1, sr1, halves_join hcr mv1 Mv.refl so1 (so_of q4 q5 (two_nr a2) hen2 hen), (mvw).trans (Mv.wide mv1 (Nat.le_refl _) hmy2)⟩
              · exact ⟨t1, sr1, halves_join hcr mv1 Mv.refl so1 (so_of q4 q5 (two_nl a1) hen2 hen), (mvw).trans (Mv.wide mv1 (Nat.le_refl _) hmy2)⟩
            · have so1 := so_of q1 q2 (two_nr a2) hst0 hst2
              refine two_intro (fun a1 => two_intro (fun a2 => ?_) (fun a2 => ?_)) (fun a1 => ?_)
              · have b1 : mid < en := Int.ofNat_lt.1 (of_decide_eq_true a1)
                have b2 : en < y := Int.ofNat_lt.1 (of_decide_eq_true a2)
                refine (ih _ _ mid en y hd2 srt b1 b2 hy q4 q5 q6).mono ?_
                rintro _ Hb ⟨t2, sr2, so2, mv2⟩
                simp -implicitDefEqProofs only [kz, kk0, kk1, kk2, kk3, ↓two_true, ↓two_false, oS_some, oM_some, mkv, aggAt, Nat.reduceLeDiff, Nat.reduceSub, Nat.reduceMul, implies_true, Nat.reduceEqDiff, reduceIte, Nat.reduceAdd, Nat.reduceBEq, reduceCtorEq, cv3_177, cv177_3, ix43, ld3, st3, h0, hf0, hf1, hf2, h4, h18, h19, h20, h21, h22]
                exact ⟨t2, sr2, halves_join hcr (Mv.refl : Mv t t x mid) mv2 so1 so2, (mvw).trans ((Mv.wide (Mv.refl : Mv t t x mid) (Nat.le_refl _) hmy2).trans (mv2.wide hmx2 (Nat.le_refl _)))⟩
              · exact ⟨t, srt, halves_join hcr (Mv.refl : Mv t t x mid) Mv.refl so1 (so_of q4 q5 (two_nr a2) hen2 hen), (mvw).trans (Mv.wide (Mv.refl : Mv t t x mid) (Nat.le_refl _) hmy2)⟩
              · exact ⟨t, srt, halves_join hcr (Mv.refl : Mv t t x mid) Mv.refl so1 (so_of q4 q5 (two_nl a1) hen2 hen), (mvw).trans (Mv.wide (Mv.refl : Mv t t x mid) (Nat.le_refl _) hmy2)⟩
            · have so1 := so_of q1 q2 (two_nl a1) hst0 hst2
              refine two_intro (fun a1 => two_intro (fun a2 => ?_) (fun a2 => ?_)) (fun a1 => ?_)
              · have b1 : mid < en := Int.ofNat_lt.1 (of_decide_eq_true a1)
                have b2 : en < y := Int.ofNat_lt.1 (of_decide_eq_true a2)
                refine (ih _ _ mid en y hd2 srt b1 b2 hy q4 q5 q6).mono ?_
                rintro _ Hb ⟨t2, sr2, so2, mv2⟩
                simp -implicitDefEqProofs only [kz, kk0, kk1, kk2, kk3, ↓two_true, ↓two_false, oS_some, oM_some, mkv, aggAt, Nat.reduceLeDiff, Nat.reduceSub, Nat.reduceMul, implies_true, Nat.reduceEqDiff, reduceIte, Nat.reduceAdd, Nat.reduceBEq, reduceCtorEq, cv3_177, cv177_3, ix43, ld3, st3, h0, hf0, hf1, hf2, h4, h18, h19, h20, h21, h22]
                exact ⟨t2, sr2, halves_join hcr (Mv.refl : Mv t t x mid) mv2 so1 so2, (mvw).trans ((Mv.wide (Mv.refl : Mv t t x mid) (Nat.le_refl _) hmy2).trans (mv2.wide hmx2 (Nat.le_refl _)))⟩
              · exact ⟨t, srt, halves_join hcr (Mv.refl : Mv t t x mid) Mv.refl so1 (so_of q4 q5 (two_nr a2) hen2 hen), (mvw).trans (Mv.wide (Mv.refl : Mv t t x mid) (Nat.le_refl _) hmy2)⟩
              · exact ⟨t, srt, halves_join hcr (Mv.refl : Mv t t x mid) Mv.refl so1 (so_of q4 q5 (two_nl a1) hen2 hen), (mvw).trans (Mv.wide (Mv.refl : Mv t t x mid) (Nat.le_refl _) hmy2)⟩
          · have rot : Rot l l st m en := Rot.self (.inr (Nat.le_of_not_lt fun e => two_nl (R := True) c2 ⟨e, trivial⟩))
            obtain ⟨q1, q2, q3⟩ := halves_left s1 s2 ha rot hst0 hstm hme hen hmid
            obtain ⟨q4, q5, q6⟩ := halves_right s1 s2 ha rot hst0 hstm hme hen hmid
            have hcr := halves_cross s1 s2 ha rot hst0 hstm hme hen hmid hp1 hp2
            refine two_intro (fun a1 => two_intro (fun a2 => ?_) (fun a2 => ?_)) (fun a1 => ?_)
            · have b1 : x < st := Int.ofNat_lt.1 (of_decide_eq_true a1)
              have b2 : st < mid := Int.ofNat_lt.1 (of_decide_eq_true a2)
              refine (ih _ _ x st mid hd1 h b1 b2 hmidl q1 q2 q3).mono ?_
              rintro _ Ha ⟨t1, sr1, so1, mv1⟩
              have q4 := q4.mv (l' := t1) fun i i1 _ => mv1.out i (.inr i1)
              have q5 := q5.mv (l' := t1) fun i i1 _ => mv1.out i (.inr (Nat.le_trans hen2 i1))
              have q6 : Ahd t1 mid en y := fun p q p1 p2 p3 p4 => by rw [mv1.out p (.inr p1), mv1.out q (.inr (Nat.le_trans hen2 p3))]; exact q6 p q p1 p2 p3 p4
              simp -implicitDefEqProofs only [kz, kk0, kk1, kk2, kk3, ↓two_true, ↓two_false, oS_some, oM_some, mkv, aggAt, Nat.reduceLeDiff, Nat.reduceSub, Nat.reduceMul, implies_true, Nat.reduceEqDiff, reduceIte, Nat.reduceAdd, Nat.reduceBEq, reduceCtorEq, cv3_177, cv177_3, ix43, ld3, st3, h0, hf0, hf1, hf2, h4, h18, h19, h20, h21, h22]
              refine two_intro (fun a1 => two_intro (fun a2 => ?_) (fun a2 => ?_)) (fun a1 => ?_)
              · have b1 : mid < en := Int.ofNat_lt.1 (of_decide_eq_true a1)
                have b2 : en < y := Int.ofNat_lt.1 (of_decide_eq_true a2)
                refine (ih _ _ mid en y hd2 sr1 b1 b2 hy q4 q5 q6).mono ?_
                rintro _ Hb ⟨t2, sr2, so2, mv2⟩
                simp -implicitDefEqProofs only [kz, kk0, kk1, kk2, kk3, ↓two_true, ↓two_false, oS_some, oM_some, mkv, aggAt, Nat.reduceLeDiff, Nat.reduceSub, Nat.reduceMul, implies_true, Nat.reduceEqDiff, reduceIte, Nat.reduceAdd, Nat.reduceBEq, reduceCtorEq, cv3_177, cv177_3, ix43, ld3, st3, h0, hf0, hf1, hf2, h4, h18, h19, h20, h21, h22]
                exact ⟨t2, sr2, halves_join hcr mv1 mv2 so1 so2, ((Mv.refl : Mv l l x y)).trans ((Mv.wide mv1 (Nat.le_refl _) hmy2).trans (mv2.wide hmx2 (Nat.le_refl _)))⟩
              · exact ⟨t1, sr1, halves_join hcr mv1 Mv.refl so1 (so_of q4 q5 (two_nr a2) hen2 hen), ((Mv.refl : Mv l l x y)).trans (Mv.wide mv1 (Nat.le_refl _) hmy2)⟩
              · exact ⟨t1, sr1, halves_join hcr mv1 Mv.refl so1 (so_of q4 q5 (two_nl a1) hen2 hen), ((Mv.refl : Mv l l x y)).trans (Mv.wide mv1 (Nat.le_refl _) hmy2)⟩
            · have so1 := so_of q1 q2 (two_nr a2) hst0 hst2
              refine two_intro (fun a1 => two_intro (fun a2 => ?_) (fun a2 => ?_)) (fun a1 => ?_)
              · have b1 : mid < en := Int.ofNat_lt.1 (of_decide_eq_true a1)
                have b2 : en < y := Int.ofNat_lt.1 (of_decide_eq_true a2)
                refine (ih _ _ mid en y hd2 h b1 b2 hy q4 q5 q6).mono ?_
                rintro _ Hb ⟨t2, sr2, so2, mv2⟩
                simp -implicitDefEqProofs only [kz, kk0, kk1, kk2, kk3, ↓two_true, ↓two_false, oS_some, oM_some, mkv, aggAt, Nat.reduceLeDiff, Nat.reduceSub, Nat.reduceMul, implies_true, Nat.reduceEqDiff, reduceIte, Nat.reduceAdd, Nat.reduceBEq, reduceCtorEq, cv3_177, cv177_3, ix43, ld3, st3, h0, hf0, hf1, hf2, h4, h18, h19, h20, h21, h22]
                exact ⟨t2, sr2, halves_join hcr (Mv.refl : Mv l l x mid) mv2 so1 so2, ((Mv.refl : Mv l l x y)).trans ((Mv.wide (Mv.refl : Mv l l x mid) (Nat.le_refl _) hmy2).trans (mv2.wide hmx2 (Nat.le_refl _)))⟩
              · exact ⟨l, h, halves_join hcr (Mv.refl : Mv l l x mid) Mv.refl so1 (so_of q4 q5 (two_nr a2) hen2 hen), ((Mv.refl : Mv l l x y)).trans (Mv.wide (Mv.refl : Mv l l x mid) (Nat.le_refl _) hmy2)⟩
              · exact ⟨l, h, halves_join hcr (Mv.refl : Mv l l x mid) Mv.refl so1 (so_of q4 q5 (two_nl a1) hen2 hen), ((Mv.refl : Mv l l x y)).trans (Mv.wide (Mv.refl : Mv l l x mid) (Nat.le_refl _) hmy2)⟩
            · have so1 := so_of q1 q2 (two_nl a1) hst0 hst2
              refine two_intro (fun a1 => two_intro (fun a2 => ?_) (fun a2 => ?_)) (fun a1 => ?_)
              · have b1 : mid < en := Int.ofNat_lt.1 (of_decide_eq_true a1)
                have b2 : en < y := Int.ofNat_lt.1 (of_decide_eq_true a2)
                refine (ih _ _ mid en y hd2 h b1 b2 hy q4 q5 q6).mono ?_
                rintro _ Hb ⟨t2, sr2, so2, mv2⟩
                simp -implicitDefEqProofs only [kz, kk0, kk1, kk2, kk3, ↓two_true, ↓two_false, oS_some, oM_some, mkv, aggAt, Nat.reduceLeDiff, Nat.reduceSub, Nat.reduceMul, implies_true, Nat.reduceEqDiff, reduceIte, Nat.reduceAdd, Nat.reduceBEq, reduceCtorEq, cv3_177, cv177_3, ix43, ld3, st3, h0, hf0, hf1, hf2, h4, h18, h19, h20, h21, h22]
                exact ⟨t2, sr2, halves_join hcr (Mv.refl : Mv l l x mid) mv2 so1 so2, ((Mv.refl : Mv l l x y)).trans ((Mv.wide (Mv.refl : Mv l l x mid) (Nat.le_refl _) hmy2).trans (mv2.wide hmx2 (Nat.le_refl _)))⟩
              · exact ⟨l, h, halves_join hcr (Mv.refl : Mv l l x mid) Mv.refl so1 (so_of q4 q5 (two_nr a2) hen2 hen), ((Mv.refl : Mv l l x y)).trans (Mv.wide (Mv.refl : Mv l l x mid) (Nat.le_refl _) hmy2)⟩
              · exact ⟨l, h, halves_join hcr (Mv.refl : Mv l l x mid) Mv.refl so1 (so_of q4 q5 (two_nl a1) hen2 hen), ((Mv.refl : Mv l l x y)).trans (Mv.wide (Mv.refl : Mv l l x mid) (Nat.le_refl _) hmy2)⟩
          · have rot : Rot l l st m en := Rot.self (.inl (Nat.le_of_not_lt fun e => two_nl (R := True) c1 ⟨e, trivial⟩))
            obtain ⟨q1, q2, q3⟩ := halves_left s1 s2 ha rot hst0 hstm hme hen hmid
            obtain ⟨q4, q5, q6⟩ := halves_right s1 s2 ha rot hst0 hstm hme hen hmid
            have hcr := halves_cross s1 s2 ha rot hst0 hstm hme hen hmid hp1 hp2
            refine two_intro (fun a1 => two_intro (fun a2 => ?_) (fun a2 => ?_)) (fun a1 => ?_)
            · have b1 : x < st := Int.ofNat_lt.1 (of_decide_eq_true a1)
              have b2 : st < mid := Int.ofNat_lt.1 (of_decide_eq_true a2)
              refine (ih _ _ x st mid hd1 h b1 b2 hmidl q1 q2 q3).mono ?_
              rintro _ Ha ⟨t1, sr1, so1, mv1⟩
              have q4 := q4.mv (l' := t1) fun i i1 _ => mv1.out i (.inr i1)
              have q5 := q5.mv (l' := t1) fun i i1 _ => mv1.out i (.inr (Nat.le_trans hen2 i1))
              have q6 : Ahd t1 mid en y := fun p q p1 p2 p3 p4 => by rw [mv1.out p (.inr p1), mv1.out q (.inr (Nat.le_trans hen2 p3))]; exact q6 p q p1 p2 p3 p4
              simp -implicitDefEqProofs only [kz, kk0, kk1, kk2, kk3, ↓two_true, ↓two_false, oS_some, oM_some, mkv, aggAt, Nat.reduceLeDiff, Nat.reduceSub, Nat.reduceMul, implies_true, Nat.reduceEqDiff, reduceIte, Nat.reduceAdd, Nat.reduceBEq, reduceCtorEq, cv3_177, cv177_3, ix43, ld3, st3, h0, hf0, hf1, hf2, h4, h18, h19, h20, h21, h22]
              refine two_intro (fun a1 => two_intro (fun a2 => ?_) (fun a2 => ?_)) (fun a1 => ?_)
              · have b1 : mid < en := Int.ofNat_lt.1 (of_decide_eq_true a1)
                have b2 : en < y := Int.ofNat_lt.1 (of_decide_eq_true a2)
                refine (ih _ _ mid en y hd2 sr1 b1 b2 hy q4 q5 q6).mono ?_
                rintro _ Hb ⟨t2, sr2, so2, mv2⟩
                simp -implicitDefEqProofs only [kz, kk0, kk1, kk2, kk3, ↓two_true, ↓two_false, oS_some, oM_some, mkv, aggAt, Nat.reduceLeDiff, Nat.reduceSub, Nat.reduceMul, implies_true, Nat.reduceEqDiff, reduceIte, Nat.reduceAdd, Nat.reduceBEq, reduceCtorEq, cv3_177, cv177_3, ix43, ld3, st3, h0, hf0, hf1, hf2, h4, h18, h19, h20, h21, h22]
                exact ⟨t2, sr2, halves_join hcr mv1 mv2 so1 so2, ((Mv.refl : Mv l l x y)).trans ((Mv.wide mv1 (Nat.le_refl _) hmy2).trans (mv2.wide hmx2 (Nat.le_refl _)))⟩
              · exact ⟨t1, sr1, halves_join hcr mv1 Mv.refl so1 (so_of q4 q5 (two_nr a2) hen2 hen), ((Mv.refl : Mv l l x y)).trans (Mv.wide mv1 (Nat.le_refl _) hmy2)⟩
              · exact ⟨t1, sr1, halves_join hcr mv1 Mv.refl so1 (so_of q4 q5 (two_nl a1) hen2 hen), ((Mv.refl : Mv l l x y)).trans (Mv.wide mv1 (Nat.le_refl _) hmy2)⟩
            · have so1 := so_of q1 q2 (two_nr a2) hst0 hst2
              refine two_intro (fun a1 => two_intro (fun a2 => ?_) (fun a2 => ?_)) (fun a1 => ?_)
              · have b1 : mid < en := Int.ofNat_lt.1 (of_decide_eq_true a1)
                have b2 : en < y := Int.ofNat_lt.1 (of_decide_eq_true a2)
                refine (ih _ _ mid en y hd2 h b1 b2 hy q4 q5 q6).mono ?_
                rintro _ Hb ⟨t2, sr2, so2, mv2⟩
                simp -implicitDefEqProofs only [kz, kk0, kk1, kk2, kk3, ↓two_true, ↓two_false, oS_some, oM_some, mkv, aggAt, Nat.reduceLeDiff, Nat.reduceSub, Nat.reduceMul, implies_true, Nat.reduceEqDiff, reduceIte, Nat.reduceAdd, Nat.reduceBEq, reduceCtorEq, cv3_177, cv177_3, ix43, ld3, st3, h0, hf0, hf1, hf2, h4, h18, h19, h20, h21, h22]
                exact ⟨t2, sr2, halves_join hcr (Mv.refl : Mv l l x mid) mv2 so1 so2, ((Mv.refl : Mv l l x y)).trans ((Mv.wide (Mv.refl : Mv l l x mid) (Nat.le_refl _) hmy2).trans (mv2.wide hmx2 (Nat.le_refl _)))⟩
              · exact ⟨l, h, halves_join hcr (Mv.refl : Mv l l x mid) Mv.refl so1 (so_of q4 q5 (two_nr a2) hen2 hen), ((Mv.refl : Mv l l x y)).trans (Mv.wide (Mv.refl : Mv l l x mid) (Nat.le_refl _) hmy2)⟩
              · exact ⟨l, h, halves_join hcr (Mv.refl : Mv l l x mid) Mv.refl so1 (so_of q4 q5 (two_nl a1) hen2 hen), ((Mv.refl : Mv l l x y)).trans (Mv.wide (Mv.refl : Mv l l x mid) (Nat.le_refl _) hmy2)⟩
            · have so1 := so_of q1 q2 (two_nl a1) hst0 hst2
              refine two_intro (fun a1 => two_intro (fun a2 => ?_) (fun a2 => ?_)) (fun a1 => ?_)
              · have b1 : mid < en := Int.ofNat_lt.1 (of_decide_eq_true a1)
                have b2 : en < y := Int.ofNat_lt.1 (of_decide_eq_true a2)
                refine (ih _ _ mid en y hd2 h b1 b2 hy q4 q5 q6).mono ?_
                rintro _ Hb ⟨t2, sr2, so2, mv2⟩
                simp -implicitDefEqProofs only [kz, kk0, kk1, kk2, kk3, ↓two_true, ↓two_false, oS_some, oM_some, mkv, aggAt, Nat.reduceLeDiff, Nat.reduceSub, Nat.reduceMul, implies_true, Nat.reduceEqDiff, reduceIte, Nat.reduceAdd, Nat.reduceBEq, reduceCtorEq, cv3_177, cv177_3, ix43, ld3, st3, h0, hf0, hf1, hf2, h4, h18, h19, h20, h21, h22]
                exact ⟨t2, sr2, halves_join hcr (Mv.refl : Mv l l x mid) mv2 so1 so2, ((Mv.refl : Mv l l x y)).trans ((Mv.wide (Mv.refl : Mv l l x mid) (Nat.le_refl _) hmy2).trans (mv2.wide hmx2 (Nat.le_refl _)))⟩
              · exact ⟨l, h, halves_join hcr (Mv.refl : Mv l l x mid) Mv.refl so1 (so_of q4 q5 (two_nr a2) hen2 hen), ((Mv.refl : Mv l l x y)).trans (Mv.wide (Mv.refl : Mv l l x mid) (Nat.le_refl _) hmy2)⟩
              · exact ⟨l, h, halves_join hcr (Mv.refl : Mv l l x mid) Mv.refl so1 (so_of q4 q5 (two_nl a1) hen2 hen), ((Mv.refl : Mv l l x y)).trans (Mv.wide (Mv.refl : Mv l l x mid) (Nat.le_refl _) hmy2)⟩
    · have dM : decide ((m : Int) > mid) = false := decide_eq_false (by omega)
      simp -implicitDefEqProofs only [kz, kk0, kk1, kk2, kk3, ↓two_true, ↓two_false, oS_some, oM_some, mkv, aggAt, Nat.reduceLeDiff, Nat.reduceSub, Nat.reduceMul, implies_true, Nat.reduceEqDiff, reduceIte, Nat.reduceAdd, Nat.reduceBEq, reduceCtorEq, cv3_177, cv177_3, ix43, ld3, st3, w1, w2, e1, e2, w5, hhu, wh, w6, w7, dM]
      refine rW_loop (σ := Nat × Nat) (fun (s, r) tm H' => tm 0 = .slice (some ⟨b, o, none⟩) l0.length 1 ∧ tm 1 = .int .i64 x ∧ tm 2 = .int .i64 m ∧ tm 3 = .int .i64 y ∧ tm 4 = .func (.func g) #[] #[cap] ∧ tm 18 = .int .i64 mid ∧ tm 19 = .int .i64 (mid + m : Nat) ∧ tm 20 = .int .i64 s ∧ tm 21 = .int .i64 r ∧ tm 22 = .int .i64 (mid + m - 1 : Nat) ∧ H' = H ∧ x ≤ s ∧ s ≤ r ∧ r ≤ m ∧ (s = x ∨ ¬ D (gx l (mid + m - s)) < D (gx l (s - 1))) ∧ (r = m ∨ D (gx l (mid + m - 1 - r)) < D (gx l r))) (fun s => s.2 - s.1) (x, m) ?_ ?_
      · simp -implicitDefEqProofs [kk0, kk1, kk2, kk3, rW_block, ↓two_true, ↓two_false, rW_cond, rO_guard, oS_some, oM_some, mkv, aggAt, Nat.reduceLeDiff, Nat.reduceSub, Nat.reduceMul, cond_true, cond_false, Option.bind_some, List.length_append, List.length_cons, List.length_nil, List.append_assoc, List.cons_append, List.nil_append, List.set_cons_zero, List.set_cons_succ, List.size_toArray, List.all_cons, List.all_nil, List.drop_zero, List.drop_succ_cons, List.take_succ_cons, List.take_zero, List.mem_cons, Prod.mk.injEq, List.not_mem_nil, implies_true, List.getElem?_toArray, List.getElem?_cons_zero, List.getElem?_cons_succ, List.getElem?_nil, Option.getD_some, Option.getD_none, Nat.reduceEqDiff, reduceIte, Nat.reduceAdd, List.map_toArray, List.map_cons, List.map_nil, Bool.false_eq_true, Nat.reduceBEq, Option.map_some, Option.map_none, reduceCtorEq, cv3_177, cv177_3, ix43, ld3, st3]
        omega
      · rintro ⟨st, r⟩ tm H1 ⟨h0, hf0, hf1, hf2, h4, h18, h19, h20, h21, h22, rfl, hls, hsr, hrh, p1, p2⟩
        have w3 : IntKind.i64.wrap ((st : Int) + r) = ((st + r : Nat) : Int) := by rw [IntWalk.i64_in _ (by omega)]; omega
        by_cases hlt : st < r
        · have dlt : decide ((st : Int) < r) = true := decide_eq_true (by omega)
          have hcb : st ≤ (st + r) / 2 ∧ (st + r) / 2 < r := by omega
          have wh : IntKind.i64.wrap (((st + r) / 2 : Nat) : Int) = (((st + r) / 2 : Nat) : Int) := IntWalk.i64_in _ (by omega)
          have hhu := half_u (P := Try.prog) (t := 177) (x := .tmp 155) (y := .const (.int .u64 1)) (show st + r < 4611686018427387904 by omega)
          generalize (st + r) / 2 = c at *
          have wh1 : IntKind.i64.wrap ((c : Int) + 1) = ((c + 1 : Nat) : Int) := by rw [IntWalk.i64_in _ (by omega)]; omega
          have wpc : IntKind.i64.wrap (((mid + m - 1 : Nat) : Int) - c) = ((mid + m - 1 - c : Nat) : Int) := by rw [IntWalk.i64_in _ (by omega)]; omega
          have ec := hcmp.call l H1 h _ (h.mem (i := mid + m - 1 - c) (by omega)) _ (h.mem (i := c) (by omega))
          simp -implicitDefEqProofs only [kz, kk0, kk1, kk2, kk3, ↓two_true, ↓two_false, oS_some, oM_some, mkv, aggAt, Nat.reduceLeDiff, Nat.reduceSub, Nat.reduceMul, implies_true, Nat.reduceEqDiff, reduceIte, Nat.reduceAdd, Nat.reduceBEq, reduceCtorEq, cv3_177, cv177_3, ix43, ld3, st3, h0, hf0, hf1, hf2, h4, h18, h19, h20, h21, h22, dlt, w3, hhu, wh, wh1, wpc, Int.toNat_natCast, Nat.mul_one, rd_own hb, hcell (mid + m - 1 - c) (by omega), hcell c (by omega), arr21, Array.empty_append, Array.append_empty, ec, cmpI_lt]
          refine ⟨by omega, by omega, two_intro (fun hd => ?_) (fun hd => ?_)⟩
          · have h9 : ¬ D (gx l (mid + m - 1 - c)) < D (gx l c) := by simpa using hd
            exact ⟨(c + 1, r), by simp only; omega, rfl, rfl, by simp only; omega, by simp only; omega, hrh, .inr (by simp only [Nat.add_sub_cancel]; rw [show mid + m - (c + 1) = mid + m - 1 - c by omega]; exact h9), p2⟩
          · have h9 : D (gx l (mid + m - 1 - c)) < D (gx l c) := by simpa using hd
            exact ⟨(st, c), by simp only; omega, rfl, rfl, hls, by simp only; omega, by simp only; omega, p1, .inr h9⟩
        · have dlt : decide ((st : Int) < r) = false := decide_eq_false (by omega)
          obtain rfl : st = r := by omega
          obtain ⟨en, hen0⟩ : ∃ en, en = mid + m - st := ⟨_, rfl⟩
          have wen : IntKind.i64.wrap (((mid + m : Nat) : Int) - st) = (en : Int) := by rw [IntWalk.i64_in _ (by omega)]; omega
          have hst0 : x ≤ st := by omega
          have hstm : st ≤ m := by omega
          have hme : m ≤ en := by omega
          have hen : en ≤ y := by omega
          have hmid : mid + m = st + en := by omega
          have hp1 : x < st → en < y → ¬ D (gx l en) < D (gx l (st - 1)) := fun a1 a2 => by
            rcases p1 with p1 | p1
            · omega
            · rw [hen0]; exact p1
          have hp2 : st < m → m < en → D (gx l (en - 1)) < D (gx l st) := fun a1 a2 => by
            rcases p2 with p2 | p2
            · omega
            · rw [show en - 1 = mid + m - 1 - st by omega]; exact p2
          simp -implicitDefEqProofs only [kz, kk0, kk1, kk2, kk3, ↓two_true, ↓two_false, oS_some, oM_some, mkv, aggAt, Nat.reduceLeDiff, Nat.reduceSub, Nat.reduceMul, implies_true, Nat.reduceEqDiff, reduceIte, Nat.reduceAdd, Nat.reduceBEq, reduceCtorEq, cv3_177, cv177_3, ix43, ld3, st3, h0, hf0, hf1, hf2, h4, h18, h19, h20, h21, h22, dlt, wen]
          clear w1 w2 e1 e2 w5 wh hhu w6 w7 dM w3 dlt hcell hle hb p1 p2 hls hsr hrh hlt hen0 wen
          have hmx2 : x ≤ mid := by omega
          have hmy2 : mid ≤ y := by omega
          have hen2 : mid ≤ en := by omega
          have hst2 : st ≤ mid := by omega
          have hd1 : mid - x ≤ d := by omega
          have hd2 : y - mid ≤ d := by omega
          have hmidl : mid ≤ l0.length := by omega
          have henl : en ≤ l0.length := by omega
          refine two_intro (fun c1 => two_intro (fun c2 => ?_) (fun c2 => ?_)) (fun c1 => ?_)
          · have g1 : st < m := Int.ofNat_lt.1 (of_decide_eq_true c1)
            have g2 : m < en := Int.ofNat_lt.1 (of_decide_eq_true c2)
            refine (rotate_ok h hn g1 g2 henl).mono ?_
            rintro _ H2 ⟨t, srt, rot, mvt⟩
            have mvw := mvt.wide hst0 hen
            simp -implicitDefEqProofs only [kz, kk0, kk1, kk2, kk3, ↓two_true, ↓two_false, oS_some, oM_some, mkv, aggAt, Nat.reduceLeDiff, Nat.reduceSub, Nat.reduceMul, implies_true, Nat.reduceEqDiff, reduceIte, Nat.reduceAdd, Nat.reduceBEq, reduceCtorEq, cv3_177, cv177_3, ix43, ld3, st3, h0, hf0, hf1, hf2, h4, h18, h19, h20, h21, h22]
            obtain ⟨q1, q2, q3⟩ := halves_left s1 s2 ha rot hst0 hstm hme hen hmid
            obtain ⟨q4, q5, q6⟩ := halves_right s1 s2 ha rot hst0 hstm hme hen hmid
            have hcr := halves_cross s1 s2 ha rot hst0 hstm hme hen hmid hp1 hp2
            refine two_intro (fun a1 => two_intro (fun a2 => ?_) (fun a2 => ?_)) (fun a1 => ?_)
            · have b1 : x < st := Int.ofNat_lt.1 (of_decide_eq_true a1)
              have b2 : st < mid := Int.ofNat_lt.1 (of_decide_eq_true a2)
              refine (ih _ _ x st mid hd1 srt b1 b2 hmidl q1 q2 q3).mono ?_
              rintro _ Ha ⟨t1, sr1, so1, mv1⟩
              have q4 := q4.mv (l' := t1) fun i i1 _ => mv1.out i (.inr i1)
              have q5 := q5.mv (l' := t1) fun i i1 _ => mv1.out i (.inr (Nat.le_trans hen2 i1))
              have q6 : Ahd t1 mid en y := fun p q p1 p2 p3 p4 => by rw [mv1.out p (.inr p1), mv1.out q (.inr (Nat.le_trans hen2 p3))]; exact q6 p q p1 p2 p3 p4
              simp -implicitDefEqProofs only [kz, kk0, kk1, kk2, kk3, ↓two_true, ↓two_false, oS_some, oM_some, mkv, aggAt, Nat.reduceLeDiff, Nat.reduceSub, Nat.reduceMul, implies_true, Nat.reduceEqDiff, reduceIte, Nat.reduceAdd, Nat.reduceBEq, reduceCtorEq, cv3_177, cv177_3, ix43, ld3, st3, h0, hf0, hf1, hf2, h4, h18, h19, h20, h21, h22]
              refine two_intro (fun a1 => two_intro (fun a2 => ?_) (fun a2 => ?_)) (fun a1 => ?_)
              · have b1 : mid < en := Int.ofNat_lt.1 (of_decide_eq_true a1)
                have b2 : en < y := Int.ofNat_lt.1 (of_decide_eq_true a2)
                refine (ih _ _ mid en y hd2 sr1 b1 b2 hy q4 q5 q6).mono ?_
                rintro _ Hb ⟨t2, sr2, so2, mv2⟩
                simp -implicitDefEqProofs only [kz, kk0, kk1, kk2, kk3, ↓two_true, ↓two_false, oS_some, oM_some, mkv, aggAt, Nat.reduceLeDiff, Nat.reduceSub, Nat.reduceMul, implies_true, Nat.reduceEqDiff, reduceIte, Nat.reduceAdd, Nat.reduceBEq, reduceCtorEq, cv3_177, cv177_3, ix43, ld3, st3, h0, hf0, hf1, hf2, h4, h18, h19, h20, h21, h22]
                exact ⟨t2, sr2, halves_join hcr mv1 mv2 so1 so2, (mvw).trans ((Mv.wide mv1 (Nat.le_refl _) hmy2).trans (mv2.wide hmx2 (Nat.le_refl _)))⟩
              · exact ⟨t1, sr1, halves_join hcr mv1 Mv.refl so1 (so_of q4 q5 (two_nr a2) hen2 hen), (mvw).trans (Mv.wide mv1 (Nat.le_refl _) hmy2)⟩
              · exact ⟨t1, sr1, halves_join hcr mv1 Mv.refl so1 (so_of q4 q5 (two_nl a1) hen2 hen), (mvw).trans (Mv.wide mv1 (Nat.le_refl _) hmy2)⟩
            · have so1 := so_of q1 q2 (two_nr a2) hst0 hst2
              refine two_intro (fun a1 => two_intro (fun a2 => ?_) (fun a2 => ?_)) (fun a1 => ?_)
              · have b1 : mid < en := Int.ofNat_lt.1 (of_decide_eq_true a1)
                have b2 : en < y := Int.ofNat_lt.1 (of_decide_eq_true a2)
                refine (ih _ _ mid en y hd2 srt b1 b2 hy q4 q5 q6).mono ?_
                rintro _ Hb ⟨t2, sr2, so2, mv2⟩
                simp -implicitDefEqProofs only [kz, kk0, kk1, kk2, kk3, ↓two_true, ↓two_false, oS_some, oM_some, mkv, aggAt, Nat.reduceLeDiff, Nat.reduceSub, Nat.reduceMul, implies_true, Nat.reduceEqDiff, reduceIte, Nat.reduceAdd, Nat.reduceBEq, reduceCtorEq, cv3_177, cv177_3, ix43, ld3, st3, h0, hf0, hf1, hf2, h4, h18, h19, h20, h21, h22]
                exact ⟨t2, sr2, halves_join hcr (Mv.refl : Mv t t x mid) mv2 so1 so2, (mvw).trans ((Mv.wide (Mv.refl : Mv t t x mid) (Nat.le_refl _) hmy2).trans (mv2.wide hmx2 (Nat.le_refl _)))⟩
              · exact ⟨t, srt, halves_join hcr (Mv.refl : Mv t t x mid) Mv.refl so1 (so_of q4 q5 (two_nr a2) hen2 hen), (mvw).trans (Mv.wide (Mv.refl : Mv t t x mid) (Nat.le_refl _) hmy2)⟩
              · exact ⟨t, srt, halves_join hcr (Mv.refl : Mv t t x mid) Mv.refl so1 (so_of q4 q5 (two_nl a1) hen2 hen), (mvw).trans (Mv.wide (Mv.refl : Mv t t x mid) (Nat.le_refl _) hmy2)⟩
            · have so1 := so_of q1 q2 (two_nl a1) hst0 hst2
              refine two_intro (fun a1 => two_intro (fun a2 => ?_) (fun a2 => ?_)) (fun a1 => ?_)
              · have b1 : mid < en := Int.ofNat_lt.1 (of_decide_eq_true a1)
                have b2 : en < y := Int.ofNat_lt.1 (of_decide_eq_true a2)
                refine (ih _ _ mid en y hd2 srt b1 b2 hy q4 q5 q6).mono ?_
                rintro _ Hb ⟨t2, sr2, so2, mv2⟩
                simp -implicitDefEqProofs only [kz, kk0, kk1, kk2, kk3, ↓two_true, ↓two_false, oS_some, oM_some, mkv, aggAt, Nat.reduceLeDiff, Nat.reduceSub, Nat.reduceMul, implies_true, Nat.reduceEqDiff, reduceIte, Nat.reduceAdd, Nat.reduceBEq, reduceCtorEq, cv3_177, cv177_3, ix43, ld3, st3, h0, hf0, hf1, hf2, h4, h18, h19, h20, h21, h22]
                exact ⟨t2, sr2, halves_join hcr (Mv.refl : Mv t t x mid) mv2 so1 so2, (mvw).trans ((Mv.wide (Mv.refl : Mv t t x mid) (Nat.le_refl _) hmy2).trans (mv2.wide hmx2 (Nat.le_refl _)))⟩
              · exact ⟨t, srt, halves_join hcr (Mv.refl : Mv t t x mid) Mv.refl so1 (so_of q4 q5 (two_nr a2) hen2 hen), (mvw).trans (Mv.wide (Mv.refl : Mv t t x mid) (Nat.le_refl _) hmy2)⟩
              · exact ⟨t, srt, halves_join hcr (Mv.refl : Mv t t x mid) Mv.refl so1 (so_of q4 q5 (two_nl a1) hen2 hen), (mvw).trans (Mv.wide (Mv.refl : Mv t t x mid) (Nat.le_refl _) hmy2)⟩
          · have rot : Rot l l st m en := Rot.self (.inr (Nat.le_of_not_lt fun e => two_nl (R := True) c2 ⟨e, trivial⟩))
            obtain ⟨q1, q2, q3⟩ := halves_left s1 s2 ha rot hst0 hstm hme hen hmid
            obtain ⟨q4, q5, q6⟩ := halves_right s1 s2 ha rot hst0 hstm hme hen hmid
            have hcr := halves_cross s1 s2 ha rot hst0 hstm hme hen hmid hp1 hp2
            refine two_intro (fun a1 => two_intro (fun a2 => ?_) (fun a2 => ?_)) (fun a1 => ?_)
            · have b1 : x < st := Int.ofNat_lt.1 (of_decide_eq_true a1)
              have b2 : st < mid := Int.ofNat_lt.1 (of_decide_eq_true a2)
              refine (ih _ _ x st mid hd1 h b1 b2 hmidl q1 q2 q3).mono ?_
              rintro _ Ha ⟨t1, sr1, so1, mv1⟩
              have q4 := q4.mv (l' := t1) fun i i1 _ => mv1.out i (.inr i1)
              have q5 := q5.mv (l' := t1) fun i i1 _ => mv1.out i (.inr (Nat.le_trans hen2 i1))
              have q6 : Ahd t1 mid en y := fun p q p1 p2 p3 p4 => by rw [mv1.out p (.inr p1), mv1.out q (.inr (Nat.le_trans hen2 p3))]; exact q6 p q p1 p2 p3 p4
              simp -implicitDefEqProofs only [kz, kk0, kk1, kk2, kk3, ↓two_true, ↓two_false, oS_some, oM_some, mkv, aggAt, Nat.reduceLeDiff, Nat.reduceSub, Nat.reduceMul, implies_true, Nat.reduceEqDiff, reduceIte, Nat.reduceAdd, Nat.reduceBEq, reduceCtorEq, cv3_177, cv177_3, ix43, ld3, st3, h0, hf0, hf1, hf2, h4, h18, h19, h20, h21, h22]
              refine two_intro (fun a1 => two_intro (fun a2 => ?_) (fun a2 => ?_)) (fun a1 => ?_)
              · have b1 : mid < en := Int.ofNat_lt.1 (of_decide_eq_true a1)
                have b2 : en < y := Int.ofNat_lt.1 (of_decide_eq_true a2)
                refine (ih _ _ mid en y hd2 sr1 b1 b2 hy q4 q5 q6).mono ?_
                rintro _ Hb ⟨t2, sr2, so2, mv2⟩
                simp -implicitDefEqProofs only [kz, kk0, kk1, kk2, kk3, ↓two_true, ↓two_false, oS_some, oM_some, mkv, aggAt, Nat.reduceLeDiff, Nat.reduceSub, Nat.reduceMul, implies_true, Nat.reduceEqDiff, reduceIte, Nat.reduceAdd, Nat.reduceBEq, reduceCtorEq, cv3_177, cv177_3, ix43, ld3, st3, h0, hf0, hf1, hf2, h4, h18, h19, h20, h21, h22]
                exact ⟨t2, sr2, halves_join hcr mv1 mv2 so1 so2, ((Mv.refl : Mv l l x y)).trans ((Mv.wide mv1 (Nat.le_refl _) hmy2).trans (mv2.wide hmx2 (Nat.le_refl _)))⟩
              · exact ⟨t1, sr1, halves_join hcr mv1 Mv.refl so1 (so_of q4 q5 (two_nr a2) hen2 hen), ((Mv.refl : Mv l l x y)).trans (Mv.wide mv1 (Nat.le_refl _) hmy2)⟩
              · exact ⟨t1, sr1, halves_join hcr mv1 Mv.refl so1 (so_of q4 q5 (two_nl a1) hen2 hen), ((Mv.refl : Mv l l x y)).trans (Mv.wide mv1 (Nat.le_refl _) hmy2)⟩
            · have so1 := so_of q1 q2 (two_nr a2) hst0 hst2
              refine two_intro (fun a1 => two_intro (fun a2 => ?_) (fun a2 => ?_)) (fun a1 => ?_)
              · have b1 : mid < en := Int.ofNat_lt.1 (of_decide_eq_true a1)
                have b2 : en < y := Int.ofNat_lt.1 (of_decide_eq_true a2)
                refine (ih _ _ mid en y hd2 h b1 b2 hy q4 q5 q6).mono ?_
                rintro _ Hb ⟨t2, sr2, so2, mv2⟩
                simp -implicitDefEqProofs only [kz, kk0, kk1, kk2, kk3, ↓two_true, ↓two_false, oS_some, oM_some, mkv, aggAt, Nat.reduceLeDiff, Nat.reduceSub, Nat.reduceMul, implies_true, Nat.reduceEqDiff, reduceIte, Nat.reduceAdd, Nat.reduceBEq, reduceCtorEq, cv3_177, cv177_3, ix43, ld3, st3, h0, hf0, hf1, hf2, h4, h18, h19, h20, h21, h22]
                exact ⟨t2, sr2, halves_join hcr (Mv.refl : Mv l l x mid) mv2 so1 so2, ((Mv.refl : Mv l l x y)).trans ((Mv.wide (Mv.refl : Mv l l x mid) (Nat.le_refl _) hmy2).trans (mv2.wide hmx2 (Nat.le_refl _)))⟩
              · exact ⟨l, h, halves_join hcr (Mv.refl : Mv l l x mid) Mv.refl so1 (so_of q4 q5 (two_nr a2) hen2 hen), ((Mv.refl : Mv l l x y)).trans (Mv.wide (Mv.refl : Mv l l x mid) (Nat.le_refl _) hmy2)⟩
              · exact ⟨l, h, halves_join hcr (Mv.refl : Mv l l x mid) Mv.refl so1 (so_of q4 q5 (two_nl a1) hen2 hen), ((Mv.refl : Mv l l x y)).trans (Mv.wide (Mv.refl : Mv l l x mid) (Nat.le_refl _) hmy2)⟩
            · have so1 := so_of q1 q2 (two_nl a1) hst0 hst2
              refine two_intro (fun a1 => two_intro (fun a2 => ?_) (fun a2 => ?_)) (fun a1 => ?_)
              · have b1 : mid < en := Int.ofNat_lt.1 (of_decide_eq_true a1)
                have b2 : en < y := Int.ofNat_lt.1 (of_decide_eq_true a2)
                refine (ih _ _ mid en y hd2 h b1 b2 hy q4 q5 q6).mono ?_
                rintro _ Hb ⟨t2, sr2, so2, mv2⟩
                simp -implicitDefEqProofs only [kz, kk0, kk1, kk2, kk3, ↓two_true, ↓two_false, oS_some, oM_some, mkv, aggAt, Nat.reduceLeDiff, Nat.reduceSub, Nat.reduceMul, implies_true, Nat.reduceEqDiff, reduceIte, Nat.reduceAdd, Nat.reduceBEq, reduceCtorEq, cv3_177, cv177_3, ix43, ld3, st3, h0, hf0, hf1, hf2, h4, h18, h19, h20, h21, h22]
                exact ⟨t2, sr2, halves_join hcr (Mv.refl : Mv l l x mid) mv2 so1 so2, ((Mv.refl : Mv l l x y)).trans ((Mv.wide (Mv.refl : Mv l l x mid) (Nat.le_refl _) hmy2).trans (mv2.wide hmx2 (Nat.le_refl _)))⟩
              · exact ⟨l, h, halves_join hcr (Mv.refl : Mv l l x mid) Mv.refl so1 (so_of q4 q5 (two_nr a2) hen2 hen), ((Mv.refl : Mv l l x y)).trans (Mv.wide (Mv.refl : Mv l l x mid) (Nat.le_refl _) hmy2)⟩
              · exact ⟨l, h, halves_join hcr (Mv.refl : Mv l l x mid) Mv.refl so1 (so_of q4 q5 (two_nl a1) hen2 hen), ((Mv.refl : Mv l l x y)).trans (Mv.wide (Mv.refl : Mv l l x mid) (Nat.le_refl _) hmy2)⟩
          · have rot : Rot l l st m en := Rot.self (.inl (Nat.le_of_not_lt fun e => two_nl (R := True) c1 ⟨e, trivial⟩))
            obtain ⟨q1, q2, q3⟩ := halves_left s1 s2 ha rot hst0 hstm hme hen hmid
            obtain ⟨q4, q5, q6⟩ := halves_right s1 s2 ha rot hst0 hstm hme hen hmid
            have hcr := halves_cross s1 s2 ha rot hst0 hstm hme hen hmid hp1 hp2
            refine two_intro (fun a1 => two_intro (fun a2 => ?_) (fun a2 => ?_)) (fun a1 => ?_)
            · have b1 : x < st := Int.ofNat_lt.1 (of_decide_eq_true a1)
              have b2 : st < mid := Int.ofNat_lt.1 (of_decide_eq_true a2)
              refine (ih _ _ x st mid hd1 h b1 b2 hmidl q1 q2 q3).mono ?_
              rintro _ Ha ⟨t1, sr1, so1, mv1⟩
              have q4 := q4.mv (l' := t1) fun i i1 _ => mv1.out i (.inr i1)
              have q5 := q5.mv (l' := t1) fun i i1 _ => mv1.out i (.inr (Nat.le_trans hen2 i1))
              have q6 : Ahd t1 mid en y := fun p q p1 p2 p3 p4 => by rw [mv1.out p (.inr p1), mv1.out q (.inr (Nat.le_trans hen2 p3))]; exact q6 p q p1 p2 p3 p4
              simp -implicitDefEqProofs only [kz, kk0, kk1, kk2, kk3, ↓two_true, ↓two_false, oS_some, oM_some, mkv, aggAt, Nat.reduceLeDiff, Nat.reduceSub, Nat.reduceMul, implies_true, Nat.reduceEqDiff, reduceIte, Nat.reduceAdd, Nat.reduceBEq, reduceCtorEq, cv3_177, cv177_3, ix43, ld3, st3, h0, hf0, hf1, hf2, h4, h18, h19, h20, h21, h22]
              refine two_intro (fun a1 => two_intro (fun a2 => ?_) (fun a2 => ?_)) (fun a1 => ?_)
              · have b1 : mid < en := Int.ofNat_lt.1 (of_decide_eq_true a1)
                have b2 : en < y := Int.ofNat_lt.1 (of_decide_eq_true a2)
                refine (ih _ _ mid en y hd2 sr1 b1 b2 hy q4 q5 q6).mono ?_
                rintro _ Hb ⟨t2, sr2, so2, mv2⟩
                simp -implicitDefEqProofs only [kz, kk0, kk1, kk2, kk3, ↓two_true, ↓two_false, oS_some, oM_some, mkv, aggAt, Nat.reduceLeDiff, Nat.reduceSub, Nat.reduceMul, implies_true, Nat.reduceEqDiff, reduceIte, Nat.reduceAdd, Nat.reduceBEq, reduceCtorEq, cv3_177, cv177_3, ix43, ld3, st3, h0, hf0, hf1, hf2, h4, h18, h19, h20, h21, h22]
                exact ⟨t2, sr2, halves_join hcr mv1 mv2 so1 so2, ((Mv.refl : Mv l l x y)).trans ((Mv.wide mv1 (Nat.le_refl _) hmy2).trans (mv2.wide hmx2 (Nat.le_refl _)))⟩
              · exact ⟨t1, sr1, halves_join hcr mv1 Mv.refl so1 (so_of q4 q5 (two_nr a2) hen2 hen), ((Mv.refl : Mv l l x y)).trans (Mv.wide mv1 (Nat.le_refl _) hmy2)⟩
              · exact ⟨t1, sr1, halves_join hcr mv1 Mv.refl so1 (so_of q4 q5 (two_nl a1) hen2 hen), ((Mv.refl : Mv l l x y)).trans (Mv.wide mv1 (Nat.le_refl _) hmy2)⟩
            · have so1 := so_of q1 q2 (two_nr a2) hst0 hst2
              refine two_intro (fun a1 => two_intro (fun a2 => ?_) (fun a2 => ?_)) (fun a1 => ?_)
              · have b1 : mid < en := Int.ofNat_lt.1 (of_decide_eq_true a1)
                have b2 : en < y := Int.ofNat_lt.1 (of_decide_eq_true a2)
                refine (ih _ _ mid en y hd2 h b1 b2 hy q4 q5 q6).mono ?_
                rintro _ Hb ⟨t2, sr2, so2, mv2⟩
                simp -implicitDefEqProofs only [kz, kk0, kk1, kk2, kk3, ↓two_true, ↓two_false, oS_some, oM_some, mkv, aggAt, Nat.reduceLeDiff, Nat.reduceSub, Nat.reduceMul, implies_true, Nat.reduceEqDiff, reduceIte, Nat.reduceAdd, Nat.reduceBEq, reduceCtorEq, cv3_177, cv177_3, ix43, ld3, st3, h0, hf0, hf1, hf2, h4, h18, h19, h20, h21, h22]
                exact ⟨t2, sr2, halves_join hcr (Mv.refl : Mv l l x mid) mv2 so1 so2, ((Mv.refl : Mv l l x y)).trans ((Mv.wide (Mv.refl : Mv l l x mid) (Nat.le_refl _) hmy2).trans (mv2.wide hmx2 (Nat.le_refl _)))⟩
              · exact ⟨l, h, halves_join hcr (Mv.refl : Mv l l x mid) Mv.refl so1 (so_of q4 q5 (two_nr a2) hen2 hen), ((Mv.refl : Mv l l x y)).trans (Mv.wide (Mv.refl : Mv l l x mid) (Nat.le_refl _) hmy2)⟩
              · exact ⟨l, h, halves_join hcr (Mv.refl : Mv l l x mid) Mv.refl so1 (so_of q4 q5 (two_nl a1) hen2 hen), ((Mv.refl : Mv l l x y)).trans (Mv.wide (Mv.refl : Mv l l x mid) (Nat.le_refl _) hmy2)⟩
            · have so1 := so_of q1 q2 (two_nl a1) hst0 hst2
              refine two_intro (fun a1 => two_intro (fun a2 => ?_) (fun a2 => ?_)) (fun a1 => ?_)
              · have b1 : mid < en := Int.ofNat_lt.1 (of_decide_eq_true a1)
                have b2 : en < y := Int.ofNat_lt.1 (of_decide_eq_true a2)
                refine (ih _ _ mid en y hd2 h b1 b2 hy q4 q5 q6).mono ?_
                rintro _ Hb ⟨t2, sr2, so2, mv2⟩
                simp -implicitDefEqProofs only [kz, kk0, kk1, kk2, kk3, ↓two_true, ↓two_false, oS_some, oM_some, mkv, aggAt, Nat.reduceLeDiff, Nat.reduceSub, Nat.reduceMul, implies_true, Nat.reduceEqDiff, reduceIte, Nat.reduceAdd, Nat.reduceBEq, reduceCtorEq, cv3_177, cv177_3, ix43, ld3, st3, h0, hf0, hf1, hf2, h4, h18, h19, h20, h21, h22]
                exact ⟨t2, sr2, halves_join hcr (Mv.refl : Mv l l x mid) mv2 so1 so2, ((Mv.refl : Mv l l x y)).trans ((Mv.wide (Mv.refl : Mv l l x mid) (Nat.le_refl _) hmy2).trans (mv2.wide hmx2 (Nat.le_refl _)))⟩
              · exact ⟨l, h, halves_join hcr (Mv.refl : Mv l l x mid) Mv.refl so1 (so_of q4 q5 (two_nr a2) hen2 hen), ((Mv.refl : Mv l l x y)).trans (Mv.wide (Mv.refl : Mv l l x mid) (Nat.le_refl _) hmy2)⟩
              · exact ⟨l, h, halves_join hcr (Mv.refl : Mv l l x mid) Mv.refl so1 (so_of q4 q5 (two_nl a1) hen2 hen), ((Mv.refl : Mv l l x y)).trans (Mv.wide (Mv.refl : Mv l l x mid) (Nat.le_refl _) hmy2)⟩
set_option maxHeartbeats 4000000 in
theorem symMerge_ok {G : AH} {b o : Nat} {l0 : List Int} {g : FuncId} {cap : Value} {D : Int → Int} (hcmp : CmpOk Try.prog g cap G b o l0 D) (hn : l0.length ≤ 1048576) (d : Nat) : SymOk G b o l0 g cap D d := by
  induction d with
  | zero => intro H l x m y hd h hxm hmy hy s1 s2 ha; omega
  | succ d ih => exact symMerge_step hcmp hn ih

set_option maxHeartbeats 4000000 in
theorem stable_ok {G H : AH} {b o : Nat} {l0 : List Int} {g : FuncId} {cap : Value} {D : Int → Int} (hcmp : CmpOk Try.prog g cap G b o l0 D) (hn : l0.length ≤ 1048576) (h : SR G b o l0 l0 H) (ha : AscS l0 l0.length) :
    CallsA Try.prog 177 #[.slice (some ⟨b, o, none⟩) l0.length 1, .int .i64 l0.length, .func (.func g) #[] #[cap]] H fun r H' => ∃ l', SR G b o l0 l' H' ∧ SortS D l' 0 l0.length := by
  generalize hN : l0.length = n at *
  refine w177 ?_
  unfold k177
  simp -implicitDefEqProofs only [kz, kk0, kk1, kk2, kk3, ↓two_true, ↓two_false, oS_some, oM_some, mkv, aggAt, Nat.reduceLeDiff, Nat.reduceSub, Nat.reduceMul, implies_true, Nat.reduceEqDiff, reduceIte, Nat.reduceAdd, Nat.reduceBEq, reduceCtorEq]
  refine rW_loop (σ := Nat × List Int) (fun (K, l) tm H' => tm 0 = .slice (some ⟨b, o, none⟩) n 1 ∧ tm 1 = .int .i64 n ∧ tm 2 = .func (.func g) #[] #[cap] ∧ tm 6 = .int .i64 20 ∧ tm 7 = .int .i64 (K * 20 : Nat) ∧ tm 8 = .int .i64 (K * 20 + 20 : Nat) ∧ K * 20 ≤ n ∧ SR G b o l0 l H' ∧ Bks D l0 l 20 K ∧ ∀ i, K * 20 ≤ i → gx l i = gx l0 i) (fun s => n - s.1 * 20) (0, l0) ?_ ?_
  · simp -implicitDefEqProofs [kk0, kk1, kk2, kk3, rW_block, ↓two_true, ↓two_false, rW_cond, rO_guard, oS_some, oM_some, mkv, aggAt, Nat.reduceLeDiff, Nat.reduceSub, Nat.reduceMul, cond_true, cond_false, Option.bind_some, List.length_append, List.length_cons, List.length_nil, List.append_assoc, List.cons_append, List.nil_append, List.set_cons_zero, List.set_cons_succ, List.size_toArray, List.all_cons, List.all_nil, List.drop_zero, List.drop_succ_cons, List.take_succ_cons, List.take_zero, List.mem_cons, Prod.mk.injEq, List.not_mem_nil, implies_true, List.getElem?_toArray, List.getElem?_cons_zero, List.getElem?_cons_succ, List.getElem?_nil, Option.getD_some, Option.getD_none, Nat.reduceEqDiff, reduceIte, Nat.reduceAdd, List.map_toArray, List.map_cons, List.map_nil, Bool.false_eq_true, Nat.reduceBEq, Option.map_some, Option.map_none, reduceCtorEq]
    exact ⟨h, Bks.zero⟩
  · rintro ⟨K, l⟩ tm H1 ⟨h0, h1, h2, h6, h7, h8, hK, hs, hb, hsm⟩
    have w1 : IntKind.i64.wrap (((K * 20 + 20 : Nat) : Int) + 20) = (((K + 1) * 20 + 20 : Nat) : Int) := by rw [IntWalk.i64_in _ (by omega)]; omega
    simp -implicitDefEqProofs only [kz, kk0, kk1, kk2, kk3, ↓two_true, ↓two_false, oS_some, oM_some, mkv, aggAt, Nat.reduceLeDiff, Nat.reduceSub, Nat.reduceMul, implies_true, Nat.reduceEqDiff, reduceIte, Nat.reduceAdd, Nat.reduceBEq, reduceCtorEq, h0, h1, h2, h6, h7, h8]
    refine two_intro (fun hc => ?_) (fun hc => ?_)
    · have hle : K * 20 + 20 ≤ n := by have := of_decide_eq_true hc; omega
      have hin := insSort_ok (x := K * 20) (y := K * 20 + 20) hcmp hs (by omega) (by omega) (by omega) (fun p q p1 p2 p3 => by rw [hsm p p1, hsm q (by omega)]; exact ha p q p2 (by omega))
      rw [hN] at hin
      refine hin.mono ?_
      rintro _ H2 ⟨l2, s2, so, mv⟩
      simp -implicitDefEqProofs only [kz, kk0, kk1, kk2, kk3, ↓two_true, ↓two_false, oS_some, oM_some, mkv, aggAt, Nat.reduceLeDiff, Nat.reduceSub, Nat.reduceMul, implies_true, Nat.reduceEqDiff, reduceIte, Nat.reduceAdd, Nat.reduceBEq, reduceCtorEq, h0, h1, h2, h6, h7, h8, w1]
      refine ⟨(K + 1, l2), by simp only; omega, by simp only; congr 2; omega, rfl, by simp only; omega, s2, hb.step (fun i hi => mv.out i (.inl hi)) so (MvI.mv (fun i i1 i2 => ⟨i, i1, i2, hsm i i1⟩) mv), fun i hi => ?_⟩
      rw [mv.out i (.inr (by simp only at hi; omega)), hsm i (by simp only at hi; omega)]
    · have hlt : n < K * 20 + 20 := by have := of_decide_eq_false hc; omega
      have hin := insSort_ok (x := K * 20) (y := n) hcmp hs (by omega) (by omega) (by omega) (fun p q p1 p2 p3 => by rw [hsm p p1, hsm q (by omega)]; exact ha p q p2 (by omega))
      rw [hN] at hin
      refine hin.mono ?_
      rintro _ H2 ⟨l2, s2, so, mv⟩
      have hbd : Bkd D l0 l2 20 n := hb.done (fun i hi => mv.out i (.inl hi)) so (MvI.mv (fun i i1 i2 => ⟨i, i1, i2, hsm i i1⟩) mv) (by omega) (by omega)
      clear hb hsm hin mv so hs
      simp -implicitDefEqProofs only [kz, kk0, kk1, kk2, kk3, ↓two_true, ↓two_false, oS_some, oM_some, mkv, aggAt, Nat.reduceLeDiff, Nat.reduceSub, Nat.reduceMul, implies_true, Nat.reduceEqDiff, reduceIte, Nat.reduceAdd, Nat.reduceBEq, reduceCtorEq, h0, h1, h2, h6, h7, h8]
      refine rW_loop (σ := Nat × List Int) (fun (S, l) tm H' => tm 0 = .slice (some ⟨b, o, none⟩) n 1 ∧ tm 1 = .int .i64 n ∧ tm 2 = .func (.func g) #[] #[cap] ∧ tm 6 = .int .i64 S ∧ 0 < S ∧ S ≤ 2 * n + 20 ∧ SR G b o l0 l H' ∧ Bkd D l0 l S n) (fun s => n - s.1) (20, l2) ?_ ?_
      · simp -implicitDefEqProofs [kk0, kk1, kk2, kk3, rW_block, ↓two_true, ↓two_false, rW_cond, rO_guard, oS_some, oM_some, mkv, aggAt, Nat.reduceLeDiff, Nat.reduceSub, Nat.reduceMul, cond_true, cond_false, Option.bind_some, List.length_append, List.length_cons, List.length_nil, List.append_assoc, List.cons_append, List.nil_append, List.set_cons_zero, List.set_cons_succ, List.size_toArray, List.all_cons, List.all_nil, List.drop_zero, List.drop_succ_cons, List.take_succ_cons, List.take_zero, List.mem_cons, Prod.mk.injEq, List.not_mem_nil, implies_true, List.getElem?_toArray, List.getElem?_cons_zero, List.getElem?_cons_succ, List.getElem?_nil, Option.getD_some, Option.getD_none, Nat.reduceEqDiff, reduceIte, Nat.reduceAdd, List.map_toArray, List.map_cons, List.map_nil, Bool.false_eq_true, Nat.reduceBEq, Option.map_some, Option.map_none, reduceCtorEq, h0, h1, h2, h6]
        exact ⟨s2, hbd⟩
      · rintro ⟨S, l⟩ tm H3 ⟨h0, h1, h2, h6, hS, hS2, hs, hbd⟩
        have w2 : IntKind.i64.wrap (2 * (S : Int)) = ((2 * S : Nat) : Int) := by rw [IntWalk.i64_in _ (by omega)]; omega
        have w3 : IntKind.i64.wrap ((S : Int) * 2) = ((2 * S : Nat) : Int) := by rw [IntWalk.i64_in _ (by omega)]; omega
        simp -implicitDefEqProofs only [kz, kk0, kk1, kk2, kk3, ↓two_true, ↓two_false, oS_some, oM_some, mkv, aggAt, Nat.reduceLeDiff, Nat.reduceSub, Nat.reduceMul, implies_true, Nat.reduceEqDiff, reduceIte, Nat.reduceAdd, Nat.reduceBEq, reduceCtorEq, h0, h1, h2, h6, w2]
        refine two_intro (fun hc => ?_) (fun hc => ?_)
        · have hSn : S < n := by have := of_decide_eq_true hc; omega
          refine rW_loop (σ := Nat × List Int) (fun (K, l') tm H' => tm 0 = .slice (some ⟨b, o, none⟩) n 1 ∧ tm 1 = .int .i64 n ∧ tm 2 = .func (.func g) #[] #[cap] ∧ tm 6 = .int .i64 S ∧ tm 7 = .int .i64 (K * (2 * S) : Nat) ∧ tm 8 = .int .i64 (K * (2 * S) + 2 * S : Nat) ∧ K * (2 * S) ≤ n ∧ SR G b o l0 l' H' ∧ Bks D l0 l' (2 * S) K ∧ ∀ i, K * (2 * S) ≤ i → gx l' i = gx l i) (fun s => n - s.1 * (2 * S)) (0, l) ?_ ?_
          · simp -implicitDefEqProofs [kk0, kk1, kk2, kk3, rW_block, ↓two_true, ↓two_false, rW_cond, rO_guard, oS_some, oM_some, mkv, aggAt, Nat.reduceLeDiff, Nat.reduceSub, Nat.reduceMul, cond_true, cond_false, Option.bind_some, List.length_append, List.length_cons, List.length_nil, List.append_assoc, List.cons_append, List.nil_append, List.set_cons_zero, List.set_cons_succ, List.size_toArray, List.all_cons, List.all_nil, List.drop_zero, List.drop_succ_cons, List.take_succ_cons, List.take_zero, List.mem_cons, Prod.mk.injEq, List.not_mem_nil, implies_true, List.getElem?_toArray, List.getElem?_cons_zero, List.getElem?_cons_succ, List.getElem?_nil, Option.getD_some, Option.getD_none, Nat.reduceEqDiff, reduceIte, Nat.reduceAdd, List.map_toArray, List.map_cons, List.map_nil, Bool.false_eq_true, Nat.reduceBEq, Option.map_some, Option.map_none, reduceCtorEq, h0, h1, h2, h6]
            exact ⟨hs, Bks.zero⟩
          · rintro ⟨K, l'⟩ tm H4 ⟨h0, h1, h2, h6, h7, h8, hK, hs, hb, hsm⟩
            have eK : (K + 1) * (2 * S) = K * (2 * S) + 2 * S := Nat.succ_mul _ _
            have w4 : IntKind.i64.wrap (((K * (2 * S) : Nat) : Int) + S) = ((K * (2 * S) + S : Nat) : Int) := by rw [IntWalk.i64_in _ (by omega)]; omega
            simp -implicitDefEqProofs only [kz, kk0, kk1, kk2, kk3, ↓two_true, ↓two_false, oS_some, oM_some, mkv, aggAt, Nat.reduceLeDiff, Nat.reduceSub, Nat.reduceMul, implies_true, Nat.reduceEqDiff, reduceIte, Nat.reduceAdd, Nat.reduceBEq, reduceCtorEq, h0, h1, h2, h6, h7, h8, w2, w3, w4]
            refine two_intro (fun hc => ?_) (fun hc => ?_)
            · have hle : K * (2 * S) + 2 * S ≤ n := by have := of_decide_eq_true hc; omega
              have w5 : IntKind.i64.wrap (((K * (2 * S) + 2 * S : Nat) : Int) + ((2 * S : Nat) : Int)) = (((K + 1) * (2 * S) + 2 * S : Nat) : Int) := by rw [IntWalk.i64_in _ (by omega)]; omega
              obtain ⟨s1, s2, ah, mi⟩ := hbd.two ha (l := l') (K := K) hsm (b := K * (2 * S) + 2 * S) (by omega) (by omega) hS
              have hin := symMerge_ok hcmp (by omega) n H4 l' (K * (2 * S)) (K * (2 * S) + S) (K * (2 * S) + 2 * S) (by omega) hs (by omega) (by omega) (by omega) s1 s2 ah
              rw [hN] at hin
              refine hin.mono ?_
              rintro _ H5 ⟨l3, s3, so, mv⟩
              simp -implicitDefEqProofs only [kz, kk0, kk1, kk2, kk3, ↓two_true, ↓two_false, oS_some, oM_some, mkv, aggAt, Nat.reduceLeDiff, Nat.reduceSub, Nat.reduceMul, implies_true, Nat.reduceEqDiff, reduceIte, Nat.reduceAdd, Nat.reduceBEq, reduceCtorEq, h0, h1, h2, h6, h7, h8, w2, w5]
              refine ⟨(K + 1, l3), by simp only; omega, by simp only; rw [eK], by simp only, by simp only; omega, s3, hb.step (fun i hi => mv.out i (.inl hi)) so (mi.mv mv), fun i hi => ?_⟩
              rw [mv.out i (.inr (by simp only at hi; omega)), hsm i (by simp only at hi; omega)]
            · have hlt : n < K * (2 * S) + 2 * S := by have := of_decide_eq_false hc; omega
              refine two_intro (fun hd => ?_) (fun hd => ?_)
              · have hm : K * (2 * S) + S < n := by have := of_decide_eq_true hd; omega
                obtain ⟨s1, s2, ah, mi⟩ := hbd.two ha (l := l') (K := K) hsm (b := n) (by omega) hm hS
                have hin := symMerge_ok hcmp (by omega) n H4 l' (K * (2 * S)) (K * (2 * S) + S) n (by omega) hs (by omega) (by omega) (by omega) s1 s2 ah
                rw [hN] at hin
                refine hin.mono ?_
                rintro _ H5 ⟨l3, s3, so, mv⟩
                simp -implicitDefEqProofs only [kz, kk0, kk1, kk2, kk3, ↓two_true, ↓two_false, oS_some, oM_some, mkv, aggAt, Nat.reduceLeDiff, Nat.reduceSub, Nat.reduceMul, implies_true, Nat.reduceEqDiff, reduceIte, Nat.reduceAdd, Nat.reduceBEq, reduceCtorEq, h0, h1, h2, h6, h7, h8, w3]
                exact ⟨(2 * S, l3), by simp only; omega, rfl, by simp only; omega, by simp only; omega, s3, hb.done (fun i hi => mv.out i (.inl hi)) so (mi.mv mv) (by omega) (by omega)⟩
              · have hm : n ≤ K * (2 * S) + S := by have := of_decide_eq_false hd; omega
                obtain ⟨so, mi⟩ := hbd.one (l := l') (K := K) hsm hm
                exact ⟨(2 * S, l'), by simp only; omega, rfl, by simp only; omega, by simp only; omega, hs, hb.done (fun i hi => rfl) so mi (by omega) (by omega)⟩
        · have hSn : n ≤ S := by have := of_decide_eq_false hc; omega
          refine ⟨l, hs, ?_⟩
          rcases Nat.eq_zero_or_pos n with h9 | h9
          · intro i j i1 i2 i3; omega
          · have := (hbd 0 (by omega)).1
            rw [Nat.zero_mul, Nat.zero_add, Nat.min_eq_right hSn] at this
            exact this

set_option maxHeartbeats 4000000 in
theorem sortStable_ok {G H : AH} {b o : Nat} {l0 : List Int} {g : FuncId} {cap : Value} {D : Int → Int} (hcmp : CmpOk Try.prog g cap G b o l0 D) (hn : l0.length ≤ 1048576) (h : SR G b o l0 l0 H) (ha : AscS l0 l0.length) :
    CallsA Try.prog 140 #[.slice (some ⟨b, o, none⟩) l0.length 1, .func (.func g) #[] #[cap]] H fun r H' => ∃ l', SR G b o l0 l' H' ∧ SortS D l' 0 l0.length := by
  refine w140 ?_
  unfold k140
  simp -implicitDefEqProofs only [kz, kk0, kk1, kk2, kk3, ↓two_true, ↓two_false, oS_some, oM_some, mkv, aggAt, Nat.reduceLeDiff, Nat.reduceSub, Nat.reduceMul, implies_true, Nat.reduceEqDiff, reduceIte, Nat.reduceAdd, Nat.reduceBEq, reduceCtorEq, ln43]
  refine (stable_ok hcmp hn h ha).mono ?_
  rintro _ H1 hh
  simp -implicitDefEqProofs only [kz, kk0, kk1, kk2, kk3, ↓two_true, ↓two_false, oS_some, oM_some, mkv, aggAt, Nat.reduceLeDiff, Nat.reduceSub, Nat.reduceMul, implies_true, Nat.reduceEqDiff, reduceIte, Nat.reduceAdd, Nat.reduceBEq, reduceCtorEq, ln43]
  exact hh

theorem isNaN_eq {a : Int} {H : AH} {Φ : Value → AH → Prop} : CallsA Try.prog 178 #[.int .i64 a] H Φ = Φ (.bool false) H := by
  have : CallsA Try.prog 178 #[.int .i64 a] H fun r H' => r = .bool false ∧ H' = H := by
    refine w178 ?_
    unfold k178
    simp -implicitDefEqProofs only [kz, kk0, kk1, kk2, kk3, ↓two_true, ↓two_false, oS_some, oM_some, mkv, aggAt, Nat.reduceLeDiff, Nat.reduceSub, Nat.reduceMul, implies_true, Nat.reduceEqDiff, reduceIte, Nat.reduceAdd, Nat.reduceBEq, reduceCtorEq, bne_self_eq_false]
  exact this.eq0

theorem cmpCompare_eq {a c : Int} {H : AH} {Φ : Value → AH → Prop} : CallsA Try.prog 142 #[.int .i64 a, .int .i64 c] H Φ = Φ (.int .i64 (cmpI a c)) H := by
  have : CallsA Try.prog 142 #[.int .i64 a, .int .i64 c] H fun r H' => r = .int .i64 (cmpI a c) ∧ H' = H := by
    refine w142 ?_
    unfold k142
    simp -implicitDefEqProofs only [kz, kk0, kk1, kk2, kk3, ↓two_true, ↓two_false, oS_some, oM_some, mkv, aggAt, Nat.reduceLeDiff, Nat.reduceSub, Nat.reduceMul, implies_true, Nat.reduceEqDiff, reduceIte, Nat.reduceAdd, Nat.reduceBEq, reduceCtorEq, isNaN_eq]
    unfold cmpI
    refine two_intro (fun h => ?_) (fun h => two_intro (fun h1 => ?_) (fun h1 => ?_))
    · rw [if_pos (of_decide_eq_true h)]
    · rw [if_neg (of_decide_eq_false h), if_pos (of_decide_eq_true h1)]
    · rw [if_neg (of_decide_eq_false h), if_neg (of_decide_eq_false h1)]
  exact this.eq0

theorem grade1_eq {H : AH} {B : Nat} {p d : Value} {dt : List Int} (hB : rd H B = some [p, d]) (hd : IntRow H d dt) (hn : dt.length ≤ 1048576) {x y : Int} (hx : 0 ≤ x ∧ x < dt.length) (hy : 0 ≤ y ∧ y < dt.length) {Φ : Value → AH → Prop} :
    CallsA Try.prog 141 #[.int .i64 x, .int .i64 y, .pointer (some ⟨B, 0, none⟩)] H Φ = Φ (.int .i64 (cmpI (gx dt x.toNat) (gx dt y.toNat))) H := by
  have : CallsA Try.prog 141 #[.int .i64 x, .int .i64 y, .pointer (some ⟨B, 0, none⟩)] H fun r H' => r = .int .i64 (cmpI (gx dt x.toNat) (gx dt y.toNat)) ∧ H' = H := by
    obtain ⟨a, c, rfl, gv⟩ := hd.op
    obtain ⟨b, o, cs, rfl, rfl, hrd, hle, hcell⟩ := gv (by omega)
    have g1 := hcell x.toNat (by omega)
    have g2 := hcell y.toNat (by omega)
    rw [gx_el (by omega)] at g1 g2
    refine w141 ?_
    unfold k141
    simp -implicitDefEqProofs only [kz, kk0, kk1, kk2, kk3, ↓two_true, ↓two_false, oS_some, oM_some, mkv, aggAt, Nat.reduceLeDiff, Nat.reduceSub, Nat.reduceMul, implies_true, Nat.reduceEqDiff, reduceIte, Nat.reduceAdd, Nat.reduceBEq, reduceCtorEq, fa45_1, ix43, ld3, ld43, cmpCompare_eq, hB, hrd, Nat.mul_one, g1, g2]
    exact ⟨hx, hy⟩
  exact this.eq0

theorem insSort_zero {H : AH} {a : Option Addr} {c : Nat} {f : Value} : CallsA Try.prog 190 #[.slice a 0 c, .int .i64 0, .int .i64 0, f] H fun r H' => H' = H := by
  refine w190 ?_
  unfold k190
  have w1 : IntKind.i64.wrap ((0 : Int) + 1) = 1 := by decide
  simp -implicitDefEqProofs only [kz, kk0, kk1, kk2, kk3, ↓two_true, ↓two_false, oS_some, oM_some, mkv, aggAt, Nat.reduceLeDiff, Nat.reduceSub, Nat.reduceMul, implies_true, Nat.reduceEqDiff, reduceIte, Nat.reduceAdd, Nat.reduceBEq, reduceCtorEq, ix43, ld3, st3, w1]
  refine rW_loop (σ := Unit) (fun _ tm H' => tm 8 = .int .i64 1 ∧ tm 2 = .int .i64 0 ∧ H' = H) (fun _ => 0) () ?_ ?_
  · simp -implicitDefEqProofs [kk0, kk1, kk2, kk3, rW_block, ↓two_true, ↓two_false, rW_cond, rO_guard, oS_some, oM_some, mkv, aggAt, Nat.reduceLeDiff, Nat.reduceSub, Nat.reduceMul, cond_true, cond_false, Option.bind_some, List.length_append, List.length_cons, List.length_nil, List.append_assoc, List.cons_append, List.nil_append, List.set_cons_zero, List.set_cons_succ, List.size_toArray, List.all_cons, List.all_nil, List.drop_zero, List.drop_succ_cons, List.take_succ_cons, List.take_zero, List.mem_cons, Prod.mk.injEq, List.not_mem_nil, implies_true, List.getElem?_toArray, List.getElem?_cons_zero, List.getElem?_cons_succ, List.getElem?_nil, Option.getD_some, Option.getD_none, Nat.reduceEqDiff, reduceIte, Nat.reduceAdd, List.map_toArray, List.map_cons, List.map_nil, Bool.false_eq_true, Nat.reduceBEq, Option.map_some, Option.map_none, reduceCtorEq, ix43, ld3, st3]
  · rintro _ tm H1 ⟨h8, h2, rfl⟩
    have d1 : decide ((1 : Int) < 0) = false := by decide
    simp -implicitDefEqProofs only [kz, kk0, kk1, kk2, kk3, ↓two_true, ↓two_false, oS_some, oM_some, mkv, aggAt, Nat.reduceLeDiff, Nat.reduceSub, Nat.reduceMul, implies_true, Nat.reduceEqDiff, reduceIte, Nat.reduceAdd, Nat.reduceBEq, reduceCtorEq, ix43, ld3, st3, h8, h2, d1]
theorem sortStable_zero {H : AH} {a : Option Addr} {c : Nat} {f : Value} : CallsA Try.prog 140 #[.slice a 0 c, f] H fun r H' => H' = H := by
  have key : CallsA Try.prog 177 #[.slice a 0 c, .int .i64 0, f] H fun r H' => H' = H := by
    refine w177 ?_
    unfold k177
    simp -implicitDefEqProofs only [kz, kk0, kk1, kk2, kk3, ↓two_true, ↓two_false, oS_some, oM_some, mkv, aggAt, Nat.reduceLeDiff, Nat.reduceSub, Nat.reduceMul, implies_true, Nat.reduceEqDiff, reduceIte, Nat.reduceAdd, Nat.reduceBEq, reduceCtorEq]
    refine rW_loop (σ := Unit) (fun _ tm H' => tm 0 = .slice a 0 c ∧ tm 1 = .int .i64 0 ∧ tm 2 = f ∧ tm 6 = .int .i64 20 ∧ tm 7 = .int .i64 0 ∧ tm 8 = .int .i64 20 ∧ H' = H) (fun _ => 0) () ?_ ?_
    · simp -implicitDefEqProofs [kk0, kk1, kk2, kk3, rW_block, ↓two_true, ↓two_false, rW_cond, rO_guard, oS_some, oM_some, mkv, aggAt, Nat.reduceLeDiff, Nat.reduceSub, Nat.reduceMul, cond_true, cond_false, Option.bind_some, List.length_append, List.length_cons, List.length_nil, List.append_assoc, List.cons_append, List.nil_append, List.set_cons_zero, List.set_cons_succ, List.size_toArray, List.all_cons, List.all_nil, List.drop_zero, List.drop_succ_cons, List.take_succ_cons, List.take_zero, List.mem_cons, Prod.mk.injEq, List.not_mem_nil, implies_true, List.getElem?_toArray, List.getElem?_cons_zero, List.getElem?_cons_succ, List.getElem?_nil, Option.getD_some, Option.getD_none, Nat.reduceEqDiff, reduceIte, Nat.reduceAdd, List.map_toArray, List.map_cons, List.map_nil, Bool.false_eq_true, Nat.reduceBEq, Option.map_some, Option.map_none, reduceCtorEq]
    · rintro _ tm H1 ⟨h0, h1, h2, h6, h7, h8, rfl⟩
      have d1 : decide ((20 : Int) ≤ 0) = false := by decide
      simp -implicitDefEqProofs only [kz, kk0, kk1, kk2, kk3, ↓two_true, ↓two_false, oS_some, oM_some, mkv, aggAt, Nat.reduceLeDiff, Nat.reduceSub, Nat.reduceMul, implies_true, Nat.reduceEqDiff, reduceIte, Nat.reduceAdd, Nat.reduceBEq, reduceCtorEq, h0, h1, h2, h6, h7, h8, d1]
      refine insSort_zero.mono ?_
      rintro _ H2 rfl
      simp -implicitDefEqProofs only [kz, kk0, kk1, kk2, kk3, ↓two_true, ↓two_false, oS_some, oM_some, mkv, aggAt, Nat.reduceLeDiff, Nat.reduceSub, Nat.reduceMul, implies_true, Nat.reduceEqDiff, reduceIte, Nat.reduceAdd, Nat.reduceBEq, reduceCtorEq, h0, h1, h2, h6, h7, h8]
      refine rW_loop (σ := Unit) (fun _ tm H' => tm 1 = .int .i64 0 ∧ tm 6 = .int .i64 20 ∧ H' = H2) (fun _ => 0) () ?_ ?_
      · simp -implicitDefEqProofs [kk0, kk1, kk2, kk3, rW_block, ↓two_true, ↓two_false, rW_cond, rO_guard, oS_some, oM_some, mkv, aggAt, Nat.reduceLeDiff, Nat.reduceSub, Nat.reduceMul, cond_true, cond_false, Option.bind_some, List.length_append, List.length_cons, List.length_nil, List.append_assoc, List.cons_append, List.nil_append, List.set_cons_zero, List.set_cons_succ, List.size_toArray, List.all_cons, List.all_nil, List.drop_zero, List.drop_succ_cons, List.take_succ_cons, List.take_zero, List.mem_cons, Prod.mk.injEq, List.not_mem_nil, implies_true, List.getElem?_toArray, List.getElem?_cons_zero, List.getElem?_cons_succ, List.getElem?_nil, Option.getD_some, Option.getD_none, Nat.reduceEqDiff, reduceIte, Nat.reduceAdd, List.map_toArray, List.map_cons, List.map_nil, Bool.false_eq_true, Nat.reduceBEq, Option.map_some, Option.map_none, reduceCtorEq, h1, h6]
      · rintro _ tm H3 ⟨h1, h6, rfl⟩
        have d1 : decide ((20 : Int) < 0) = false := by decide
        simp -implicitDefEqProofs only [kz, kk0, kk1, kk2, kk3, ↓two_true, ↓two_false, oS_some, oM_some, mkv, aggAt, Nat.reduceLeDiff, Nat.reduceSub, Nat.reduceMul, implies_true, Nat.reduceEqDiff, reduceIte, Nat.reduceAdd, Nat.reduceBEq, reduceCtorEq, h1, h6, d1]
  refine w140 ?_
  unfold k140
  simp -implicitDefEqProofs only [kz, kk0, kk1, kk2, kk3, ↓two_true, ↓two_false, oS_some, oM_some, mkv, aggAt, Nat.reduceLeDiff, Nat.reduceSub, Nat.reduceMul, implies_true, Nat.reduceEqDiff, reduceIte, Nat.reduceAdd, Nat.reduceBEq, reduceCtorEq, ln43, cast0]
  refine key.mono ?_
  rintro _ H1 rfl
  simp -implicitDefEqProofs only [kz, kk0, kk1, kk2, kk3, ↓two_true, ↓two_false, oS_some, oM_some, mkv, aggAt, Nat.reduceLeDiff, Nat.reduceSub, Nat.reduceMul, implies_true, Nat.reduceEqDiff, reduceIte, Nat.reduceAdd, Nat.reduceBEq, reduceCtorEq, ln43]

theorem LX.sort {H0 H : AH} {L : List Ix} {B0 : Nat} {p d v : Value} {l dt : List Int} (h : LX none H0 H L) (i j : Nat) (hi : L[i]? = some (.own (.row v l))) (hj : L[j]? = some (.own (.box B0 [p, d]))) (hk : IntRow H0 d dt) (hn : l.length ≤ 1048576) (hn2 : dt.length ≤ 1048576)
    (ha : AscS l l.length) (hin : ∀ x ∈ l, 0 ≤ x ∧ x < dt.length) : CallsA Try.prog 140 #[v, .func (.func 141) #[] #[.pointer (some ⟨B0, 0, none⟩)]] H fun r H' =>
      ∃ l', LX none H0 H' (L.set i (.own (.row v l'))) ∧ l'.Perm l ∧ SortS (fun x => gx dt x.toNat) l' 0 l.length := by
  rcases h.own i hi with ⟨rfl, rfl⟩ | ⟨b, o, cs, rfl, h1, h2, h3⟩
  · refine sortStable_zero.mono ?_
    rintro _ H' rfl
    refine ⟨[], ?_, List.Perm.refl _, fun i j i1 i2 i3 => by simp at i3⟩
    have : L.set i (.own (.row (.slice none 0 0) [])) = L := by
      obtain ⟨h4, h5⟩ := List.getElem?_eq_some_iff.1 hi
      rw [← h5, List.set_getElem_self]
    rw [this]; exact h
  · have hdr : IntRow H d dt := hk.ext h.ext
    have hs : SR H b o l l H := by
      refine ⟨rfl, fun _ _ => rfl, List.Perm.refl _, cs, h1, h2, fun k x hx => ?_⟩
      have hk2 := (List.getElem?_eq_some_iff.1 hx).1
      have e : ((cs.drop o).take l.length)[k]? = some (.int .i64 x) := by rw [h3]; simp [ints, hx]
      rwa [List.getElem?_take_of_lt hk2, List.getElem?_drop] at e
    obtain ⟨Bp, hb⟩ := h
    have hij : i ≠ j := fun e => by subst e; rw [hi] at hj; cases hj
    have hB0 : B0 ≠ b := fun e => by
      subst e
      exact hb.dj i j _ _ hij hi hj B0 (by simp [Ix.bs, It.bs, blkOf]) (by simp [Ix.bs, It.bs])
    have hdb : ∀ b', blkOf d = some b' → b' ≠ b := fun b' hb' e => by
      subst e
      have h9 := (hb.fr i _ hi b' (by simp [Ix.bs, It.bs, blkOf])).2
      rcases hk with ⟨rfl, _⟩ | ⟨b2, o2, cs2, rfl, hr2, _⟩
      · simp [blkOf] at hb'
      · simp [blkOf] at hb'; subst hb'
        have := rd_lt (H := H0) (b := b2) (by rw [hr2]; rfl)
        omega
    have hbx : H[B0]? = some ⟨[p, d], .own⟩ := hb.ok j _ hj
    have hc : CmpOk Try.prog 141 (.pointer (some ⟨B0, 0, none⟩)) H b o l (fun x => gx dt x.toNat) := ⟨fun l1 H1 s1 x hx y hy Φ => by
      have e1 : Go.Proofs.Ytgekbancaeabgaa.AM.rd H1 B0 = some [p, d] := rd_own (by rw [s1.keep B0 hB0]; exact hbx)
      have e2 : IntRow H1 d dt := hdr.same fun b' o' n' c' e => get_rd (s1.keep b' (hdb b' (by rw [e]; rfl)))
      exact grade1_eq e1 e2 hn2 (hin x hx) (hin y hy)⟩
    refine (sortStable_ok hc hn hs ha).mono ?_
    rintro _ H' ⟨l', s', so⟩
    refine ⟨l', ?_, s'.perm, so⟩
    obtain ⟨cs', g1, g2, g3⟩ := s'.row
    have hl := s'.lenl
    have how : OwnRow H' (.slice (some ⟨b, o, none⟩) l.length 1) l' := by
      rw [← hl]
      refine .inr ⟨b, o, cs', rfl, g1, g2, ?_⟩
      refine List.ext_getElem? fun k => ?_
      rcases Nat.lt_or_ge k l'.length with h8 | h8
      · rw [List.getElem?_take_of_lt h8, List.getElem?_drop, g3 k _ (gx_get h8)]
        simp [ints, gx_get h8]
      · rw [List.getElem?_eq_none (by simp; omega), List.getElem?_eq_none (by simp [ints]; omega)]
    exact LX.push ⟨Bp, hb⟩ i hi how ⟨by rw [s'.len]; exact Nat.le_refl _, fun b' hb' hne => s'.keep b' fun e => by subst e; exact hne rfl, fun b' hb' => .inl hb'⟩

def gD (da : List Int) : Int → Int := fun x => gx da x.toNat
def gradeR (sa da : List Int) : (List Int × List Int) × Int :=
  if arrOk sa da = true then (if sa.length ≠ 1 then (([], []), 4) else (([((grdG (gD da) da.length).length : Int)], grdG (gD da) da.length), 0)) else (([], []), 1)
theorem iota_asc {n : Nat} : AscS (iotaL n) (iotaL n).length := fun i j h1 h2 => by
  rw [iotaL_len] at h2
  have e : ∀ k, k < n → gx (iotaL n) k = k := fun k hk => gx_of (by simp [iotaL, hk])
  rw [e i (by omega), e j h2]; omega
theorem iota_in {n : Nat} {x : Int} (h : x ∈ iotaL n) : 0 ≤ x ∧ x < n := by
  simp [iotaL] at h
  obtain ⟨i, hi, rfl⟩ := h
  omega
/-- One number more is looked at. -/
def putT (D : Int → Int) (x : Int) (s : List Int × Bool) (y : Int) : List Int × Bool := if s.2 = false ∧ D y > D x then (s.1 ++ [x] ++ [y], true) else (s.1 ++ [y], s.2)
def putS (D : Int → Int) (x : Int) (l : List Int) (k : Nat) : List Int × Bool := (l.take k).foldl (putT D x) ([], false)
theorem putS_succ {D : Int → Int} {x : Int} {l : List Int} {k : Nat} (h : k < l.length) : putS D x l (k + 1) = putT D x (putS D x l k) l[k] := by
  unfold putS
  rw [List.take_succ_eq_append_getElem h, List.foldl_append]; rfl
theorem putT_true {D : Int → Int} {x : Int} : ∀ {l acc : List Int}, l.foldl (putT D x) (acc, true) = (acc ++ l, true)
  | [], acc => by simp
  | y :: t, acc => by
    rw [List.foldl_cons, show putT D x (acc, true) y = (acc ++ [y], true) by simp [putT], putT_true]; simp
theorem putT_all {D : Int → Int} {x : Int} : ∀ {l acc : List Int}, (if (l.foldl (putT D x) (acc, false)).2 = true then (l.foldl (putT D x) (acc, false)).1 else (l.foldl (putT D x) (acc, false)).1 ++ [x]) = acc ++ putG D x l
  | [], acc => by simp [putG]
  | y :: t, acc => by
    rw [List.foldl_cons]
    by_cases h : D y > D x
    · rw [show putT D x (acc, false) y = (acc ++ [x] ++ [y], true) by simp [putT, h], putT_true]
      simp [putG, h]
    · rw [show putT D x (acc, false) y = (acc ++ [y], false) by simp [putT, h], putT_all]
      simp [putG, h]
theorem putS_t {D : Int → Int} {x : Int} {l : List Int} (h : (putS D x l l.length).2 = true) : (putS D x l l.length).1 = putG D x l := by
  have := putT_all (D := D) (x := x) (l := l) (acc := [])
  unfold putS at h ⊢
  rw [List.take_length] at h ⊢
  rw [if_pos h] at this
  simpa using this
theorem putS_f {D : Int → Int} {x : Int} {l : List Int} (h : (putS D x l l.length).2 = false) : (putS D x l l.length).1 ++ [x] = putG D x l := by
  have := putT_all (D := D) (x := x) (l := l) (acc := [])
  unfold putS at h ⊢
  rw [List.take_length] at h ⊢
  rw [if_neg (by rw [h]; exact Bool.false_ne_true)] at this
  simpa using this
theorem putS_len {D : Int → Int} {x : Int} {l : List Int} {k : Nat} (h : k ≤ l.length) : (putS D x l k).1.length ≤ 2 * k := by
  induction k with
  | zero => simp [putS]
  | succ k ih =>
    rw [putS_succ (by omega)]
    have := ih (by omega)
    unfold putT
    split <;> simp <;> omega

set_option maxHeartbeats 4000000 in
theorem implGrade_ok {H : AH} {pa qa : Value} {sa da : List Int} (a : AR H pa qa sa da) : CallsA Try.prog 66 #[.agg #[pa, qa]] H fun r H' => Ans1 H H' r (gradeR sa da) := by
  have al := a.l1
  have bl := a.l2
  obtain ⟨za, zc, zb, zd, rfl, rfl⟩ := a.o1
  have q := (LX.nil (H := H))
  refine w66 ?_
  unfold k66
  simp -implicitDefEqProofs only [kz, kk0, kk1, kk2, kk3, ↓two_true, ↓two_false, mkv, aggAt, Nat.reduceLeDiff, Nat.reduceSub, Nat.reduceMul, implies_true, Nat.reduceEqDiff, reduceIte, Nat.reduceAdd, Nat.reduceBEq, reduceCtorEq, al45, ap43_43, bd45, bs43_1, fa45_0, fa45_1, ld43, ld45, ln43, st45]
  refine st_box q fun H1 q1 => ?_
  simp -implicitDefEqProofs only [kz, kk0, kk1, kk2, kk3, ↓two_true, ↓two_false, mkv, aggAt, Nat.reduceLeDiff, Nat.reduceSub, Nat.reduceMul, implies_true, Nat.reduceEqDiff, reduceIte, Nat.reduceAdd, Nat.reduceBEq, reduceCtorEq, al45, ap43_43, bd45, bs43_1, fa45_0, fa45_1, ld43, ld45, ln43, st45, q1.rd 0 rfl]
  refine st_box q1 fun H2 q2 => ?_
  simp -implicitDefEqProofs only [kz, kk0, kk1, kk2, kk3, ↓two_true, ↓two_false, mkv, aggAt, Nat.reduceLeDiff, Nat.reduceSub, Nat.reduceMul, implies_true, Nat.reduceEqDiff, reduceIte, Nat.reduceAdd, Nat.reduceBEq, reduceCtorEq, al45, ap43_43, bd45, bs43_1, fa45_0, fa45_1, ld43, ld45, ln43, st45, q2.rd 0 rfl, q2.rd 1 rfl]
  refine (implOk_ar (a.ext q2.ext)).mono ?_
  rintro _ H3 ⟨rfl, he1⟩
  have q3 := q2.extd he1
  simp -implicitDefEqProofs only [kz, kk0, kk1, kk2, kk3, ↓two_true, ↓two_false, mkv, aggAt, Nat.reduceLeDiff, Nat.reduceSub, Nat.reduceMul, implies_true, Nat.reduceEqDiff, reduceIte, Nat.reduceAdd, Nat.reduceBEq, reduceCtorEq, al45, ap43_43, bd45, bs43_1, fa45_0, fa45_1, ld43, ld45, ln43, st45, q3.rd 0 rfl, q3.rd 1 rfl]
  refine two_intro (fun u1 => ?_) (fun u1 => ?_)
  ·
    have w1 : arrOk sa da = false := by simpa using u1
    try simp -implicitDefEqProofs only [kz, kk0, kk1, kk2, kk3, ↓two_true, ↓two_false, mkv, aggAt, Nat.reduceLeDiff, Nat.reduceSub, Nat.reduceMul, implies_true, Nat.reduceEqDiff, reduceIte, Nat.reduceAdd, Nat.reduceBEq, reduceCtorEq, al45, ap43_43, bd45, bs43_1, fa45_0, fa45_1, ld43, ld45, ln43, st45, q3.rd 0 rfl, q3.rd 1 rfl]
    refine st_set q3 0 rfl fun H4 q4 => ?_
    simp only [List.set_cons_zero, List.set_cons_succ] at q4
    simp -implicitDefEqProofs only [kz, kk0, kk1, kk2, kk3, ↓two_true, ↓two_false, mkv, aggAt, Nat.reduceLeDiff, Nat.reduceSub, Nat.reduceMul, implies_true, Nat.reduceEqDiff, reduceIte, Nat.reduceAdd, Nat.reduceBEq, reduceCtorEq, al45, ap43_43, bd45, bs43_1, fa45_0, fa45_1, ld43, ld45, ln43, st45, q4.rd 0 rfl, q4.rd 1 rfl]
    -- end1
    exact q4.err (by unfold gradeR; rw [if_neg (by rw [w1]; decide)])
  ·
    have v1 : arrOk sa da = true := by simpa using u1
    try simp -implicitDefEqProofs only [kz, kk0, kk1, kk2, kk3, ↓two_true, ↓two_false, mkv, aggAt, Nat.reduceLeDiff, Nat.reduceSub, Nat.reduceMul, implies_true, Nat.reduceEqDiff, reduceIte, Nat.reduceAdd, Nat.reduceBEq, reduceCtorEq, al45, ap43_43, bd45, bs43_1, fa45_0, fa45_1, ld43, ld45, ln43, st45, q3.rd 0 rfl, q3.rd 1 rfl]
    refine two_intro (fun u2 => ?_) (fun u2 => ?_)
    ·
      have v2 : sa.length ≠ 1 := by have h5 : ¬ (sa.length : Int) = 1 := (by simpa using u2); omega
      try simp -implicitDefEqProofs only [kz, kk0, kk1, kk2, kk3, ↓two_true, ↓two_false, mkv, aggAt, Nat.reduceLeDiff, Nat.reduceSub, Nat.reduceMul, implies_true, Nat.reduceEqDiff, reduceIte, Nat.reduceAdd, Nat.reduceBEq, reduceCtorEq, al45, ap43_43, bd45, bs43_1, fa45_0, fa45_1, ld43, ld45, ln43, st45, q3.rd 0 rfl, q3.rd 1 rfl]
      refine st_set q3 0 rfl fun H5 q5 => ?_
      simp only [List.set_cons_zero, List.set_cons_succ] at q5
      simp -implicitDefEqProofs only [kz, kk0, kk1, kk2, kk3, ↓two_true, ↓two_false, mkv, aggAt, Nat.reduceLeDiff, Nat.reduceSub, Nat.reduceMul, implies_true, Nat.reduceEqDiff, reduceIte, Nat.reduceAdd, Nat.reduceBEq, reduceCtorEq, al45, ap43_43, bd45, bs43_1, fa45_0, fa45_1, ld43, ld45, ln43, st45, q5.rd 0 rfl, q5.rd 1 rfl]
      -- end2
      exact q5.err (by unfold gradeR; rw [if_pos v1, if_pos v2])
    ·
      have v2 : sa.length = 1 := by have h5 : (sa.length : Int) = 1 := (by simpa using u2); omega
      try simp -implicitDefEqProofs only [kz, kk0, kk1, kk2, kk3, ↓two_true, ↓two_false, mkv, aggAt, Nat.reduceLeDiff, Nat.reduceSub, Nat.reduceMul, implies_true, Nat.reduceEqDiff, reduceIte, Nat.reduceAdd, Nat.reduceBEq, reduceCtorEq, al45, ap43_43, bd45, bs43_1, fa45_0, fa45_1, ld43, ld45, ln43, st45, q3.rd 0 rfl, q3.rd 1 rfl]
      have q6 := q3.nil0
      refine rW_loopQ (σ := Nat × Value) q6 [1, 2, 3, 19] (fun x tm => tm 20 = .int .i64 x.1 ∧ tm 4 = x.2 ∧ x.1 ≤ da.length) (fun x L => L.set 0 (.own (.row x.2 (iotaL x.1)))) (fun x => da.length - x.1) (0, _) ⟨rfl, by first | rfl | assumption, Nat.zero_le _⟩ rfl ?_
      rintro ⟨i, ov⟩ tm1 H6 ⟨lv1, lv2, lv3, lv4, -⟩ ⟨ki, ko, hi⟩ q7
      simp -implicitDefEqProofs only [kz, kk0, kk1, kk2, kk3, ↓two_true, ↓two_false, mkv, aggAt, Nat.reduceLeDiff, Nat.reduceSub, Nat.reduceMul, implies_true, Nat.reduceEqDiff, reduceIte, Nat.reduceAdd, Nat.reduceBEq, reduceCtorEq, al45, ap43_43, bd45, bs43_1, fa45_0, fa45_1, ld43, ld45, ln43, st45] at lv1 lv2 lv3 lv4
      simp only [List.set_cons_zero, List.set_cons_succ] at q7
      simp only at ki ko hi
      have wi : IntKind.i64.wrap ((i : Int) + 1) = ((i + 1 : Nat) : Int) := IntWalk.i64_in ((i : Int) + 1) (by omega)
      obtain ⟨a1, c1, rfl⟩ := (q7.own 0 rfl).isSlice
      simp -implicitDefEqProofs only [kz, kk0, kk1, kk2, kk3, ↓two_true, ↓two_false, mkv, aggAt, Nat.reduceLeDiff, Nat.reduceSub, Nat.reduceMul, implies_true, Nat.reduceEqDiff, reduceIte, Nat.reduceAdd, Nat.reduceBEq, reduceCtorEq, al45, ap43_43, bd45, bs43_1, fa45_0, fa45_1, ld43, ld45, ln43, st45, lv1, lv2, lv3, lv4, ki, ko, wi, q7.rd 1 rfl, q7.rd 2 rfl]
      refine two_intro (fun u3 => ?_) (fun u3 => ?_)
      ·
        have hi2 : i < da.length := by have h5 := of_decide_eq_true u3; omega
        try simp -implicitDefEqProofs only [kz, kk0, kk1, kk2, kk3, ↓two_true, ↓two_false, mkv, aggAt, Nat.reduceLeDiff, Nat.reduceSub, Nat.reduceMul, implies_true, Nat.reduceEqDiff, reduceIte, Nat.reduceAdd, Nat.reduceBEq, reduceCtorEq, al45, ap43_43, bd45, bs43_1, fa45_0, fa45_1, ld43, ld45, ln43, st45, lv1, lv2, lv3, lv4, ki, ko, wi, q7.rd 1 rfl, q7.rd 2 rfl]
        refine st_lit [(i : Int)] rfl rfl q7 fun H7 q8 => ?_
        simp -implicitDefEqProofs only [kz, kk0, kk1, kk2, kk3, ↓two_true, ↓two_false, mkv, aggAt, Nat.reduceLeDiff, Nat.reduceSub, Nat.reduceMul, implies_true, Nat.reduceEqDiff, reduceIte, Nat.reduceAdd, Nat.reduceBEq, reduceCtorEq, al45, ap43_43, bd45, bs43_1, fa45_0, fa45_1, ld43, ld45, ln43, st45, lv1, lv2, lv3, lv4, ki, ko, wi, q8.rd 2 rfl, q8.rd 3 rfl]
        refine st_app q8 1 rfl (q8.int 0 rfl) (by rw [iotaL_len]; simp; omega) fun a2 c2 H8 q9 => ?_
        simp only [List.set_cons_zero, List.set_cons_succ, List.length_nil, List.length_cons, Nat.zero_add, List.nil_append] at q9 ⊢
        simp -implicitDefEqProofs only [kz, kk0, kk1, kk2, kk3, ↓two_true, ↓two_false, mkv, aggAt, Nat.reduceLeDiff, Nat.reduceSub, Nat.reduceMul, implies_true, Nat.reduceEqDiff, reduceIte, Nat.reduceAdd, Nat.reduceBEq, reduceCtorEq, al45, ap43_43, bd45, bs43_1, fa45_0, fa45_1, ld43, ld45, ln43, st45, lv1, lv2, lv3, lv4, ki, ko, wi, q9.rd 2 rfl, q9.rd 3 rfl]
        -- back loop1
        refine ⟨(i + 1, _), (by simp only; omega), ⟨rfl, rfl, rfl, rfl, trivial⟩, ⟨by first | rfl | simp, rfl, hi2⟩, ?_⟩
        simp only [List.set_cons_zero, List.set_cons_succ, iotaL_succ]
        exact q9.pick [1, 2, 3] _ rfl (by decide)
      ·
        have hil : i = da.length := Nat.le_antisymm hi (by have h5 := of_decide_eq_false u3; omega)
        subst hil
        try simp -implicitDefEqProofs only [kz, kk0, kk1, kk2, kk3, ↓two_true, ↓two_false, mkv, aggAt, Nat.reduceLeDiff, Nat.reduceSub, Nat.reduceMul, implies_true, Nat.reduceEqDiff, reduceIte, Nat.reduceAdd, Nat.reduceBEq, reduceCtorEq, al45, ap43_43, bd45, bs43_1, fa45_0, fa45_1, ld43, ld45, ln43, st45, lv1, lv2, lv3, lv4, ki, ko, wi, q7.rd 1 rfl, q7.rd 2 rfl]
        have hll := iotaL_len (n := da.length)
        refine (LX.sort q7 0 2 rfl rfl a.od (by rw [hll]; omega) (by omega) iota_asc (fun x hx => iota_in hx)).mono ?_
        rintro _ H9 ⟨lq, q10, pq, sq⟩
        simp only [List.set_cons_zero, List.set_cons_succ] at q10
        obtain rfl : lq = grdG (gD da) da.length := grdG_eq pq (by rw [hll] at sq; exact sq)
        simp -implicitDefEqProofs only [kz, kk0, kk1, kk2, kk3, ↓two_true, ↓two_false, mkv, aggAt, Nat.reduceLeDiff, Nat.reduceSub, Nat.reduceMul, implies_true, Nat.reduceEqDiff, reduceIte, Nat.reduceAdd, Nat.reduceBEq, reduceCtorEq, al45, ap43_43, bd45, bs43_1, fa45_0, fa45_1, ld43, ld45, ln43, st45, lv1, lv2, lv3, lv4, ki, ko, wi, q10.rd 1 rfl, q10.rd 2 rfl]
        refine (vector_ok (q10.int 0 rfl) (by rw [grdG_len]; omega) ).mono ?_
        rintro _ H10 ⟨p1, p2, rfl, g1⟩
        have q11 := q10.join g1
        simp only [List.map_cons, List.map_nil, List.cons_append, List.nil_append] at q11
        obtain ⟨a3, c3, rfl⟩ := (q11.own 0 rfl).isSlice
        obtain ⟨a4, c4, rfl⟩ := (q11.own 1 rfl).isSlice
        simp -implicitDefEqProofs only [kz, kk0, kk1, kk2, kk3, ↓two_true, ↓two_false, mkv, aggAt, Nat.reduceLeDiff, Nat.reduceSub, Nat.reduceMul, implies_true, Nat.reduceEqDiff, reduceIte, Nat.reduceAdd, Nat.reduceBEq, reduceCtorEq, al45, ap43_43, bd45, bs43_1, fa45_0, fa45_1, ld43, ld45, ln43, st45, lv1, lv2, lv3, lv4, ki, ko, wi, q11.rd 3 rfl, q11.rd 4 rfl]
        refine st_set q11 3 rfl fun H11 q12 => ?_
        simp only [List.set_cons_zero, List.set_cons_succ] at q12
        simp -implicitDefEqProofs only [kz, kk0, kk1, kk2, kk3, ↓two_true, ↓two_false, mkv, aggAt, Nat.reduceLeDiff, Nat.reduceSub, Nat.reduceMul, implies_true, Nat.reduceEqDiff, reduceIte, Nat.reduceAdd, Nat.reduceBEq, reduceCtorEq, al45, ap43_43, bd45, bs43_1, fa45_0, fa45_1, ld43, ld45, ln43, st45, lv1, lv2, lv3, lv4, ki, ko, wi, q12.rd 3 rfl, q12.rd 4 rfl]
        -- end3
        exact q12.ans 0 1 (by decide) rfl rfl (by unfold gradeR; rw [if_pos v1, if_neg (fun h => h v2)])

end Go.Proofs.Ytgekbancaeabgaa.AM
