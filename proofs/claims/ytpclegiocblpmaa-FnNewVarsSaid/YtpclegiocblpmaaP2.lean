/- What the functions answer, part 2. -/
import Derived.Test.YtpclegiocblpmaaP1
set_option linter.unusedVariables false
set_option linter.unusedSimpArgs false
set_option linter.defProp false
set_option maxRecDepth 100000
/- What the functions answer, part 2. -/
namespace Go.Proofs.Ytpclegiocblpmaa.AM
open Go Go.Proofs.Ytpclegiocblpmaa Go.Proofs
set_option maxHeartbeats 4000000 in
theorem implTreeOk_ok {H : AH} {v : Value} {n : Nat} {xs : List Value} (hv : FRow H v kExpr n xs) (hl : n ≤ 1048576) :
    CallsA Try.prog 54 #[.agg #[v]] H fun r H' => r = .bool (trOk (ndL (cvs H xs) n)) ∧ ∃ K, H' = H ++ K := by
  obtain ⟨a, c, rfl, gv⟩ := hv.opn 7 rfl
  have hll : (ndL (cvs H xs) n).length = n := ndL_len
  rw [trOk_eq hll]
  have hv0 := hv.mono (L := [⟨[.slice a n c], .own⟩])
  have ec := fun Φ => (containsFuncExpr_ok (g := 79) (p := fun V => !ndOk (ndOf V)) hv0 (by omega) (fun L x hx => treeOk1_el hx)).eqV (Φ := Φ)
  rw [hv.vals, any_nd] at ec
  refine w54 ?_
  unfold k54
  simp -implicitDefEqProofs only [kz, kk0, kk1, kk2, kk3, ↓two_true, ↓two_false, oS_some, oM_some, mkv, aggAt, Nat.reduceLeDiff, Nat.reduceSub, Nat.reduceMul, implies_true, Nat.reduceEqDiff, reduceIte, Nat.reduceAdd, Nat.reduceBEq, reduceCtorEq, fa46_0, ix24, ld3, ld44, ld46, ln44, within_eq, ec]
  refine two_intro (fun h1 => ?_) (fun h1 => ?_)
  · rw [show inB n 1 60 = false by simpa using h1]
    exact ⟨rfl, _, rfl⟩
  · have hb : inB n 1 60 = true := by simpa using h1
    have hb2 : 1 ≤ n ∧ n ≤ 60 := by simp [inB] at hb; omega
    rw [hb]
    refine two_intro (fun h2 => ?_) (fun h2 => ?_)
    · have h3 : (ndL (cvs H xs) n).all ndOk = false := by simpa using h2
      rw [h3]
      exact ⟨rfl, _, rfl⟩
    · have h3 : (ndL (cvs H xs) n).all ndOk = true := by simpa using h2
      rw [h3]
      generalize hJ : jk Try.prog 78 #[.slice a n c, .func (.func 79) #[] #[]] (H ++ [⟨[.slice a n c], .own⟩]) = J
      have hd := owned_ok (hv.mono (L := ⟨[.slice a n c], .own⟩ :: J)) hb2.2 (by rw [hv.vals]; exact h3)
      rw [hv.vals] at hd
      refine hd.mono ?_
      rintro _ H2 ⟨⟨w, ok, rfl, hw⟩, hK⟩
      have hK2 := ext_trans ⟨_, rfl⟩ hK
      rcases hw with ⟨rfl, ow, e1, e2, e3, e4⟩ | ⟨rfl, e1⟩
      · obtain ⟨b2, o2, cs2, rfl, hb3, hle2, hcs2⟩ := e4.blk (by omega)
        have hg := hcs2 (n - 1) _ (gI_end e2 (by omega))
        have wl : IntKind.i64.wrap ((n : Int) - 1) = ((n - 1 : Nat) : Int) := by rw [IntWalk.i64_in _ (by omega)]; omega
        simp -implicitDefEqProofs only [kz, kk0, kk1, kk2, kk3, ↓two_true, ↓two_false, oS_some, oM_some, mkv, aggAt, Nat.reduceLeDiff, Nat.reduceSub, Nat.reduceMul, implies_true, Nat.reduceEqDiff, reduceIte, Nat.reduceAdd, Nat.reduceBEq, reduceCtorEq, fa46_0, ix24, ld3, ld44, ld46, ln44, wl, e2, Int.toNat_natCast, Nat.mul_one, rd_own hb3, hg, e1]
        exact ⟨by omega, by simp, hK2⟩
      · simp -implicitDefEqProofs only [kz, kk0, kk1, kk2, kk3, ↓two_true, ↓two_false, oS_some, oM_some, mkv, aggAt, Nat.reduceLeDiff, Nat.reduceSub, Nat.reduceMul, implies_true, Nat.reduceEqDiff, reduceIte, Nat.reduceAdd, Nat.reduceBEq, reduceCtorEq, fa46_0, ix24, ld3, ld44, ld46, ln44, e1]
        exact ⟨by simp, hK2⟩

/-- The strict order of indices: by their keys, then by themselves. -/
def slt (D : Int → Int) (x y : Int) : Prop := D x < D y ∨ (D x = D y ∧ x < y)
/-- What stands at a place. -/
def gx (l : List Int) (i : Nat) : Int := l.getD i 0
theorem gx_get {l : List Int} {i : Nat} (h : i < l.length) : l[i]? = some (gx l i) := by
  simp [gx, List.getD_eq_getElem?_getD, List.getElem?_eq_getElem h]
/-- The places from one to another are sorted. -/
def SortS (D : Int → Int) (l : List Int) (a b : Nat) : Prop := ∀ i j, a ≤ i → i < j → j < b → slt D (gx l i) (gx l j)
/-- What stands between two places was moved there, and no more. -/
structure Mv (l l' : List Int) (a b : Nat) : Prop where
  perm : l'.Perm l
  out : ∀ i, i < a ∨ b ≤ i → gx l' i = gx l i
  inn : ∀ i, a ≤ i → i < b → ∃ j, a ≤ j ∧ j < b ∧ gx l' i = gx l j
theorem Mv.len {l l' : List Int} {a b : Nat} (h : Mv l l' a b) : l'.length = l.length := h.perm.length_eq
theorem Mv.trans {l l' l'' : List Int} {a b : Nat} (h : Mv l l' a b) (h' : Mv l' l'' a b) : Mv l l'' a b :=
  ⟨h'.perm.trans h.perm, fun i hi => by rw [h'.out i hi, h.out i hi], fun i h1 h2 => by
    obtain ⟨j, j1, j2, e⟩ := h'.inn i h1 h2
    obtain ⟨k, k1, k2, e2⟩ := h.inn j j1 j2
    exact ⟨k, k1, k2, by rw [e, e2]⟩⟩
theorem SortS.mv {D : Int → Int} {l l' : List Int} {a b : Nat} (h : SortS D l a b) (he : ∀ i, a ≤ i → i < b → gx l' i = gx l i) : SortS D l' a b := fun i j h1 h2 h3 => by
  rw [he i h1 (by omega), he j (by omega) h3]; exact h i j h1 h2 h3
/-- What stands ahead of a place stands behind what stood there. -/
def Rot (l l' : List Int) (a m b : Nat) : Prop := ∀ x, gx l' x = if a ≤ x ∧ x < a + (b - m) then gx l (x + (m - a)) else if a + (b - m) ≤ x ∧ x < b then gx l (x - (b - m)) else gx l x
/-- As many of one place on are changed with those from another on. -/
def Swr (l l' : List Int) (a b n : Nat) : Prop := ∀ x, gx l' x = if a ≤ x ∧ x < a + n then gx l (x + (b - a)) else if b ≤ x ∧ x < b + n then gx l (x - (b - a)) else gx l x
theorem Rot.right {l l' t : List Int} {m i j : Nat} (hi : i ≤ m) (hij : i < j) (h : Swr l l' (m - i) (m + j - i) i) (hr : Rot l' t (m - i) m (m + (j - i))) : Rot l t (m - i) m (m + j) := by
  have h2 : ∀ x, gx l' x = _ := h
  intro x
  rw [hr x]
  simp only [h2]
  repeat' split
  all_goals first | rfl | omega | (congr 1; omega)
theorem Rot.same {l l' : List Int} {m i : Nat} (hi : i ≤ m) (h : Swr l l' (m - i) m i) : Rot l l' (m - i) m (m + i) := by
  intro x
  rw [h x]
  repeat' split
  all_goals first | rfl | omega | (congr 1; omega)
theorem Swr.zero {l : List Int} {a b : Nat} : Swr l l a b 0 := fun x => by rw [if_neg (by omega), if_neg (by omega)]
/-- The indices of one row all stand ahead of those of the other one. -/
def Ahd (l : List Int) (a m b : Nat) : Prop := ∀ p q, a ≤ p → p < m → m ≤ q → q < b → gx l p < gx l q
/-- What a place is moved up. -/
def Up1 (l l' : List Int) (a k : Nat) : Prop := ∀ x, gx l' x = if a ≤ x ∧ x < k then gx l (x + 1) else if x = k then gx l a else gx l x
theorem Up1.zero {l : List Int} {a : Nat} : Up1 l l a a := fun x => by
  rw [if_neg (by omega)]; split
  · rename_i h; subst h; rfl
  · rfl
/-- What a place is moved down. -/
def Dn1 (l l' : List Int) (k m : Nat) : Prop := ∀ x, gx l' x = if k < x ∧ x ≤ m then gx l (x - 1) else if x = k then gx l m else gx l x
theorem Dn1.zero {l : List Int} {m : Nat} : Dn1 l l m m := fun x => by
  rw [if_neg (by omega)]; split
  · rename_i h; subst h; rfl
  · rfl
/-- What stands between two places stood there ahead, too. -/
def MvI (l0 l : List Int) (a b : Nat) : Prop := ∀ i, a ≤ i → i < b → ∃ j, a ≤ j ∧ j < b ∧ gx l i = gx l0 j
def AscS (l0 : List Int) (n : Nat) : Prop := ∀ i j, i < j → j < n → gx l0 i < gx l0 j
/-- So many blocks are sorted. -/
def Bks (D : Int → Int) (l0 l : List Int) (S K : Nat) : Prop := ∀ k, k < K → SortS D l (k * S) (k * S + S) ∧ MvI l0 l (k * S) (k * S + S)
/-- All blocks are sorted. -/
def Bkd (D : Int → Int) (l0 l : List Int) (S n : Nat) : Prop := ∀ k, k * S < n → SortS D l (k * S) (min (k * S + S) n) ∧ MvI l0 l (k * S) (min (k * S + S) n)
theorem Bks.zero {D : Int → Int} {l0 l : List Int} {S : Nat} : Bks D l0 l S 0 := fun k hk => absurd hk (Nat.not_lt_zero _)
theorem MvI.same {l0 l l' : List Int} {a b : Nat} (h : MvI l0 l a b) (he : ∀ i, a ≤ i → i < b → gx l' i = gx l i) : MvI l0 l' a b := fun i h1 h2 => by
  rw [he i h1 h2]; exact h i h1 h2
/-- Two blocks of a row that stands as it stood from the first of them on. -/
theorem Bkd.two {D : Int → Int} {l0 ls l : List Int} {S K n : Nat} (h : Bkd D l0 ls S n) (ha : AscS l0 n) (he : ∀ i, K * (2 * S) ≤ i → gx l i = gx ls i) {b : Nat} (hb : b = min (K * (2 * S) + 2 * S) n) (hm : K * (2 * S) + S < n) (hS : 0 < S) :
    SortS D l (K * (2 * S)) (K * (2 * S) + S) ∧ SortS D l (K * (2 * S) + S) b ∧ Ahd l (K * (2 * S)) (K * (2 * S) + S) b ∧ MvI l0 l (K * (2 * S)) b := by
  have e1 : (2 * K) * S = K * (2 * S) := by rw [Nat.mul_comm 2 K, Nat.mul_assoc]
  have e2 : (2 * K + 1) * S = K * (2 * S) + S := by rw [Nat.succ_mul, e1]
  obtain ⟨s1, m1⟩ := h (2 * K) (by omega)
  obtain ⟨s2, m2⟩ := h (2 * K + 1) (by omega)
  rw [e1, Nat.min_eq_left (by omega)] at s1 m1
  rw [e2, show min (K * (2 * S) + S + S) n = b by rw [hb]; congr 1; omega] at s2 m2
  have hbn : b ≤ n := by omega
  have hbm : K * (2 * S) + S ≤ b := by omega
  generalize K * (2 * S) = A at *
  refine ⟨s1.mv fun i i1 _ => he i i1, s2.mv fun i i1 _ => he i (by omega), fun p q p1 p2 q1 q2 => ?_, fun i i1 i2 => ?_⟩
  · obtain ⟨p', a1, a2, x1⟩ := m1 p p1 p2
    obtain ⟨q', b1, b2, x2⟩ := m2 q q1 q2
    rw [he p p1, he q (by omega), x1, x2]
    exact ha p' q' (by omega) (by omega)
  · rw [he i i1]
    by_cases hc : i < A + S
    · obtain ⟨j, a1, a2, x1⟩ := m1 i i1 hc; exact ⟨j, a1, by omega, x1⟩
    · obtain ⟨j, a1, a2, x1⟩ := m2 i (by omega) i2; exact ⟨j, by omega, a2, x1⟩
theorem Bkd.one {D : Int → Int} {l0 ls l : List Int} {S K n : Nat} (h : Bkd D l0 ls S n) (he : ∀ i, K * (2 * S) ≤ i → gx l i = gx ls i) (hm : n ≤ K * (2 * S) + S) :
    SortS D l (K * (2 * S)) n ∧ MvI l0 l (K * (2 * S)) n := by
  have e1 : (2 * K) * S = K * (2 * S) := by rw [Nat.mul_comm 2 K, Nat.mul_assoc]
  rcases Nat.lt_or_ge (K * (2 * S)) n with hlt | hge
  · obtain ⟨s1, m1⟩ := h (2 * K) (by omega)
    rw [e1, Nat.min_eq_right (by omega)] at s1 m1
    exact ⟨s1.mv fun i i1 _ => he i i1, m1.same fun i i1 _ => he i i1⟩
  · exact ⟨fun i j i1 i2 i3 => by omega, fun i i1 i2 => by omega⟩
theorem MvI.mv {l0 l l' : List Int} {a b : Nat} (h : MvI l0 l a b) (hm : Mv l l' a b) : MvI l0 l' a b := fun i i1 i2 => by
  obtain ⟨j, j1, j2, e⟩ := hm.inn i i1 i2
  obtain ⟨k, k1, k2, e2⟩ := h j j1 j2
  exact ⟨k, k1, k2, by rw [e, e2]⟩
/-- A heap that is as it was, but for a row that was moved. -/
structure SR (G : AH) (b o : Nat) (l0 l : List Int) (H : AH) : Prop where
  len : H.length = G.length
  keep : ∀ j, j ≠ b → H[j]? = G[j]?
  perm : l.Perm l0
  row : ∃ cs, H[b]? = some ⟨cs, .own⟩ ∧ o + l.length ≤ cs.length ∧ ∀ k x, l[k]? = some x → cs[o + k]? = some (.int .i64 x)
theorem SR.lenl {G : AH} {b o : Nat} {l0 l : List Int} {H : AH} (h : SR G b o l0 l H) : l.length = l0.length := h.perm.length_eq
theorem SR.mem {G : AH} {b o : Nat} {l0 l : List Int} {H : AH} (h : SR G b o l0 l H) {i : Nat} (hi : i < l0.length) : gx l i ∈ l0 := by
  have h1 : i < l.length := by rw [h.lenl]; exact hi
  rw [← h.perm.mem_iff]
  exact List.mem_of_getElem? (gx_get h1)
theorem SR.get {G : AH} {b o : Nat} {l0 l : List Int} {H : AH} (h : SR G b o l0 l H) : ∃ cs, H[b]? = some ⟨cs, .own⟩ ∧ o + l0.length ≤ cs.length ∧ ∀ k, k < l0.length → cs[o + k]? = some (.int .i64 (gx l k)) := by
  obtain ⟨cs, h1, h2, h3⟩ := h.row
  have := h.lenl
  exact ⟨cs, h1, by omega, fun k hk => h3 k _ (gx_get (by omega))⟩
theorem sameVars_true {H : AH} {v w : Value} {n : Nat} {xs ys : List Value} (hv : FRow H v kVar n xs) (hw : FRow H w kVar n ys) (hl : n ≤ 1048576) (hs : ∀ y ∈ xs, (rowI H y).length ≤ 1048576) (hs2 : ∀ y ∈ ys, (rowI H y).length ≤ 1048576) (he : cvs H xs = cvs H ys) :
    CallsA Try.prog 25 #[v, w] H fun r H' => r = .bool true ∧ ∃ K, H' = H ++ K := by
  obtain ⟨a, c, rfl, gv⟩ := hv.opn 3 rfl
  obtain ⟨a', c', rfl, gw⟩ := hw.opn 3 rfl
  refine w25 ?_
  unfold k25
  simp -implicitDefEqProofs only [kz, kk0, kk1, kk2, kk3, ↓two_true, ↓two_false, oS_some, oM_some, mkv, aggAt, Nat.reduceLeDiff, Nat.reduceSub, Nat.reduceMul, implies_true, Nat.reduceEqDiff, reduceIte, Nat.reduceAdd, Nat.reduceBEq, reduceCtorEq, fa49_0, fa49_1, ix35, ld4, ld26, ln35, (bin_bool_eql ub4), (bin_bool_neq ub4), bne_self_eq_false]
  refine rW_loop (σ := Nat) (fun i tm H' => tm 0 = .slice a n c ∧ tm 1 = .slice a' n c' ∧ tm 5 = .int .i64 i ∧ i ≤ n ∧ ∃ K, H' = H ++ K) (fun i => n - i) 0 ?_ ?_
  · simp -implicitDefEqProofs [kk0, kk1, kk2, kk3, rW_block, ↓two_true, ↓two_false, rW_cond, rO_guard, oS_some, oM_some, mkv, aggAt, Nat.reduceLeDiff, Nat.reduceSub, Nat.reduceMul, cond_true, cond_false, Option.bind_some, List.length_append, List.length_cons, List.length_nil, List.append_assoc, List.cons_append, List.nil_append, List.set_cons_zero, List.set_cons_succ, List.size_toArray, List.all_cons, List.all_nil, List.drop_zero, List.drop_succ_cons, List.take_succ_cons, List.take_zero, List.mem_cons, Prod.mk.injEq, List.not_mem_nil, implies_true, List.getElem?_toArray, List.getElem?_cons_zero, List.getElem?_cons_succ, List.getElem?_nil, Option.getD_some, Option.getD_none, Nat.reduceEqDiff, reduceIte, Nat.reduceAdd, List.map_toArray, List.map_cons, List.map_nil, Bool.false_eq_true, Nat.reduceBEq, Option.map_some, Option.map_none, reduceCtorEq, fa49_0, fa49_1, ix35, ld4, ld26, ln35, (bin_bool_eql ub4), (bin_bool_neq ub4)]
  · rintro i tm H1 ⟨h0, h1, h5, hi, hK⟩
    simp -implicitDefEqProofs only [kz, kk0, kk1, kk2, kk3, ↓two_true, ↓two_false, oS_some, oM_some, mkv, aggAt, Nat.reduceLeDiff, Nat.reduceSub, Nat.reduceMul, implies_true, Nat.reduceEqDiff, reduceIte, Nat.reduceAdd, Nat.reduceBEq, reduceCtorEq, fa49_0, fa49_1, ix35, ld4, ld26, ln35, (bin_bool_eql ub4), (bin_bool_neq ub4), h0, h1, h5]
    refine two_intro (fun hc => ?_) (fun hc => ?_)
    · have hlt : i < n := by simpa using hc
      obtain ⟨b, o, cs, rfl, rfl, hrd, hle, hcell⟩ := gv (by omega)
      obtain ⟨b', o', cs', rfl, rfl, hrd', hle', hcell'⟩ := gw (by omega)
      obtain ⟨hagg, hce⟩ := hcell i hlt
      obtain ⟨hagg', hce'⟩ := hcell' i hlt
      have x1 := hv.elemn 3 rfl hlt
      have y1 := hw.elemn 3 rfl hlt
      have ee : (elm 3 xs i).map (cv H) = (elm 3 ys i).map (cv H) := by
        have h3 := congrArg (fun V => (V.drop (i * 3)).take 3) he
        simp only [cvs, ← List.map_drop, ← List.map_take] at h3
        exact h3
      have mx : ∀ y ∈ elm 3 xs i, y ∈ xs := fun y hy => List.mem_of_mem_drop (List.mem_of_mem_take hy)
      have my : ∀ y ∈ elm 3 ys i, y ∈ ys := fun y hy => List.mem_of_mem_drop (List.mem_of_mem_take hy)
      obtain ⟨u0, _, eu, ⟨s, rfl⟩, u1, _, rfl, k1, u2, _, rfl, k2, rfl⟩ := x1
      obtain ⟨v0, _, ev, ⟨s', rfl⟩, v1, _, rfl, j1, v2, _, rfl, j2, rfl⟩ := y1
      rw [eu] at hce mx ee
      rw [ev] at hce' my ee
      simp only [List.map_cons, List.map_nil, cv_row k1.1, cv_row k2.1, cv_row j1.1, cv_row j2.1, List.cons.injEq, CV.r.injEq, and_true] at ee
      have f0 : cs[o + i * 3]? = some (.bool s) := hce 0 _ rfl
      have f1 : cs[o + i * 3 + 1]? = some u1 := hce 1 _ rfl
      have f2 : cs[o + i * 3 + 1 + 1]? = some u2 := hce 2 _ rfl
      have f0' : cs'[o' + i * 3]? = some (.bool s') := hce' 0 _ rfl
      have f1' : cs'[o' + i * 3 + 1]? = some v1 := hce' 1 _ rfl
      have f2' : cs'[o' + i * 3 + 1 + 1]? = some v2 := hce' 2 _ rfl
      have hss : s = s' := by have := ee.1; simp [cv] at this; exact this
      subst hss
      have l1 : ld Try.prog 26 (o + i * 3 + 1) cs = some (.agg #[u1, u2]) := by rw [ld26]; exact agg2 f1 f2
      have l2 : ld Try.prog 26 (o' + i * 3 + 1) cs' = some (.agg #[v1, v2]) := by rw [ld26]; exact agg2 f1' f2'
      have g1 := rd_ext hrd hK
      have g2 := rd_ext hrd' hK
      have wi : IntKind.i64.wrap ((i : Int) + 1) = ((i + 1 : Nat) : Int) := by rw [IntWalk.i64_in _ (by omega)]; omega
      have A1 : AR H u1 u2 (rowI H u1) (rowI H u2) := ⟨k1.1, k2.1, hs _ (mx _ (by simp)), hs _ (mx _ (by simp))⟩
      have A2 : AR H v1 v2 (rowI H u1) (rowI H u2) := ⟨ee.2.1 ▸ j1.1, ee.2.2 ▸ j2.1, hs _ (mx _ (by simp)), hs _ (mx _ (by simp))⟩
      simp -implicitDefEqProofs only [kz, kk0, kk1, kk2, kk3, ↓two_true, ↓two_false, oS_some, oM_some, mkv, aggAt, Nat.reduceLeDiff, Nat.reduceSub, Nat.reduceMul, implies_true, Nat.reduceEqDiff, reduceIte, Nat.reduceAdd, Nat.reduceBEq, reduceCtorEq, fa49_0, fa49_1, ix35, ld4, ld26, ln35, (bin_bool_eql ub4), (bin_bool_neq ub4), h0, h1, h5, Int.toNat_natCast, g1, g2, f0, f0', l1, l2, bne_self_eq_false]
      refine ⟨by omega, by omega, by omega, by omega, (sameArray_ok (A1.ext hK) (A2.ext hK)).mono ?_⟩
      rintro _ H2 ⟨rfl, hK2⟩
      simp -implicitDefEqProofs only [kz, kk0, kk1, kk2, kk3, ↓two_true, ↓two_false, oS_some, oM_some, mkv, aggAt, Nat.reduceLeDiff, Nat.reduceSub, Nat.reduceMul, implies_true, Nat.reduceEqDiff, reduceIte, Nat.reduceAdd, Nat.reduceBEq, reduceCtorEq, fa49_0, fa49_1, ix35, ld4, ld26, ln35, (bin_bool_eql ub4), (bin_bool_neq ub4), h0, h1, h5, beq_self_eq_true, Bool.and_self, Bool.not_true, wi]
      exact ⟨i + 1, by omega, rfl, hlt, ext_trans hK hK2⟩
    · exact hK

def nw : List VR3 := List.replicate 26 (false, .slice none 0 0, .slice none 0 0)
def nwc : List Value := (nw.map vcells).flatten
theorem nw_mem {x : VR3} (h : x ∈ nw) : x = (false, .slice none 0 0, .slice none 0 0) := by
  simp [nw] at h; exact h
theorem okW_nil {H : AH} : OkV H (false, .slice none 0 0, .slice none 0 0) := ⟨OkI.nil, OkI.nil, by simp [rowI], by simp [rowI]⟩
set_option maxHeartbeats 4000000 in
theorem nw_ok {H : AH} : ∀ x ∈ nw, OkV H x := fun x hx => by rw [nw_mem hx]; exact okW_nil
theorem nw_val {H H' : AH} : nw.map (vval H) = nw.map (vval H') := by
  refine List.map_congr_left fun x hx => ?_
  rw [nw_mem hx]; rfl
theorem nwc_eq : (List.replicate (Int.toNat 26) [.bool false, .slice none 0 0, .slice none 0 0]).flatten = nwc := rfl
theorem lim26W : ((0 : Int) ≤ 26 ∧ (26 : Int) ≤ 1073741824) = True := by simp
theorem rep3 {x : List Value} (hx : x.length = 3) : ∀ {n i c : Nat}, i < n → c < 3 → ((List.replicate n x).flatten)[i * 3 + c]? = x[c]?
  | n + 1, 0, c, _, hc => by
    rw [List.replicate_succ, List.flatten_cons, Nat.zero_mul, Nat.zero_add, List.getElem?_append_left (by omega)]
  | n + 1, i + 1, c, hi, hc => by
    rw [List.replicate_succ, List.flatten_cons, List.getElem?_append_right (by omega), hx, show (i + 1) * 3 + c - 3 = i * 3 + c by omega]
    exact rep3 hx (by omega) hc
theorem nwc_row {H : AH} {b : Nat} (h : rd H b = some nwc) : FRow H (.slice (some ⟨b, 0, none⟩) 26 3) kVar 26 nwc := by
  refine ⟨rfl, .inr ⟨b, 0, nwc, rfl, h, by decide, fun j y hy => by rw [Nat.zero_add]; exact hy⟩, fun i c k y hi hk hy => ?_⟩
  have hm : y ∈ nwc := List.mem_of_getElem? hy
  have e : nwc[i * 3 + c]? = some y := hy
  have hc : c < 3 := by have := (List.getElem?_eq_some_iff.1 hk).1; simpa using this
  have r3 : ∀ c, c < 3 → nwc[i * 3 + c]? = ([.bool false, .slice none 0 0, .slice none 0 0] : List Value)[c]? := fun c hc => by rw [← nwc_eq]; exact rep3 rfl hi hc
  have e0 := r3 0 (by omega)
  have e1 := r3 1 (by omega)
  have e2 := r3 2 (by omega)
  simp only [List.getElem?_cons_zero, List.getElem?_cons_succ] at e0 e1 e2
  match c, hc, hk with
  | 0, _, hk => simp at hk; subst hk; rw [e0] at e; cases e; exact ⟨_, rfl⟩
  | 1, _, hk => simp at hk; subst hk; rw [e1] at e; cases e; exact ⟨OkI.nil, by simp [rowI]⟩
  | 2, _, hk => simp at hk; subst hk; rw [e2] at e; cases e; exact ⟨OkI.nil, by simp [rowI]⟩
theorem nwc_srow {H : AH} {b : Nat} (h : rd H b = some nwc) : SRow H (.slice (some ⟨b, 0, none⟩) 26 3) 3 (nw.map vcells) := by
  obtain ⟨h1, h2⟩ := flat_get (s := 3) (nw.map vcells) (by intro x hx; obtain ⟨y, _, rfl⟩ := List.mem_map.1 hx; rfl)
  have hl : (nw.map vcells).length = 26 := by simp [nw]
  refine .inr ⟨b, 0, nwc, by rw [hl], h, by rw [hl]; decide, fun i x hx => ?_⟩
  have hx3 : x.length = 3 := by obtain ⟨y, _, rfl⟩ := List.mem_map.1 (List.mem_of_getElem? hx); rfl
  refine ⟨hx3, fun j y hy => ?_⟩
  have hj : j < 3 := by rw [← hx3]; exact (List.getElem?_eq_some_iff.1 hy).1
  rw [← h2 i x hx, List.getElem?_take_of_lt hj, List.getElem?_drop] at hy
  rw [Nat.zero_add]
  exact hy
theorem nwc_cv {H : AH} : cvs H nwc = (List.replicate 26 [CV.b false, .r [], .r []]).flatten := by
  simp [cvs, nwc, nw, vcells, cv, rowI]
set_option maxHeartbeats 4000000 in
theorem nwc_ok {H : AH} : varsOk (nw.map (vval H)) = true := by
  rw [nw_val (H := H) (H' := [])]
  simp [nw, vval, varsOk, varBad, rowI]
theorem rows_nwc {H : AH} {y : Value} (h : y ∈ nwc) : (rowI H y).length ≤ 1048576 := by
  obtain ⟨z, hz, hyz⟩ := List.mem_flatten.1 h
  obtain ⟨w, hw, rfl⟩ := List.mem_map.1 hz
  rw [nw_mem hw] at hyz
  simp [vcells] at hyz
  rcases hyz with rfl | rfl <;> simp [rowI]
theorem rows_nw {H : AH} {v : Value} {n : Nat} {ys : List Value} (h : FRow H v kVar n ys) (hc : cvs H ys = (List.replicate 26 [CV.b false, .r [], .r []]).flatten) : True ∧ ∀ (L : AH) y, y ∈ ys → rowI (H ++ L) y = [] := by
  refine ⟨trivial, fun L y hy => ?_⟩
  have e : cvs (H ++ L) ys = cvs H ys := h.vals
  have hm : cv (H ++ L) y ∈ cvs (H ++ L) ys := List.mem_map.2 ⟨y, hy, rfl⟩
  rw [e, hc] at hm
  obtain ⟨z, hz, hyz⟩ := List.mem_flatten.1 hm
  rw [List.eq_of_mem_replicate hz] at hyz
  simp at hyz
  cases y <;> simp [cv, rowI] at hyz ⊢ <;> first | exact hyz | trivial

set_option maxHeartbeats 4000000 in
theorem implVarsNewW_ok (H : AH) : CallsA Try.prog 21 #[] H fun r H' => r = .slice (some ⟨H.length, 0, none⟩) 26 3 ∧ H' = H ++ [⟨nwc, .own⟩] := by
  refine w21 ?_
  unfold k21
  simp -implicitDefEqProofs only [kz, kk0, kk1, kk2, kk3, ↓two_true, ↓two_false, oS_some, oM_some, mkv, aggAt, Nat.reduceLeDiff, Nat.reduceSub, Nat.reduceMul, implies_true, Nat.reduceEqDiff, reduceIte, Nat.reduceAdd, Nat.reduceBEq, reduceCtorEq, ms35, lim26W, nwc_eq]
  exact rfl

theorem trOk_one {k : Nat} (hk : k < 26) : trOk [⟨2, k, 0, 0, 0, 0, []⟩] = true := by
  have h1 : ndOk ⟨2, k, 0, 0, 0, 0, []⟩ = true := by
    unfold ndOk
    have : inB (k : Int) 0 25 = true := inB_true.2 (by omega)
    simp [this]
  unfold trOk
  simp only [List.all_cons, List.all_nil, h1, Bool.and_true, Bool.true_and]
  simp [ownG, nxt, gI, inB]
theorem eval_name {H : AH} {tb vb k : Nat} (hk : k < 26) (ht : rd H tb = some [.int .i64 2, .int .i64 k, .int .i64 0, .int .i64 0, .int .i64 0, .int .i64 0, .slice none 0 0]) (hv : rd H vb = some nwc) :
    CallsA Try.prog 23 #[.agg #[.slice (some ⟨tb, 0, none⟩) 1 7], .slice (some ⟨vb, 0, none⟩) 26 3, .int .i64 2] H fun r H' =>
      (∃ w ys, r = .tuple #[.agg #[.slice none 0 0, .slice none 0 0], w, .int .i64 7, .int .i64 1] ∧ New H H' w kVar 26 ys ∧ cvs H' ys = cvs H nwc) ∧ ∃ K, H' = H ++ K := by
  have fr : FRow H (.slice (some ⟨tb, 0, none⟩) 1 7) kExpr 1 [.int .i64 2, .int .i64 k, .int .i64 0, .int .i64 0, .int .i64 0, .int .i64 0, .slice none 0 0] := by
    refine ⟨rfl, .inr ⟨tb, 0, _, rfl, ht, by simp, fun j y hy => by rw [Nat.zero_add]; exact hy⟩, fun i c kd y hi hkd hy => ?_⟩
    obtain rfl : i = 0 := by omega
    simp only [Nat.zero_mul, Nat.zero_add] at hy
    have hc : c < 7 := by have := (List.getElem?_eq_some_iff.1 hkd).1; simpa using this
    match c, hc, hkd, hy with
    | 0, _, hkd, hy => simp at hkd hy; subst hkd; subst hy; exact ⟨_, rfl⟩
    | 1, _, hkd, hy => simp at hkd hy; subst hkd; subst hy; exact ⟨_, rfl⟩
    | 2, _, hkd, hy => simp at hkd hy; subst hkd; subst hy; exact ⟨_, rfl⟩
    | 3, _, hkd, hy => simp at hkd hy; subst hkd; subst hy; exact ⟨_, rfl⟩
    | 4, _, hkd, hy => simp at hkd hy; subst hkd; subst hy; exact ⟨_, rfl⟩
    | 5, _, hkd, hy => simp at hkd hy; subst hkd; subst hy; exact ⟨_, rfl⟩
    | 6, _, hkd, hy => simp at hkd hy; subst hkd; subst hy; exact ⟨OkI.nil, by simp [rowI]⟩
  have hnd : ndL (cvs H [.int .i64 2, .int .i64 k, .int .i64 0, .int .i64 0, .int .i64 0, .int .i64 0, .slice none 0 0]) 1 = [⟨2, k, 0, 0, 0, 0, []⟩] := by
    simp [ndL, chunk, cvs, cv, ndOf, rowI]
  have et := fun (L : AH) Φ => (implTreeOk_ok (fr.mono (L := L)) (by omega)).eqV (Φ := Φ)
  simp only [fr.vals, hnd, trOk_one hk] at et
  have ev := fun (L : AH) Φ => (implVarsOk_ok (H := H ++ L) (nwc_srow (b := vb) (by rw [rdl (by simp [hv]), hv])) (by simp [nw]) nw_ok).eqV (Φ := Φ)
  simp only [nwc_ok] at ev
  refine w23 ?_
  unfold k23
  simp -implicitDefEqProofs only [kz, kk0, kk1, kk2, kk3, ↓two_true, ↓two_false, oS_some, oM_some, mkv, aggAt, Nat.reduceLeDiff, Nat.reduceSub, Nat.reduceMul, implies_true, Nat.reduceEqDiff, reduceIte, Nat.reduceAdd, Nat.reduceBEq, reduceCtorEq, al26, al43, ap62_62, bd26, bd49, bs62_1, fa43_0, fa43_1, fa43_2, fa43_3, fa43_4, fa46_0, fa49_0, fa49_1, ix35, ix44, ix62, ld3, ld4, ld24, ld26, ld41, ld43, ld44, ld46, ln44, ln62, st26, st43, st49, et, ev, Bool.not_true, Int.reduceLT, decide_false]
  obtain ⟨J1, hJ1⟩ : ∃ J1 : AH, J1 = [] := ⟨_, rfl⟩
  have hK0 : ∀ K, ∃ K', (H ++ K : AH) = H ++ K' := fun K => ⟨K, rfl⟩
  refine (copyVars_ok (nwc_row (b := vb) (by rw [rdl (by simp [hv]), hv])) (by omega)).mono ?_
  rintro _ H1 ⟨⟨ys, nn, cy⟩, hK1⟩
  have hE1 : ∃ K, H1 = H ++ K := ext_trans ⟨_, rfl⟩ hK1
  have g0 : rd H1 H.length = some [.slice (some ⟨tb, 0, none⟩) 1 7] := rd_ext (rd_own (by rw [gt0]; rfl)) hK1
  have g1 : H1[H.length + 1]? = some ⟨[.slice none 0 0, .slice none 0 0], .own⟩ := get_ext (by rw [gti]; rfl) hK1
  have gt : rd H1 tb = some [.int .i64 2, .int .i64 k, .int .i64 0, .int .i64 0, .int .i64 0, .int .i64 0, .slice none 0 0] := rd_ext ht hE1
  have gv := rd_ext hv hE1
  obtain ⟨na, nc, rfl, gn⟩ := nn.ot.frow.opn 3 rfl
  simp -implicitDefEqProofs only [kz, kk0, kk1, kk2, kk3, ↓two_true, ↓two_false, oS_some, oM_some, mkv, aggAt, Nat.reduceLeDiff, Nat.reduceSub, Nat.reduceMul, implies_true, Nat.reduceEqDiff, reduceIte, Nat.reduceAdd, Nat.reduceBEq, reduceCtorEq, al26, al43, ap62_62, bd26, bd49, bs62_1, fa43_0, fa43_1, fa43_2, fa43_3, fa43_4, fa46_0, fa49_0, fa49_1, ix35, ix44, ix62, ld3, ld4, ld24, ld26, ld41, ld43, ld44, ld46, ln44, ln62, st26, st43, st49, g0]
  refine rW_loop (σ := Unit) (fun _ tm H' => tm 1 = .slice (some ⟨vb, 0, none⟩) 26 3 ∧ tm 2 = .int .i64 2 ∧ tm 6 = .pointer (some ⟨H.length + 1, 0, none⟩) ∧ tm 10 = .slice na 26 nc ∧ tm 32 = .slice (some ⟨tb, 0, none⟩) 1 7 ∧ tm 33 = .int .i64 1 ∧ tm 34 = .int .i64 0 ∧ H' = H1) (fun _ => 0) () ?_ ?_
  · simp -implicitDefEqProofs [kk0, kk1, kk2, kk3, rW_block, ↓two_true, ↓two_false, rW_cond, rO_guard, oS_some, oM_some, mkv, aggAt, Nat.reduceLeDiff, Nat.reduceSub, Nat.reduceMul, cond_true, cond_false, Option.bind_some, List.length_append, List.length_cons, List.length_nil, List.append_assoc, List.cons_append, List.nil_append, List.set_cons_zero, List.set_cons_succ, List.size_toArray, List.all_cons, List.all_nil, List.drop_zero, List.drop_succ_cons, List.take_succ_cons, List.take_zero, List.mem_cons, Prod.mk.injEq, List.not_mem_nil, implies_true, List.getElem?_toArray, List.getElem?_cons_zero, List.getElem?_cons_succ, List.getElem?_nil, Option.getD_some, Option.getD_none, Nat.reduceEqDiff, reduceIte, Nat.reduceAdd, List.map_toArray, List.map_cons, List.map_nil, Bool.false_eq_true, Nat.reduceBEq, Option.map_some, Option.map_none, reduceCtorEq, al26, al43, ap62_62, bd26, bd49, bs62_1, fa43_0, fa43_1, fa43_2, fa43_3, fa43_4, fa46_0, fa49_0, fa49_1, ix35, ix44, ix62, ld3, ld4, ld24, ld26, ld41, ld43, ld44, ld46, ln44, ln62, st26, st43, st49]
  · rintro _ tm H2 ⟨h1, h2, h6, h10, h32, h33, h34, rfl⟩
    obtain ⟨b, o, cs, rfl, rfl, hrd, hle, hcell⟩ := gn (by omega)
    obtain ⟨hagg, hce⟩ := hcell k hk
    have x1 := nn.ot.frow.elemn 3 rfl hk
    have ee : (elm 3 ys k).map (cv H2) = [.b false, .r [], .r []] := by
      have h3 := congrArg (fun V => (V.drop (k * 3)).take 3) cy
      simp only [cvs, ← List.map_drop, ← List.map_take] at h3
      have h4 : (elm 3 nwc k).map (cv (H ++ J1)) = [.b false, .r [], .r []] := by
        have r3 : ∀ c, c < 3 → (elm 3 nwc k)[c]? = ([.bool false, .slice none 0 0, .slice none 0 0] : List Value)[c]? := fun c hc => by
          show ((nwc.drop (k * 3)).take 3)[c]? = _
          rw [List.getElem?_take_of_lt hc, List.getElem?_drop, ← nwc_eq]
          exact rep3 rfl hk hc
        have e : elm 3 nwc k = [.bool false, .slice none 0 0, .slice none 0 0] := by
          refine List.ext_getElem? fun c => ?_
          rcases Nat.lt_or_ge c 3 with h5 | h5
          · exact r3 c h5
          · rw [List.getElem?_eq_none (by show ((nwc.drop (k * 3)).take 3).length ≤ c; simp; omega), List.getElem?_eq_none (by simp; omega)]
        rw [e]; simp [cv, rowI]
      have e5 : elm 3 ys k = (ys.drop (k * 3)).take 3 := rfl
      rw [e5, h3]
      have e6 : ∀ Hx Hy : AH, ((nwc.drop (k * 3)).take 3).map (cv Hx) = (elm 3 nwc k).map (cv Hy) := fun Hx Hy => by
        show (elm 3 nwc k).map (cv Hx) = _
        refine List.map_congr_left fun y hy => ?_
        have hy2 : y ∈ nwc := List.mem_of_mem_drop (List.mem_of_mem_take hy)
        obtain ⟨z, hz, hyz⟩ := List.mem_flatten.1 hy2
        obtain ⟨w, hw, rfl⟩ := List.mem_map.1 hz
        rw [nw_mem hw] at hyz
        simp [vcells] at hyz
        rcases hyz with rfl | rfl <;> simp [cv, rowI]
      rw [e6 _ (H ++ J1), h4]
    obtain ⟨u0, _, eu, ⟨s, rfl⟩, u1, _, rfl, k1, u2, _, rfl, k2, rfl⟩ := x1
    rw [eu] at hce ee
    simp only [List.map_cons, List.map_nil, List.cons.injEq, and_true] at ee
    have hs : s = false := by have := ee.1; simp [cv] at this; exact this
    subst hs
    have f0 : cs[o + k * 3]? = some (.bool false) := hce 0 _ rfl
    have f1 : cs[o + k * 3 + 1]? = some u1 := hce 1 _ rfl
    have f2 : cs[o + k * 3 + 1 + 1]? = some u2 := hce 2 _ rfl
    have l1 : ld Try.prog 26 (o + k * 3 + 1) cs = some (.agg #[u1, u2]) := by rw [ld26]; exact agg2 f1 f2
    have d1 : decide ((0 : Int) < 1) = true := by decide
    have w1 : IntKind.i64.wrap ((2 : Int) - 1) = 1 := by decide
    have e7 : ((7 : Int) != 0) = true := rfl
    have e0 : Int.toNat 0 * 7 = 0 := rfl
    have gb : ∀ L, rd (H2 ++ L) b = some cs := fun L => by rw [rdl (by simp [hrd]), hrd]
    have l7 : ld Try.prog 43 0 [.int .i64 2, .int .i64 k, .int .i64 0, .int .i64 0, .int .i64 0, .int .i64 0, .slice none 0 0] = some (.agg #[.int .i64 2, .int .i64 k, .int .i64 0, .int .i64 0, .int .i64 0, .int .i64 0, .slice none 0 0]) := rfl
    obtain ⟨ua1, uc1, eu1⟩ := k1.1.slice
    obtain ⟨ua2, uc2, eu2⟩ := k2.1.slice
    generalize rowI H2 u1 = m1 at *
    generalize rowI H2 u2 = m2 at *
    subst eu1
    subst eu2
    simp -implicitDefEqProofs only [kz, kk0, kk1, kk2, kk3, ↓two_true, ↓two_false, oS_some, oM_some, mkv, aggAt, Nat.reduceLeDiff, Nat.reduceSub, Nat.reduceMul, implies_true, Nat.reduceEqDiff, reduceIte, Nat.reduceAdd, Nat.reduceBEq, reduceCtorEq, al26, al43, ap62_62, bd26, bd49, bs62_1, fa43_0, fa43_1, fa43_2, fa43_3, fa43_4, fa46_0, fa49_0, fa49_1, ix35, ix44, ix62, ld3, ld4, ld24, ld26, ld41, ld43, ld44, ld46, ln44, ln62, st26, st43, st49, h1, h2, h6, h10, h32, h33, h34, d1, w1, e0, e7, l7, gt, hrd, gb, f0, l1, Int.toNat_natCast, Int.reduceBEq, Bool.not_false]
    refine ⟨by omega, by omega, by omega, (copyVars_ok (nwc_row (b := vb) (by rw [rdl (by simp [gv]), gv])) (by omega)).mono ?_⟩
    rintro _ H3 ⟨⟨ys3, nn3, cy3⟩, hK3⟩
    have hK3' : ∃ K, H3 = H2 ++ K := ext_trans ⟨_, rfl⟩ hK3
    have g3 : H3[H.length + 1]? = some ⟨[.slice none 0 0, .slice none 0 0], .own⟩ := get_ext g1 hK3'
    simp -implicitDefEqProofs only [kz, kk0, kk1, kk2, kk3, ↓two_true, ↓two_false, oS_some, oM_some, mkv, aggAt, Nat.reduceLeDiff, Nat.reduceSub, Nat.reduceMul, implies_true, Nat.reduceEqDiff, reduceIte, Nat.reduceAdd, Nat.reduceBEq, reduceCtorEq, al26, al43, ap62_62, bd26, bd49, bs62_1, fa43_0, fa43_1, fa43_2, fa43_3, fa43_4, fa46_0, fa49_0, fa49_1, ix35, ix44, ix62, ld3, ld4, ld24, ld26, ld41, ld43, ld44, ld46, ln44, ln62, st26, st43, st49, h1, h2, h6, h10, h32, h33, h34, wrt_own g3, rd_own (set_at g3)]
    have es : H3.set (H.length + 1) ⟨[.slice none 0 0, .slice none 0 0], .own⟩ = H3 := by
      obtain ⟨h8, h9⟩ := List.getElem?_eq_some_iff.1 g3
      rw [← h9, List.set_getElem_self]
    rw [es]
    have hlen := ext_len hE1
    refine ⟨⟨_, ys3, rfl, ⟨nn3.ot, fun b' hb' => by have := nn3.fr b' hb'; rw [List.length_append] at this; omega⟩, by rw [cy3, nwc_cv, nwc_cv]⟩, ext_trans hE1 hK3'⟩

set_option maxHeartbeats 4000000 in
theorem law6 : LawA Try.prog 6 [22] := by
  intro H vs hro h
  obtain ⟨v, vs, rfl, hv, h2⟩ := h.cons
  obtain rfl := h2.nil
  obtain ⟨a0, n0, c0, rfl, hb⟩ := rpBytes hv Try.underlying22 Try.underlying5 (by kernel_rfl)
  clear hv h2 hro
  refine w6 ?_
  unfold k6
  simp -implicitDefEqProofs only [kz, kk0, kk1, kk2, kk3, ↓two_true, ↓two_false, oS_some, oM_some, mkv, aggAt, Nat.reduceLeDiff, Nat.reduceSub, Nat.reduceMul, implies_true, Nat.reduceEqDiff, reduceIte, Nat.reduceAdd, Nat.reduceBEq, reduceCtorEq, al26, bd43, bd46, bs44_1, fa49_0, ix35, ld4, ln35, st26, big_eq]
  refine two_intro (fun h => trivial) (fun h => ?_)
  have hn0 : n0 ≤ 1048576 := by simp at h; omega
  refine (implVarsNewW_ok H).mono ?_
  rintro _ H1 ⟨rfl, rfl⟩
  simp -implicitDefEqProofs only [kz, kk0, kk1, kk2, kk3, ↓two_true, ↓two_false, oS_some, oM_some, mkv, aggAt, Nat.reduceLeDiff, Nat.reduceSub, Nat.reduceMul, implies_true, Nat.reduceEqDiff, reduceIte, Nat.reduceAdd, Nat.reduceBEq, reduceCtorEq, al26, bd43, bd46, bs44_1, fa49_0, ix35, ld4, ln35, st26]
  refine (at_ok (i := 1) ⟨a0, n0, c0, rfl, hn0, hb.mono⟩ (by omega)).mono ?_
  rintro _ H2 ⟨⟨x, rfl, x0, x1⟩, rfl⟩
  obtain ⟨k, hk, hk2⟩ : ∃ k : Nat, x.tmod 26 = k ∧ k < 26 := ⟨(x.tmod 26).toNat, by rw [Int.tmod_eq_emod_of_nonneg x0]; omega, by rw [Int.tmod_eq_emod_of_nonneg x0]; omega⟩
  simp -implicitDefEqProofs only [kz, kk0, kk1, kk2, kk3, ↓two_true, ↓two_false, oS_some, oM_some, mkv, aggAt, Nat.reduceLeDiff, Nat.reduceSub, Nat.reduceMul, implies_true, Nat.reduceEqDiff, reduceIte, Nat.reduceAdd, Nat.reduceBEq, reduceCtorEq, al26, bd43, bd46, bs44_1, fa49_0, ix35, ld4, ln35, st26, bin_rem (show (26 : Int) ≠ 0 by decide), hk]
  refine (eval_name (tb := H.length + 1) (vb := H.length) hk2 (rd_own (by rw [gti]; rfl)) (rd_own (by rw [gt0]; rfl))).mono ?_
  rintro _ H3 ⟨⟨w, ys, rfl, nn, cy⟩, hK⟩
  have gv : rd H3 H.length = some nwc := rd_ext (rd_own (by rw [gt0]; rfl)) hK
  have hl := rows_nw nn.ot.frow (by rw [cy, nwc_cv])
  obtain ⟨wa, wc, rfl, _⟩ := nn.ot.frow.op
  have ev := fun (L : AH) Φ => (implVarsOk_ok (H := H3 ++ L) (nwc_srow (b := H.length) (by rw [rdl (by simp [gv]), gv])) (by simp [nw]) nw_ok).eqV (Φ := Φ)
  simp only [nwc_ok] at ev
  have f0 : nwc[k * 3]? = some (.bool false) := by
    have := rep3 (x := [.bool false, .slice none 0 0, .slice none 0 0]) rfl hk2 (c := 0) (by omega)
    rw [← nwc_eq]; exact this
  have f1 : nwc[0 + k * 3]? = some (.bool false) := by rw [Nat.zero_add]; exact f0
  have gb : ∀ L, rd (H3 ++ L) H.length = some nwc := fun L => by rw [rdl (by simp [gv]), gv]
  have es := fun (L : AH) Φ => (sameVars_true (H := H3 ++ L) nn.ot.frow.mono (nwc_row (b := H.length) (gb L)) (by omega) (fun y hy => by rw [hl.2 L y hy]; simp) (fun y hy => rows_nwc hy) (by rw [nn.ot.frow.vals, cy, nwc_cv, nwc_cv])).eqV (Φ := Φ)
  simp -implicitDefEqProofs only [kz, kk0, kk1, kk2, kk3, ↓two_true, ↓two_false, oS_some, oM_some, mkv, aggAt, Nat.reduceLeDiff, Nat.reduceSub, Nat.reduceMul, implies_true, Nat.reduceEqDiff, reduceIte, Nat.reduceAdd, Nat.reduceBEq, reduceCtorEq, al26, bd43, bd46, bs44_1, fa49_0, ix35, ld4, ln35, st26, ev, gb, f0, f1, Int.toNat_natCast, es, Bool.not_false, Int.reduceBEq, beq_self_eq_true]
  exact two_intro (fun _ => by omega) (fun h => by simp at h)

end Go.Proofs.Ytpclegiocblpmaa.AM
