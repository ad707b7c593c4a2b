/- What the functions answer, part 3. -/
import Derived.Test.YtockhdhilemfkaaP2
set_option linter.unusedVariables false
set_option linter.unusedSimpArgs false
set_option linter.defProp false
set_option maxRecDepth 100000
/- What the functions answer, part 3. -/
namespace Go.Proofs.Ytockhdhilemfkaa.AM
open Go Go.Proofs.Ytockhdhilemfkaa Go.Proofs
theorem implPlaceOf_ok {H : AH} {va vb : Value} {sh ix : List Int} (ha : IntRow H va sh) (hb : IntRow H vb ix) (hl : sh.length ≤ 1048576) (hl2 : ix.length = sh.length) (hs : 0 ≤ sizeI sh) (hv : ∀ k, k < sh.length → 0 ≤ ix.getD k 0 ∧ ix.getD k 0 < sh.getD k 0) : CallsA Try.prog 83 #[va, vb] H fun r H' => r = .int .i64 (placeG sh ix sh.length) ∧ ∃ K, H' = H ++ K := by
  obtain ⟨xa, xc, rfl, -⟩ := ha.op
  obtain ⟨ya, yc, rfl, -⟩ := hb.op
  obtain ⟨e1, e2, e3⟩ := sizeI_ok (l := sh) hs
  have hso : decide (sizeI sh ≥ 0) = true := by simp; omega
  have hall : ∀ k, k < sh.length → 0 ≤ sh.getD k 0 ∧ sh.getD k 0 ≤ 300 ∧ 0 ≤ ix.getD k 0 ∧ ix.getD k 0 < sh.getD k 0 := fun k hk => by
    have h5 := inB_true.1 (List.all_eq_true.1 e2 _ (List.getElem_mem hk))
    have h6 := hv k hk
    rw [getD_lt hk] at h6 ⊢
    exact ⟨h5.1, h5.2, h6.1, h6.2⟩
  have hpl := place_le hall
  have hle : ((ix.length : Int) != (sh.length : Int)) = false := by rw [hl2]; simp
  have q := (LX.nil (H := H))
  refine w83 ?_
  unfold k83
  have es1 := fun Φ => (implShapeOk_ok (ha.ext q.ext) (by omega)).eq0 (Φ := Φ)
  simp -implicitDefEqProofs only [kz, kk0, kk1, kk2, kk3, ↓two_true, ↓two_false, mkv, aggAt, Nat.reduceLeDiff, Nat.reduceSub, Nat.reduceMul, implies_true, Nat.reduceEqDiff, reduceIte, Nat.reduceAdd, Nat.reduceBEq, reduceCtorEq, ix24, ld3, ln24, within_eq, hso, Bool.not_true, hle, es1]
  refine rW_loopQ (σ := Nat) q [1, 18, 19] (fun x tm => tm 20 = .int .i64 x ∧ tm 5 = .int .i64 (placeG sh ix x) ∧ x ≤ sh.length) (fun x L => L) (fun x => sh.length - x) 0 ⟨rfl, rfl, Nat.zero_le _⟩ rfl ?_
  rintro i tm1 H1 ⟨lv1, lv2, lv3, -⟩ ⟨ki, kp, hi⟩ q1
  simp -implicitDefEqProofs only [kz, kk0, kk1, kk2, kk3, ↓two_true, ↓two_false, mkv, aggAt, Nat.reduceLeDiff, Nat.reduceSub, Nat.reduceMul, implies_true, Nat.reduceEqDiff, reduceIte, Nat.reduceAdd, Nat.reduceBEq, reduceCtorEq, ix24, ld3, ln24, es1] at lv1 lv2 lv3
  simp -implicitDefEqProofs only [kz, kk0, kk1, kk2, kk3, ↓two_true, ↓two_false, mkv, aggAt, Nat.reduceLeDiff, Nat.reduceSub, Nat.reduceMul, implies_true, Nat.reduceEqDiff, reduceIte, Nat.reduceAdd, Nat.reduceBEq, reduceCtorEq, ix24, ld3, ln24, within_eq, hso, Bool.not_true, hle, es1, lv1, lv2, lv3, ki, kp]
  refine two_intro (fun u1 => ?_) (fun u1 => ?_)
  ·
    have hi2 : i < sh.length := by have h5 := of_decide_eq_true u1; omega
    have hi3 : i < ix.length := by omega
    obtain ⟨a1, a2, a3, a4⟩ := hall i hi2
    obtain ⟨b1, b2⟩ := hpl i (by omega)
    have b3 := pow301 (k := i) (by omega)
    have gs : sh.getD i 0 = sh[i] := getD_lt hi2
    have gi : ix.getD i 0 = ix[i] := getD_lt hi3
    rw [gs, gi] at a4
    rw [gs] at a1 a2
    rw [gi] at a3
    have hm : 0 ≤ placeG sh ix i * sh[i] := Int.mul_nonneg b1 a1
    have hm2 : placeG sh ix i * sh[i] ≤ 27270901 * 300 := Int.mul_le_mul (by omega) a2 a1 (by omega)
    have w1 : IntKind.i64.wrap (sh[i] - 1) = sh[i] - 1 := IntWalk.i64_in _ (by omega)
    have hin : inB ix[i] 0 (sh[i] - 1) = true := inB_true.2 (by omega)
    have w2 : IntKind.i64.wrap (placeG sh ix i * sh[i]) = placeG sh ix i * sh[i] := IntWalk.i64_in _ (by omega)
    have w3 : IntKind.i64.wrap (placeG sh ix i * sh[i] + ix[i]) = placeG sh ix i * sh[i] + ix[i] := IntWalk.i64_in _ (by omega)
    have w4 : IntKind.i64.wrap ((i : Int) + 1) = ((i + 1 : Nat) : Int) := IntWalk.i64_in ((i : Int) + 1) (by omega)
    have e5 : placeG sh ix (i + 1) = placeG sh ix i * sh[i] + ix[i] := by simp only [placeG, gs, gi]
    obtain ⟨b1, o1, cs1, ei1, fr1, fc1⟩ := ixI (ha.ext q1.ext) (i := i) hi2
    obtain ⟨b2, o2, cs2, ei2, fr2, fc2⟩ := ixI (hb.ext q1.ext) (i := i) hi3
    obtain ⟨b3, o3, cs3, ei3, fr3, fc3⟩ := ixI (hb.ext q1.ext) (i := i) hi3
    try simp -implicitDefEqProofs only [kz, kk0, kk1, kk2, kk3, ↓two_true, ↓two_false, mkv, aggAt, Nat.reduceLeDiff, Nat.reduceSub, Nat.reduceMul, implies_true, Nat.reduceEqDiff, reduceIte, Nat.reduceAdd, Nat.reduceBEq, reduceCtorEq, ix24, ld3, ln24, within_eq, hso, Bool.not_true, hle, es1, w1, hin, w2, w3, w4, ei1, fr1, fc1, ei2, fr2, fc2, ei3, fr3, fc3, lv1, lv2, lv3, ki, kp]
    -- back loop1
    refine ⟨i + 1, (by omega), ⟨rfl, rfl, rfl, trivial⟩, ⟨by first | rfl | simp, by first | rfl | rw [e5], hi2⟩, ?_⟩
    exact q1
  ·
    have hil : i = sh.length := Nat.le_antisymm hi (by have h5 := of_decide_eq_false u1; omega)
    subst hil
    try simp -implicitDefEqProofs only [kz, kk0, kk1, kk2, kk3, ↓two_true, ↓two_false, mkv, aggAt, Nat.reduceLeDiff, Nat.reduceSub, Nat.reduceMul, implies_true, Nat.reduceEqDiff, reduceIte, Nat.reduceAdd, Nat.reduceBEq, reduceCtorEq, ix24, ld3, ln24, within_eq, hso, Bool.not_true, hle, es1, lv1, lv2, lv3, ki, kp]
    -- end1
    first | exact q1.ext | exact ⟨rfl, q1.ext⟩

def revG (l : List Int) (i : Nat) : List Int := (List.range l.length).map fun k => if k < i ∨ l.length ≤ k + i then l.getD (l.length - 1 - k) 0 else l.getD k 0
theorem revG_len {l : List Int} {i : Nat} : (revG l i).length = l.length := by simp [revG]
theorem revG_at {l : List Int} {i k : Nat} (h : k < l.length) : (revG l i)[k]'(by rw [revG_len]; exact h) = if k < i ∨ l.length ≤ k + i then l.getD (l.length - 1 - k) 0 else l.getD k 0 := by simp [revG]
theorem revG_zero {l : List Int} : revG l 0 = l := by
  refine List.ext_getElem revG_len fun k h1 h2 => ?_
  rw [revG_at h2, if_neg (by omega), getD_lt h2]
theorem revG_step {l : List Int} {i j : Nat} (hj : i + j + 1 = l.length) (h : i < j) : ((revG l i).set i (l.getD j 0)).set j (l.getD i 0) = revG l (i + 1) := by
  refine List.ext_getElem (by simp [revG]) fun k h1 h2 => ?_
  rw [revG_len] at h2
  rw [List.getElem_set, List.getElem_set, revG_at h2]
  by_cases e1 : j = k
  · subst e1; rw [if_pos rfl, revG_at h2, if_pos (by omega), show l.length - 1 - j = i by omega]
  · rw [if_neg e1]
    by_cases e2 : i = k
    · subst e2; rw [if_pos rfl, revG_at h2, if_pos (by omega), show l.length - 1 - i = j by omega]
    · rw [if_neg e2, revG_at h2]
      by_cases e3 : k < i ∨ l.length ≤ k + i
      · rw [if_pos e3, if_pos (by omega)]
      · rw [if_neg e3, if_neg (by omega)]
theorem revG_full {l : List Int} {i j : Nat} (hj : i + j + 1 = l.length) (h : ¬ i < j) : revG l i = l.reverse := by
  refine List.ext_getElem (by simp [revG]) fun k h1 h2 => ?_
  rw [revG_len] at h1
  rw [revG_at h1, List.getElem_reverse]
  split
  · rw [getD_lt (by omega)]
  · have : k = l.length - 1 - k := by omega
    rw [getD_lt h1]; congr 1

theorem LX.reverse_pos {c0 : Option Nat} {H0 H : AH} {L0 : List Ix} {v : Value} {l : List Int} (q : LX c0 H0 H (.own (.row v l) :: L0)) (hl : l.length ≤ 1048576) (hp : 0 < l.length) : CallsA Try.prog 81 #[v] H fun r H' => LX c0 H0 H' (.own (.row v l.reverse) :: L0) := by
  obtain ⟨xa, xc, rfl⟩ := (q.own 0 rfl).isSlice
  have wl : IntKind.i64.wrap ((l.length : Int) - 1) = ((l.length - 1 : Nat) : Int) := by rw [IntWalk.i64_in _ (by omega)]; omega
  refine w81 ?_
  unfold k81
  simp -implicitDefEqProofs only [kz, kk0, kk1, kk2, kk3, ↓two_true, ↓two_false, mkv, aggAt, Nat.reduceLeDiff, Nat.reduceSub, Nat.reduceMul, implies_true, Nat.reduceEqDiff, reduceIte, Nat.reduceAdd, Nat.reduceBEq, reduceCtorEq, ix24, ld3, ln24, st3, wl]
  refine rW_loopQ (σ := Nat × Nat) q [0] (fun x tm => tm 2 = .int .i64 x.1 ∧ tm 3 = .int .i64 x.2 ∧ x.1 + x.2 + 1 = l.length) (fun x L => L.set 0 (.own (.row (.slice xa l.length xc) (revG l x.1)))) (fun x => x.2) (0, l.length - 1) ⟨rfl, by first | rfl | assumption, by simp only; omega⟩ (by simp only [revG_zero]; rfl) ?_
  rintro ⟨i, j⟩ tm1 H1 ⟨lv1, -⟩ ⟨ki, kj, hj⟩ q1
  simp -implicitDefEqProofs only [kz, kk0, kk1, kk2, kk3, ↓two_true, ↓two_false, mkv, aggAt, Nat.reduceLeDiff, Nat.reduceSub, Nat.reduceMul, implies_true, Nat.reduceEqDiff, reduceIte, Nat.reduceAdd, Nat.reduceBEq, reduceCtorEq, ix24, ld3, ln24, st3] at lv1
  simp only [List.set_cons_zero, List.set_cons_succ] at q1
  simp only at ki kj hj
  simp -implicitDefEqProofs only [kz, kk0, kk1, kk2, kk3, ↓two_true, ↓two_false, mkv, aggAt, Nat.reduceLeDiff, Nat.reduceSub, Nat.reduceMul, implies_true, Nat.reduceEqDiff, reduceIte, Nat.reduceAdd, Nat.reduceBEq, reduceCtorEq, ix24, ld3, ln24, st3, wl, lv1, ki, kj]
  refine two_intro (fun u1 => ?_) (fun u1 => ?_)
  ·
    have hij : i < j := by have h5 := of_decide_eq_true u1; omega
    have hil : i < (revG l i).length := by rw [revG_len]; omega
    have hjl : j < (revG l i).length := by rw [revG_len]; omega
    have hil2 : i < l.length := by omega
    have hjl2 : j < l.length := by omega
    have ri : (revG l i)[i] = l.getD i 0 := by rw [revG_at hil2, if_neg (by omega)]
    have rj : (revG l i)[j] = l.getD j 0 := by rw [revG_at hjl2, if_neg (by omega)]
    have wi : IntKind.i64.wrap ((i : Int) + 1) = ((i + 1 : Nat) : Int) := IntWalk.i64_in ((i : Int) + 1) (by omega)
    have wj : IntKind.i64.wrap ((j : Int) - 1) = ((j - 1 : Nat) : Int) := by rw [IntWalk.i64_in _ (by omega)]; omega
    obtain ⟨b1, o1, cs1, ei1, fw1, fr1, fl1, fc1, qw1⟩ := q1.wrI 0 rfl (k := j) hjl
    obtain ⟨b2, o2, cs2, ei2, fw2, fr2, fl2, fc2, qw2⟩ := q1.wrI 0 rfl (k := i) hil
    try simp -implicitDefEqProofs only [kz, kk0, kk1, kk2, kk3, ↓two_true, ↓two_false, mkv, aggAt, Nat.reduceLeDiff, Nat.reduceSub, Nat.reduceMul, implies_true, Nat.reduceEqDiff, reduceIte, Nat.reduceAdd, Nat.reduceBEq, reduceCtorEq, ix24, ld3, ln24, st3, wl, ri, rj, wi, wj, ei1, fw1, fr1, fl1, fc1, ei2, fw2, fr2, fl2, fc2, lv1, ki, kj]
    refine st_q (qw2 _) fun H2 q2 => ?_
    simp only [List.set_cons_zero, List.set_cons_succ] at q2
    obtain ⟨b3, o3, cs3, ei3, fw3, fr3, fl3, fc3, qw3⟩ := q2.wrI 0 rfl (k := j) (by rw [List.length_set]; exact hjl)
    have hh1 := ei1.symm.trans ei3
    simp only [Option.some.injEq, Value.pointer.injEq, Addr.mk.injEq, Nat.add_right_cancel_iff] at hh1
    obtain ⟨rfl, rfl, -⟩ := hh1
    simp -implicitDefEqProofs only [kz, kk0, kk1, kk2, kk3, ↓two_true, ↓two_false, mkv, aggAt, Nat.reduceLeDiff, Nat.reduceSub, Nat.reduceMul, implies_true, Nat.reduceEqDiff, reduceIte, Nat.reduceAdd, Nat.reduceBEq, reduceCtorEq, ix24, ld3, ln24, st3, wl, ri, rj, wi, wj, ei1, fw3, fr3, fl3, fc3, lv1, ki, kj]
    refine st_q (qw3 _) fun H3 q3 => ?_
    simp only [List.set_cons_zero, List.set_cons_succ] at q3
    simp -implicitDefEqProofs only [kz, kk0, kk1, kk2, kk3, ↓two_true, ↓two_false, mkv, aggAt, Nat.reduceLeDiff, Nat.reduceSub, Nat.reduceMul, implies_true, Nat.reduceEqDiff, reduceIte, Nat.reduceAdd, Nat.reduceBEq, reduceCtorEq, ix24, ld3, ln24, st3, wl, ri, rj, wi, wj, lv1, ki, kj]
    try simp -implicitDefEqProofs only [kz, kk0, kk1, kk2, kk3, ↓two_true, ↓two_false, mkv, aggAt, Nat.reduceLeDiff, Nat.reduceSub, Nat.reduceMul, implies_true, Nat.reduceEqDiff, reduceIte, Nat.reduceAdd, Nat.reduceBEq, reduceCtorEq, ix24, ld3, ln24, st3, wl, ri, rj, wi, wj, lv1, ki, kj]
    -- back loop1
    refine ⟨(i + 1, j - 1), (by simp only; omega), ⟨rfl, trivial⟩, ⟨by first | rfl | simp, by first | rfl | simp, by simp only; omega⟩, ?_⟩
    try simp only [List.set_cons_zero, List.set_cons_succ]
    rw [← revG_step hj hij]
    exact q3
  ·
    have hij : ¬ i < j := by have h5 := of_decide_eq_false u1; omega
    try simp -implicitDefEqProofs only [kz, kk0, kk1, kk2, kk3, ↓two_true, ↓two_false, mkv, aggAt, Nat.reduceLeDiff, Nat.reduceSub, Nat.reduceMul, implies_true, Nat.reduceEqDiff, reduceIte, Nat.reduceAdd, Nat.reduceBEq, reduceCtorEq, ix24, ld3, ln24, st3, wl, lv1, ki, kj]
    -- end1
    rw [revG_full hj hij] at q1
    exact q1

theorem LX.sel {c : Option Nat} {H0 H : AH} {L : List Ix} (h : LX c H0 H L) (is : List Nat) (hn : is.Nodup) (hb : (is.all fun i => decide (i < L.length)) = true) : LX c H0 H (is.filterMap fun i => L[i]?) := by
  refine h.pick is _ ?_ hn
  clear hn
  induction is with
  | nil => rfl
  | cons i is ih =>
    simp only [List.all_cons, Bool.and_eq_true, decide_eq_true_eq] at hb
    rw [List.map_cons, ih hb.2, List.filterMap_cons, List.getElem?_eq_getElem hb.1]
    rfl
def flG (p r : Nat) (da : List Int) (i : Nat) : List Int := (List.range da.length).map fun k => if k % p * r + k / p < i then da.getD (k % p * r + k / p) 0 else da.getD k 0
theorem flG_len {p r i : Nat} {da : List Int} : (flG p r da i).length = da.length := by simp [flG]
theorem flG_zero {p r : Nat} {da : List Int} : flG p r da 0 = da := by
  refine List.ext_getElem flG_len fun k h1 h2 => ?_
  simp only [flG, List.getElem_map, List.getElem_range]
  rw [if_neg (Nat.not_lt_zero _), getD_lt h2]
theorem fl_tgt {p r i : Nat} (h : i < p * r) : i % r * p + i / r < p * r ∧ (i % r * p + i / r) % p * r + (i % r * p + i / r) / p = i := by
  have hr : 0 < r := Nat.pos_of_ne_zero (by rintro rfl; omega)
  have h1 : i / r < p := (Nat.div_lt_iff_lt_mul hr).2 h
  have h2 : i % r < r := Nat.mod_lt _ hr
  obtain ⟨e1, e2⟩ := cell_div (i := i % r) h1
  refine ⟨by rw [Nat.mul_comm p r]; exact inn_lt h2 h1, ?_⟩
  rw [e1, e2]
  exact Nat.div_add_mod' i r
theorem flG_set {p r i : Nat} {da : List Int} (hl : p * r = da.length) (h : i < da.length) : (flG p r da i).set (i % r * p + i / r) (da.getD i 0) = flG p r da (i + 1) := by
  refine List.ext_getElem (by simp [flG]) fun k h1 h2 => ?_
  rw [flG_len] at h2
  obtain ⟨t1, t2⟩ := fl_tgt (p := p) (r := r) (i := i) (by omega)
  rw [List.getElem_set]
  simp only [flG, List.getElem_map, List.getElem_range]
  by_cases e : i % r * p + i / r = k
  · rw [if_pos e]
    subst e
    rw [t2, if_pos (by omega)]
  · rw [if_neg e]
    have hne : k % p * r + k / p ≠ i := by
      intro e2
      apply e
      obtain ⟨-, s2⟩ := fl_tgt (p := r) (r := p) (i := k) (by rw [Nat.mul_comm]; omega)
      rw [e2] at s2
      exact s2
    by_cases e3 : k % p * r + k / p < i
    · rw [if_pos e3, if_pos (by omega)]
    · rw [if_neg e3, if_neg (by omega)]
theorem idxG2 {p r i : Nat} (h : i < p * r) : idxG [(p : Int), (r : Int)] i 0 = [((i / r : Nat) : Int), ((i % r : Nat) : Int)] := by
  have hr : 0 < r := Nat.pos_of_ne_zero (by rintro rfl; omega)
  have h1 : i / r < p := (Nat.div_lt_iff_lt_mul hr).2 h
  have e : idxQ [(p : Int), (r : Int)] i 1 = i / r := by
    show i / (prodI [(r : Int)]).toNat = _
    rw [show prodI [(r : Int)] = r by simp [prodI], Int.toNat_natCast]
  have q1 : idxV [(p : Int), (r : Int)] i 0 = i / r := by
    show idxQ [(p : Int), (r : Int)] i 1 % ((p : Int)).toNat = _
    rw [e, Int.toNat_natCast, Nat.mod_eq_of_lt h1]
  have q2 : idxV [(p : Int), (r : Int)] i 1 = i % r := by
    show i / (prodI []).toNat % ((r : Int)).toNat = _
    rw [show (prodI []).toNat = 1 from rfl, Nat.div_one, Int.toNat_natCast]
  show [((idxV [(p : Int), (r : Int)] i 0 : Nat) : Int), ((idxV [(p : Int), (r : Int)] i 1 : Nat) : Int)] = _
  rw [q1, q2]
theorem placeG2 {p r i : Nat} : placeG [(r : Int), (p : Int)] [((i % r : Nat) : Int), ((i / r : Nat) : Int)] 2 = ((i % r * p + i / r : Nat) : Int) := by
  simp [placeG]

theorem implFlip2_ok {H : AH} {p m : Nat} {pa qa : Value} {da : List Int} (a : AR H pa qa [(p : Int), (m : Int)] da) (v1 : arrOk [(p : Int), (m : Int)] da = true) (hl : p * m = da.length) : CallsA Try.prog 23 #[.agg #[pa, qa]] H fun r H' => Ans1 H H' r (([(m : Int), (p : Int)], flG p m da da.length), 0) := by
  have bl := a.l2
  have hd3 := arrOk_len v1
  have hsz : sizeI [(p : Int), (m : Int)] = ((p * m : Nat) : Int) := by rw [(arrOk_size v1).1, hl]
  have hszr : sizeI [(m : Int), (p : Int)] = ((p * m : Nat) : Int) := by
    obtain ⟨e1, e2, e3⟩ := sizeI_ok (l := [(p : Int), (m : Int)]) (by omega)
    simp only [List.all_cons, List.all_nil, Bool.and_true, Bool.and_eq_true] at e2
    have hp : prodI [(m : Int), (p : Int)] = ((p * m : Nat) : Int) := by simp [prodI]; exact Int.mul_comm _ _
    rw [sizeI_of (by simp) (by simp only [List.all_cons, List.all_nil, Bool.and_true, Bool.and_eq_true]; exact ⟨e2.2, e2.1⟩) (by rw [hp]; omega), hp]
  obtain ⟨za, zc, zb, zd, rfl, rfl⟩ := a.o1
  have q := (LX.nil (H := H))
  refine w23 ?_
  unfold k23
  simp -implicitDefEqProofs only [kz, kk0, kk1, kk2, kk3, ↓two_true, ↓two_false, mkv, aggAt, Nat.reduceLeDiff, Nat.reduceSub, Nat.reduceMul, implies_true, Nat.reduceEqDiff, reduceIte, Nat.reduceAdd, Nat.reduceBEq, reduceCtorEq, al26, bd26, fa26_0, fa26_1, ix24, ld3, ld24, ld26, ln24, st3, st26, v1, Bool.not_true]
  refine st_box q fun H1 q1 => ?_
  simp -implicitDefEqProofs only [kz, kk0, kk1, kk2, kk3, ↓two_true, ↓two_false, mkv, aggAt, Nat.reduceLeDiff, Nat.reduceSub, Nat.reduceMul, implies_true, Nat.reduceEqDiff, reduceIte, Nat.reduceAdd, Nat.reduceBEq, reduceCtorEq, al26, bd26, fa26_0, fa26_1, ix24, ld3, ld24, ld26, ln24, st3, st26, v1, Bool.not_true, q1.rd 0 rfl]
  refine st_box q1 fun H2 q2 => ?_
  simp -implicitDefEqProofs only [kz, kk0, kk1, kk2, kk3, ↓two_true, ↓two_false, mkv, aggAt, Nat.reduceLeDiff, Nat.reduceSub, Nat.reduceMul, implies_true, Nat.reduceEqDiff, reduceIte, Nat.reduceAdd, Nat.reduceBEq, reduceCtorEq, al26, bd26, fa26_0, fa26_1, ix24, ld3, ld24, ld26, ln24, st3, st26, v1, Bool.not_true, q2.rd 0 rfl, q2.rd 1 rfl]
  refine (implOk_ar (a.ext q2.ext)).mono ?_
  rintro _ H3 ⟨rfl, he1⟩
  have q3 := q2.extd he1
  simp -implicitDefEqProofs only [kz, kk0, kk1, kk2, kk3, ↓two_true, ↓two_false, mkv, aggAt, Nat.reduceLeDiff, Nat.reduceSub, Nat.reduceMul, implies_true, Nat.reduceEqDiff, reduceIte, Nat.reduceAdd, Nat.reduceBEq, reduceCtorEq, al26, bd26, fa26_0, fa26_1, ix24, ld3, ld24, ld26, ln24, st3, st26, v1, Bool.not_true, q3.rd 0 rfl, q3.rd 1 rfl]
  refine (copyA_ok (a.ext q3.ext)).mono ?_
  rintro _ H4 ⟨p1, p2, rfl, g1⟩
  have q4 := q3.join g1
  simp only [List.map_cons, List.map_nil, List.cons_append, List.nil_append] at q4
  obtain ⟨a1, c1, rfl⟩ := (q4.own 0 rfl).isSlice
  obtain ⟨a2, c2, rfl⟩ := (q4.own 1 rfl).isSlice
  simp -implicitDefEqProofs only [kz, kk0, kk1, kk2, kk3, ↓two_true, ↓two_false, mkv, aggAt, Nat.reduceLeDiff, Nat.reduceSub, Nat.reduceMul, implies_true, Nat.reduceEqDiff, reduceIte, Nat.reduceAdd, Nat.reduceBEq, reduceCtorEq, al26, bd26, fa26_0, fa26_1, ix24, ld3, ld24, ld26, ln24, st3, st26, v1, Bool.not_true, q4.rd 2 rfl, q4.rd 3 rfl]
  refine st_box q4 fun H5 q5 => ?_
  simp -implicitDefEqProofs only [kz, kk0, kk1, kk2, kk3, ↓two_true, ↓two_false, mkv, aggAt, Nat.reduceLeDiff, Nat.reduceSub, Nat.reduceMul, implies_true, Nat.reduceEqDiff, reduceIte, Nat.reduceAdd, Nat.reduceBEq, reduceCtorEq, al26, bd26, fa26_0, fa26_1, ix24, ld3, ld24, ld26, ln24, st3, st26, v1, Bool.not_true, q5.rd 0 rfl, q5.rd 3 rfl, q5.rd 4 rfl]
  refine st_set q5 0 rfl fun H6 q6 => ?_
  simp only [List.set_cons_zero, List.set_cons_succ] at q6
  simp -implicitDefEqProofs only [kz, kk0, kk1, kk2, kk3, ↓two_true, ↓two_false, mkv, aggAt, Nat.reduceLeDiff, Nat.reduceSub, Nat.reduceMul, implies_true, Nat.reduceEqDiff, reduceIte, Nat.reduceAdd, Nat.reduceBEq, reduceCtorEq, al26, bd26, fa26_0, fa26_1, ix24, ld3, ld24, ld26, ln24, st3, st26, v1, Bool.not_true, q6.rd 0 rfl, q6.rd 3 rfl, q6.rd 4 rfl]
  have q7 := q6.sel [1, 0, 2, 3, 4] (by decide) rfl
  simp only [List.filterMap_cons, List.filterMap_nil, List.getElem?_cons_zero, List.getElem?_cons_succ] at q7
  refine (LX.reverse_pos (l := [(p : Int), (m : Int)]) q7 (by simp) (by simp)).mono ?_
  rintro _ H7 q8
  rw [show ([(p : Int), (m : Int)]).reverse = [(m : Int), (p : Int)] from rfl] at q8
  simp -implicitDefEqProofs only [kz, kk0, kk1, kk2, kk3, ↓two_true, ↓two_false, mkv, aggAt, Nat.reduceLeDiff, Nat.reduceSub, Nat.reduceMul, implies_true, Nat.reduceEqDiff, reduceIte, Nat.reduceAdd, Nat.reduceBEq, reduceCtorEq, al26, bd26, fa26_0, fa26_1, ix24, ld3, ld24, ld26, ln24, st3, st26, v1, Bool.not_true, q8.rd 1 rfl, q8.rd 3 rfl, q8.rd 4 rfl]
  refine rW_loopQ (σ := Nat) q8 [1, 2, 3, 4, 18, 19] (fun x tm => tm 20 = .int .i64 x ∧ x ≤ da.length) (fun x L => L.set 2 (.own (.row (.slice a2 da.length c2) (flG p m da x)))) (fun x => da.length - x) 0 ⟨rfl, Nat.zero_le _⟩ (by simp only [flG_zero]; rfl) ?_
  rintro i tm1 H8 ⟨lv1, lv2, lv3, lv4, lv5, lv6, -⟩ ⟨ki, hi⟩ q9
  simp -implicitDefEqProofs only [kz, kk0, kk1, kk2, kk3, ↓two_true, ↓two_false, mkv, aggAt, Nat.reduceLeDiff, Nat.reduceSub, Nat.reduceMul, implies_true, Nat.reduceEqDiff, reduceIte, Nat.reduceAdd, Nat.reduceBEq, reduceCtorEq, al26, bd26, fa26_0, fa26_1, ix24, ld3, ld24, ld26, ln24, st3, st26] at lv1 lv2 lv3 lv4 lv5 lv6
  simp only [List.set_cons_zero, List.set_cons_succ] at q9
  simp -implicitDefEqProofs only [kz, kk0, kk1, kk2, kk3, ↓two_true, ↓two_false, mkv, aggAt, Nat.reduceLeDiff, Nat.reduceSub, Nat.reduceMul, implies_true, Nat.reduceEqDiff, reduceIte, Nat.reduceAdd, Nat.reduceBEq, reduceCtorEq, al26, bd26, fa26_0, fa26_1, ix24, ld3, ld24, ld26, ln24, st3, st26, v1, Bool.not_true, lv1, lv2, lv3, lv4, lv5, lv6, ki, q9.rd 1 rfl, q9.rd 3 rfl, q9.rd 4 rfl]
  refine two_intro (fun u1 => ?_) (fun u1 => ?_)
  ·
    have hi2 : i < da.length := by have h5 := of_decide_eq_true u1; omega
    have hr0 : 0 < m := Nat.pos_of_ne_zero (by rintro rfl; omega)
    have hq1 : i / m < p := (Nat.div_lt_iff_lt_mul hr0).2 (by omega)
    have hq2 : i % m < m := Nat.mod_lt _ hr0
    have ht : i % m * p + i / m < da.length := by have := (fl_tgt (p := p) (r := m) (i := i) (by omega)).1; omega
    have gd : da.getD i 0 = da[i] := getD_lt hi2
    have wi : IntKind.i64.wrap ((i : Int) + 1) = ((i + 1 : Nat) : Int) := IntWalk.i64_in ((i : Int) + 1) (by omega)
    obtain ⟨b1, o1, cs1, ei1, fr1, fc1⟩ := ixI (a.od.ext q9.ext) (i := i) hi2
    try simp -implicitDefEqProofs only [kz, kk0, kk1, kk2, kk3, ↓two_true, ↓two_false, mkv, aggAt, Nat.reduceLeDiff, Nat.reduceSub, Nat.reduceMul, implies_true, Nat.reduceEqDiff, reduceIte, Nat.reduceAdd, Nat.reduceBEq, reduceCtorEq, al26, bd26, fa26_0, fa26_1, ix24, ld3, ld24, ld26, ln24, st3, st26, v1, Bool.not_true, wi, ei1, fr1, fc1, lv1, lv2, lv3, lv4, lv5, lv6, ki, q9.rd 1 rfl, q9.rd 3 rfl, q9.rd 4 rfl]
    have hk1 := implIndexOf_ok (p := i) (a.os.ext q9.ext) (by simp) (by rw [hsz]; omega)
    rw [idxG2 (by omega)] at hk1
    refine hk1.mono ?_
    rintro p3 H9 g2
    have q10 := q9.join g2
    simp only [List.map_cons, List.map_nil, List.cons_append, List.nil_append] at q10
    obtain ⟨a3, c3, rfl⟩ := (q10.own 0 rfl).isSlice
    simp -implicitDefEqProofs only [kz, kk0, kk1, kk2, kk3, ↓two_true, ↓two_false, mkv, aggAt, Nat.reduceLeDiff, Nat.reduceSub, Nat.reduceMul, implies_true, Nat.reduceEqDiff, reduceIte, Nat.reduceAdd, Nat.reduceBEq, reduceCtorEq, al26, bd26, fa26_0, fa26_1, ix24, ld3, ld24, ld26, ln24, st3, st26, v1, Bool.not_true, wi, lv1, lv2, lv3, lv4, lv5, lv6, ki, q10.rd 2 rfl, q10.rd 4 rfl, q10.rd 5 rfl]
    have q11 := q10.sel [0, 1, 2, 3, 4, 5] (by decide) rfl
    simp only [List.filterMap_cons, List.filterMap_nil, List.getElem?_cons_zero, List.getElem?_cons_succ] at q11
    refine (LX.reverse_pos (l := [((i / m : Nat) : Int), ((i % m : Nat) : Int)]) q11 (by simp) (by simp)).mono ?_
    rintro _ H10 q12
    rw [show ([((i / m : Nat) : Int), ((i % m : Nat) : Int)]).reverse = [((i % m : Nat) : Int), ((i / m : Nat) : Int)] from rfl] at q12
    simp -implicitDefEqProofs only [kz, kk0, kk1, kk2, kk3, ↓two_true, ↓two_false, mkv, aggAt, Nat.reduceLeDiff, Nat.reduceSub, Nat.reduceMul, implies_true, Nat.reduceEqDiff, reduceIte, Nat.reduceAdd, Nat.reduceBEq, reduceCtorEq, al26, bd26, fa26_0, fa26_1, ix24, ld3, ld24, ld26, ln24, st3, st26, v1, Bool.not_true, wi, lv1, lv2, lv3, lv4, lv5, lv6, ki, q12.rd 2 rfl, q12.rd 4 rfl, q12.rd 5 rfl]
    have hk2 := implPlaceOf_ok (q12.int 1 rfl) (q12.int 0 rfl) (by simp) rfl (by rw [hszr]; omega) (fun k hk => by
      match k, hk with
      | 0, _ => exact ⟨Int.natCast_nonneg _, Int.ofNat_lt.2 hq2⟩
      | 1, _ => exact ⟨Int.natCast_nonneg _, Int.ofNat_lt.2 hq1⟩)
    rw [show placeG [(m : Int), (p : Int)] [((i % m : Nat) : Int), ((i / m : Nat) : Int)] ([(m : Int), (p : Int)]).length = ((i % m * p + i / m : Nat) : Int) from placeG2] at hk2
    refine hk2.mono ?_
    rintro _ H11 ⟨rfl, he2⟩
    have q13 := q12.extd he2
    obtain ⟨b2, o2, cs2, ei2, fw1, fr2, fl1, fc2, qw1⟩ := q13.wrI 3 rfl (k := (i % m * p + i / m)) (by rw [flG_len]; exact ht)
    simp -implicitDefEqProofs only [kz, kk0, kk1, kk2, kk3, ↓two_true, ↓two_false, mkv, aggAt, Nat.reduceLeDiff, Nat.reduceSub, Nat.reduceMul, implies_true, Nat.reduceEqDiff, reduceIte, Nat.reduceAdd, Nat.reduceBEq, reduceCtorEq, al26, bd26, fa26_0, fa26_1, ix24, ld3, ld24, ld26, ln24, st3, st26, v1, Bool.not_true, wi, ei2, fw1, fr2, fl1, fc2, lv1, lv2, lv3, lv4, lv5, lv6, ki, q13.rd 2 rfl, q13.rd 4 rfl, q13.rd 5 rfl, q12.rd 2 rfl, q12.rd 4 rfl, q12.rd 5 rfl]
    refine st_q (qw1 _) fun H12 q14 => ?_
    simp only [List.set_cons_zero, List.set_cons_succ] at q14
    simp -implicitDefEqProofs only [kz, kk0, kk1, kk2, kk3, ↓two_true, ↓two_false, mkv, aggAt, Nat.reduceLeDiff, Nat.reduceSub, Nat.reduceMul, implies_true, Nat.reduceEqDiff, reduceIte, Nat.reduceAdd, Nat.reduceBEq, reduceCtorEq, al26, bd26, fa26_0, fa26_1, ix24, ld3, ld24, ld26, ln24, st3, st26, v1, Bool.not_true, wi, lv1, lv2, lv3, lv4, lv5, lv6, ki, q14.rd 2 rfl, q14.rd 4 rfl, q14.rd 5 rfl, q12.rd 2 rfl, q12.rd 4 rfl, q12.rd 5 rfl, q13.rd 2 rfl, q13.rd 4 rfl, q13.rd 5 rfl]
    try simp -implicitDefEqProofs only [kz, kk0, kk1, kk2, kk3, ↓two_true, ↓two_false, mkv, aggAt, Nat.reduceLeDiff, Nat.reduceSub, Nat.reduceMul, implies_true, Nat.reduceEqDiff, reduceIte, Nat.reduceAdd, Nat.reduceBEq, reduceCtorEq, al26, bd26, fa26_0, fa26_1, ix24, ld3, ld24, ld26, ln24, st3, st26, v1, Bool.not_true, wi, lv1, lv2, lv3, lv4, lv5, lv6, ki, q14.rd 2 rfl, q14.rd 4 rfl, q14.rd 5 rfl]
    -- back loop1
    refine ⟨i + 1, (by omega), ⟨rfl, rfl, rfl, rfl, rfl, rfl, trivial⟩, ⟨by first | rfl | simp, hi2⟩, ?_⟩
    try simp only [List.set_cons_zero, List.set_cons_succ]
    rw [← flG_set hl hi2, gd]
    exact q14.pick [1, 2, 3, 4, 5] _ rfl (by decide)
  ·
    have hil : i = da.length := Nat.le_antisymm hi (by have h5 := of_decide_eq_false u1; omega)
    subst hil
    try simp -implicitDefEqProofs only [kz, kk0, kk1, kk2, kk3, ↓two_true, ↓two_false, mkv, aggAt, Nat.reduceLeDiff, Nat.reduceSub, Nat.reduceMul, implies_true, Nat.reduceEqDiff, reduceIte, Nat.reduceAdd, Nat.reduceBEq, reduceCtorEq, al26, bd26, fa26_0, fa26_1, ix24, ld3, ld24, ld26, ln24, st3, st26, v1, Bool.not_true, lv1, lv2, lv3, lv4, lv5, lv6, ki, q9.rd 1 rfl, q9.rd 3 rfl, q9.rd 4 rfl]
    refine st_set q9 3 rfl fun H13 q15 => ?_
    simp only [List.set_cons_zero, List.set_cons_succ] at q15
    simp -implicitDefEqProofs only [kz, kk0, kk1, kk2, kk3, ↓two_true, ↓two_false, mkv, aggAt, Nat.reduceLeDiff, Nat.reduceSub, Nat.reduceMul, implies_true, Nat.reduceEqDiff, reduceIte, Nat.reduceAdd, Nat.reduceBEq, reduceCtorEq, al26, bd26, fa26_0, fa26_1, ix24, ld3, ld24, ld26, ln24, st3, st26, v1, Bool.not_true, lv1, lv2, lv3, lv4, lv5, lv6, ki, q15.rd 1 rfl, q15.rd 3 rfl, q15.rd 4 rfl]
    -- end1
    exact q15.ans 0 2 (by decide) rfl rfl rfl

theorem firstC_zeroO {l : List Int} (h : firstC l = 0) : ∀ c ∈ l, c = 0 := by
  induction l with
  | nil => intro c hc; simp at hc
  | cons x l ih =>
    rw [firstC_cons] at h
    split at h
    · rename_i hx
      intro c hc
      rcases List.mem_cons.1 hc with e | e
      · rw [e]; exact hx
      · exact ih h c e
    · rename_i hx; exact absurd h hx
theorem outR_errO {s : Int} {sa da sb db : List Int} {R : (List Int × List Int) × Int} (hR : outR s sa da sb db = R) (h : R.2 ≠ 0) : R.1.2 = [] := by
  unfold outR at hR
  repeat' split at hR
  all_goals subst hR
  all_goals first | rfl | exact absurd rfl h
theorem outD_lenO {s : Int} {da db : List Int} : (outD s da db).length = da.length * db.length := by
  unfold outD
  induction da with
  | nil => simp
  | cons x l ih => rw [List.flatMap_cons, List.length_append, ih, List.length_map, List.length_cons, Nat.add_mul, Nat.one_mul, Nat.add_comm]
theorem outD_atO {s : Int} {da db : List Int} {i k : Nat} (hi : i < da.length) (hk : k < db.length) : (outD s da db)[i * db.length + k]? = some (twoF s da[i] db[k]).1 := by
  induction da generalizing i with
  | nil => simp at hi
  | cons x l ih =>
    have e : outD s (x :: l) db = (db.map fun y => (twoF s x y).1) ++ outD s l db := by unfold outD; rw [List.flatMap_cons]
    rw [e]
    cases i with
    | zero => rw [Nat.zero_mul, Nat.zero_add, List.getElem?_append_left (by simpa using hk)]; simp [hk]
    | succ i =>
      rw [List.getElem?_append_right (by rw [List.length_map, Nat.add_mul, Nat.one_mul]; omega), List.length_map, show (i + 1) * db.length + k - db.length = i * db.length + k by rw [Nat.add_mul, Nat.one_mul]; omega]
      exact ih (by simpa using hi)
theorem outR_okO {s : Int} {sa da sb db : List Int} {R : (List Int × List Int) × Int} (hR : outR s sa da sb db = R) (h : R.2 = 0) : arrOk sa da = true ∧ arrOk sb db = true ∧ sg2 s = true ∧ (∀ x ∈ da, ∀ y ∈ db, (twoF s x y).2 = 0) ∧ R = ((sa ++ sb, outD s da db), 0) ∧ arrOk (sa ++ sb) (outD s da db) = true := by
  unfold outR at hR
  split at hR
  · rename_i h1
    simp only [Bool.and_eq_true] at h1
    split at hR
    · subst hR; exact absurd h (show ¬ ((4 : Int) = 0) by decide)
    · split at hR
      · rename_i h3
        split at hR
        · rename_i h4
          refine ⟨h1.1, h1.2.1, h1.2.2, fun x hx y hy => firstC_zeroO h4 _ (List.mem_flatMap.2 ⟨x, hx, List.mem_map.2 ⟨y, hy, rfl⟩⟩), hR.symm, ?_⟩
          unfold arrOk
          simp only [Bool.and_eq_true, beq_iff_eq]
          have a1 := arrOk_prod h1.1
          have b1 := arrOk_prod h1.2.1
          have ha : ∀ l m : List Int, prodI (l ++ m) = prodI l * prodI m := by
            intro l m
            induction l with
            | nil => simp [prodI]
            | cons x l ih => rw [List.cons_append, prodI_cons, prodI_cons, ih, Int.mul_assoc]
          refine ⟨?_, List.all_eq_true.2 fun z hz => ?_⟩
          · obtain ⟨e1, e2, e3⟩ := sizeI_ok (l := sa ++ sb) (by omega)
            rw [e3, ha, a1.2.2.1, b1.2.2.1, outD_lenO, Int.natCast_mul]
          · obtain ⟨x, hx, hz⟩ := List.mem_flatMap.1 hz
            obtain ⟨y, hy, rfl⟩ := List.mem_map.1 hz
            exact twoF_num
        · rename_i h4; subst hR; exact absurd h h4
      · subst hR; exact absurd h (show ¬ ((6 : Int) = 0) by decide)
  · subst hR; exact absurd h (show ¬ ((1 : Int) = 0) by decide)
theorem twoF_comm {s x y : Int} (h : s = 43 ∨ s = 42 ∨ s = 38 ∨ s = 94 ∨ s = 61) : twoF s x y = twoF s y x := by
  have hr : raw2 s x y = raw2 s y x := by
    rcases h with rfl | rfl | rfl | rfl | rfl
    · simp [raw2, Int.add_comm]
    · simp [raw2, Int.mul_comm]
    · simp [raw2]; first | done | (repeat' split) <;> omega
    · simp [raw2]; first | done | (repeat' split) <;> omega
    · simp [raw2, eq_comm]
  have hs : ¬ s = 37 := by rcases h with rfl | rfl | rfl | rfl | rfl <;> decide
  unfold twoF
  have hw : ∀ z : Int, ¬ (s = 37 ∧ z = 0) := fun z h => hs h.1
  rw [hr, Bool.and_comm (numOk x)]
  simp only [if_neg (hw x), if_neg (hw y)]
theorem out_flip {s : Int} {da db : List Int} (h : s = 43 ∨ s = 42 ∨ s = 38 ∨ s = 94 ∨ s = 61) : flG da.length db.length (outD s da db) (outD s da db).length = outD s db da := by
  refine List.ext_getElem (by rw [flG_len, outD_lenO, outD_lenO, Nat.mul_comm]) fun z h1 h2 => ?_
  rw [flG_len, outD_lenO] at h1
  have hp : 0 < da.length := Nat.pos_of_ne_zero (by intro e; rw [e] at h1; omega)
  have q1 : z / da.length < db.length := (Nat.div_lt_iff_lt_mul hp).2 (by rw [Nat.mul_comm]; exact h1)
  have q2 : z % da.length < da.length := Nat.mod_lt _ hp
  have hlt := inn_lt q2 q1
  have e1 := outD_atO (s := s) q2 q1
  have e2 := outD_atO (s := s) q1 q2
  rw [Nat.div_add_mod' z da.length] at e2
  have e3 := (List.getElem?_eq_some_iff.1 e2).2
  rw [e3]
  simp only [flG, List.getElem_map, List.getElem_range]
  rw [if_pos (by rw [outD_lenO]; exact hlt), List.getD_eq_getElem?_getD, e1, twoF_comm h]
  rfl
theorem vec_shapeO {sa da : List Int} (h : arrOk sa da = true) (h1 : sa.length = 1) : sa = [(da.length : Int)] := by
  match sa, h1 with
  | [x], _ =>
    have h2 := arrOk_size h
    obtain ⟨_, _, e3⟩ := sizeI_ok (l := [x]) (by omega)
    have : x = da.length := by simp [prodI] at e3; omega
    rw [this]
theorem outR_turn {s : Int} {da db : List Int} (h : s = 43 ∨ s = 42 ∨ s = 38 ∨ s = 94 ∨ s = 61) (v1 : arrOk [(da.length : Int)] da = true) (v2 : arrOk [(db.length : Int)] db = true) (v3 : sg2 s = true) (hz : ∀ x ∈ da, ∀ y ∈ db, (twoF s x y).2 = 0) (hok : arrOk ([(da.length : Int)] ++ [(db.length : Int)]) (outD s da db) = true) : outR s [(db.length : Int)] db [(da.length : Int)] da = (([(db.length : Int), (da.length : Int)], outD s db da), 0) := by
  have l1 := arrOk_len v1
  have l2 := arrOk_len v2
  have l3 := arrOk_len hok
  rw [outD_lenO] at l3
  have hc : outC s db da = 0 := by
    unfold outC
    have : ∀ l : List Int, (∀ c ∈ l, c = 0) → firstC l = 0 := by
      intro l hl
      have := firstC_app (l := l) (m := []) hl
      rw [List.append_nil] at this
      rw [this]; rfl
    refine this _ fun c hc => ?_
    obtain ⟨x, hx, hc⟩ := List.mem_flatMap.1 hc
    obtain ⟨y, hy, rfl⟩ := List.mem_map.1 hc
    rw [twoF_comm h]
    exact hz y hy x hx
  have hp : prodI [(db.length : Int), (da.length : Int)] = ((da.length * db.length : Nat) : Int) := by simp [prodI]; exact Int.mul_comm _ _
  have hs : sizeI ([(db.length : Int)] ++ [(da.length : Int)]) = ((da.length * db.length : Nat) : Int) := by
    show sizeI [(db.length : Int), (da.length : Int)] = _
    rw [sizeI_of (by simp) (by simp only [List.all_cons, List.all_nil, Bool.and_true, Bool.and_eq_true]; exact ⟨inB_true.2 (by omega), inB_true.2 (by omega)⟩) (by rw [hp]; omega), hp]
  unfold outR
  rw [if_pos (by rw [v1, v2, v3]; rfl), if_neg (by simp), if_pos (by omega), if_pos hc]
  rfl

theorem implFlip_e {H : AH} {p m : Nat} {pa qa : Value} {sa da : List Int} (a : AR H pa qa sa da) (hs : sa = [(p : Int), (m : Int)]) (v1 : arrOk sa da = true) (hl : p * m = da.length) : CallsA Try.prog 23 #[.agg #[pa, qa]] H fun r H' => Ans1 H H' r (([(m : Int), (p : Int)], flG p m da da.length), 0) := by
  subst hs; exact implFlip2_ok a v1 hl

set_option maxHeartbeats 4000000 in
theorem law10 : LawA Try.prog 10 [22] := by
  intro H vs hro h
  obtain ⟨v, vs, rfl, hv, h2⟩ := h.cons
  obtain rfl := h2.nil
  obtain ⟨a0, n0, c0, rfl, hb⟩ := rpBytes hv Try.underlying22 Try.underlying5 (by kernel_rfl)
  clear hv h2 hro
  have q := (LX.nil (H := H))
  refine w10 ?_
  unfold k10
  simp -implicitDefEqProofs only [kz, kk0, kk1, kk2, kk3, ↓two_true, ↓two_false, mkv, aggAt, Nat.reduceLeDiff, Nat.reduceSub, Nat.reduceMul, implies_true, Nat.reduceEqDiff, reduceIte, Nat.reduceAdd, Nat.reduceBEq, reduceCtorEq, al26, fa26_0, fa26_1, ix24, ld3, ld24, ld26, ln24, st26, big_eq, implTwo_eq, bne_self_eq_false, beq_self_eq_true, Bool.not_true, Bool.and_self, cast0]
  refine two_intro (fun u1 => ?_) (fun u1 => ?_)
  ·
    try simp -implicitDefEqProofs only [kz, kk0, kk1, kk2, kk3, ↓two_true, ↓two_false, mkv, aggAt, Nat.reduceLeDiff, Nat.reduceSub, Nat.reduceMul, implies_true, Nat.reduceEqDiff, reduceIte, Nat.reduceAdd, Nat.reduceBEq, reduceCtorEq, al26, fa26_0, fa26_1, ix24, ld3, ld24, ld26, ln24, st26, big_eq, implTwo_eq, bne_self_eq_false, beq_self_eq_true, Bool.not_true, Bool.and_self, cast0]
    -- end1
    all_goals trivial
  ·
    have hn0 : n0 ≤ 1048576 := by simp at u1; omega
    try simp -implicitDefEqProofs only [kz, kk0, kk1, kk2, kk3, ↓two_true, ↓two_false, mkv, aggAt, Nat.reduceLeDiff, Nat.reduceSub, Nat.reduceMul, implies_true, Nat.reduceEqDiff, reduceIte, Nat.reduceAdd, Nat.reduceBEq, reduceCtorEq, al26, fa26_0, fa26_1, ix24, ld3, ld24, ld26, ln24, st26, big_eq, implTwo_eq, bne_self_eq_false, beq_self_eq_true, Bool.not_true, Bool.and_self, cast0]
    refine (DrawOuter_ok (BRv.ext ⟨a0, n0, c0, rfl, hn0, hb⟩ q.ext)).mono ?_
    rintro _ H1 ⟨s, p1, p2, sa, da, p3, p4, sb, db, rfl, g1, lsa, lda, lsb, ldb⟩
    have q1 := q.join g1
    simp only [List.map_cons, List.map_nil, List.cons_append, List.nil_append] at q1
    obtain ⟨a1, c1, rfl⟩ := (q1.own 0 rfl).isSlice
    obtain ⟨a2, c2, rfl⟩ := (q1.own 1 rfl).isSlice
    obtain ⟨a3, c3, rfl⟩ := (q1.own 2 rfl).isSlice
    obtain ⟨a4, c4, rfl⟩ := (q1.own 3 rfl).isSlice
    simp -implicitDefEqProofs only [kz, kk0, kk1, kk2, kk3, ↓two_true, ↓two_false, mkv, aggAt, Nat.reduceLeDiff, Nat.reduceSub, Nat.reduceMul, implies_true, Nat.reduceEqDiff, reduceIte, Nat.reduceAdd, Nat.reduceBEq, reduceCtorEq, al26, fa26_0, fa26_1, ix24, ld3, ld24, ld26, ln24, st26, big_eq, implTwo_eq, bne_self_eq_false, beq_self_eq_true, Bool.not_true, Bool.and_self, cast0]
    refine st_box q1 fun H2 q2 => ?_
    simp -implicitDefEqProofs only [kz, kk0, kk1, kk2, kk3, ↓two_true, ↓two_false, mkv, aggAt, Nat.reduceLeDiff, Nat.reduceSub, Nat.reduceMul, implies_true, Nat.reduceEqDiff, reduceIte, Nat.reduceAdd, Nat.reduceBEq, reduceCtorEq, al26, fa26_0, fa26_1, ix24, ld3, ld24, ld26, ln24, st26, big_eq, implTwo_eq, bne_self_eq_false, beq_self_eq_true, Bool.not_true, Bool.and_self, cast0, q2.rd 0 rfl]
    refine st_box q2 fun H3 q3 => ?_
    simp -implicitDefEqProofs only [kz, kk0, kk1, kk2, kk3, ↓two_true, ↓two_false, mkv, aggAt, Nat.reduceLeDiff, Nat.reduceSub, Nat.reduceMul, implies_true, Nat.reduceEqDiff, reduceIte, Nat.reduceAdd, Nat.reduceBEq, reduceCtorEq, al26, fa26_0, fa26_1, ix24, ld3, ld24, ld26, ln24, st26, big_eq, implTwo_eq, bne_self_eq_false, beq_self_eq_true, Bool.not_true, Bool.and_self, cast0, q3.rd 0 rfl, q3.rd 1 rfl]
    refine st_set q3 1 rfl fun H4 q4 => ?_
    simp only [List.set_cons_zero, List.set_cons_succ] at q4
    simp -implicitDefEqProofs only [kz, kk0, kk1, kk2, kk3, ↓two_true, ↓two_false, mkv, aggAt, Nat.reduceLeDiff, Nat.reduceSub, Nat.reduceMul, implies_true, Nat.reduceEqDiff, reduceIte, Nat.reduceAdd, Nat.reduceBEq, reduceCtorEq, al26, fa26_0, fa26_1, ix24, ld3, ld24, ld26, ln24, st26, big_eq, implTwo_eq, bne_self_eq_false, beq_self_eq_true, Bool.not_true, Bool.and_self, cast0, q4.rd 0 rfl, q4.rd 1 rfl]
    refine st_set q4 0 rfl fun H5 q5 => ?_
    simp only [List.set_cons_zero, List.set_cons_succ] at q5
    simp -implicitDefEqProofs only [kz, kk0, kk1, kk2, kk3, ↓two_true, ↓two_false, mkv, aggAt, Nat.reduceLeDiff, Nat.reduceSub, Nat.reduceMul, implies_true, Nat.reduceEqDiff, reduceIte, Nat.reduceAdd, Nat.reduceBEq, reduceCtorEq, al26, fa26_0, fa26_1, ix24, ld3, ld24, ld26, ln24, st26, big_eq, implTwo_eq, bne_self_eq_false, beq_self_eq_true, Bool.not_true, Bool.and_self, cast0, q5.rd 0 rfl, q5.rd 1 rfl]
    refine (implOuterA_ok (s := s) (q5.ar 2 3 rfl rfl (by (try simp only [List.length_cons, List.length_nil, List.length_append, List.length_replicate, List.length_map, List.length_take, List.length_drop]); omega) (by (try simp only [List.length_cons, List.length_nil, List.length_append, List.length_replicate, List.length_map, List.length_take, List.length_drop]); omega)) (q5.ar 4 5 rfl rfl (by (try simp only [List.length_cons, List.length_nil, List.length_append, List.length_replicate, List.length_map, List.length_take, List.length_drop]); omega) (by (try simp only [List.length_cons, List.length_nil, List.length_append, List.length_replicate, List.length_map, List.length_take, List.length_drop]); omega)) ).mono ?_
    rintro _ H6 ⟨p5, p6, rfl, g2⟩
    obtain ⟨R1, hR1⟩ : ∃ R, outR s sa da sb db = R := ⟨_, rfl⟩
    rw [hR1] at g2 ⊢
    have q6 := q5.join g2
    simp only [List.map_cons, List.map_nil, List.cons_append, List.nil_append] at q6
    obtain ⟨a5, c5, rfl⟩ := (q6.own 0 rfl).isSlice
    obtain ⟨a6, c6, rfl⟩ := (q6.own 1 rfl).isSlice
    have hRl : R1.1.1.length ≤ 1048576 ∧ R1.1.2.length ≤ 1048576 := by rw [← hR1]; exact outR_lim
    simp -implicitDefEqProofs only [kz, kk0, kk1, kk2, kk3, ↓two_true, ↓two_false, mkv, aggAt, Nat.reduceLeDiff, Nat.reduceSub, Nat.reduceMul, implies_true, Nat.reduceEqDiff, reduceIte, Nat.reduceAdd, Nat.reduceBEq, reduceCtorEq, al26, fa26_0, fa26_1, ix24, ld3, ld24, ld26, ln24, st26, big_eq, implTwo_eq, bne_self_eq_false, beq_self_eq_true, Bool.not_true, Bool.and_self, cast0, q6.rd 2 rfl, q6.rd 3 rfl]
    refine st_box q6 fun H7 q7 => ?_
    simp -implicitDefEqProofs only [kz, kk0, kk1, kk2, kk3, ↓two_true, ↓two_false, mkv, aggAt, Nat.reduceLeDiff, Nat.reduceSub, Nat.reduceMul, implies_true, Nat.reduceEqDiff, reduceIte, Nat.reduceAdd, Nat.reduceBEq, reduceCtorEq, al26, fa26_0, fa26_1, ix24, ld3, ld24, ld26, ln24, st26, big_eq, implTwo_eq, bne_self_eq_false, beq_self_eq_true, Bool.not_true, Bool.and_self, cast0, q7.rd 0 rfl, q7.rd 3 rfl, q7.rd 4 rfl]
    refine st_set q7 0 rfl fun H8 q8 => ?_
    simp only [List.set_cons_zero, List.set_cons_succ] at q8
    simp -implicitDefEqProofs only [kz, kk0, kk1, kk2, kk3, ↓two_true, ↓two_false, mkv, aggAt, Nat.reduceLeDiff, Nat.reduceSub, Nat.reduceMul, implies_true, Nat.reduceEqDiff, reduceIte, Nat.reduceAdd, Nat.reduceBEq, reduceCtorEq, al26, fa26_0, fa26_1, ix24, ld3, ld24, ld26, ln24, st26, big_eq, implTwo_eq, bne_self_eq_false, beq_self_eq_true, Bool.not_true, Bool.and_self, cast0, q8.rd 0 rfl, q8.rd 3 rfl, q8.rd 4 rfl]
    refine (specOuterA_ok (s := s) (q8.ar 5 6 rfl rfl (by (try simp only [List.length_cons, List.length_nil, List.length_append, List.length_replicate, List.length_map, List.length_take, List.length_drop]); omega) (by (try simp only [List.length_cons, List.length_nil, List.length_append, List.length_replicate, List.length_map, List.length_take, List.length_drop]); omega)) (q8.ar 7 8 rfl rfl (by (try simp only [List.length_cons, List.length_nil, List.length_append, List.length_replicate, List.length_map, List.length_take, List.length_drop]); omega) (by (try simp only [List.length_cons, List.length_nil, List.length_append, List.length_replicate, List.length_map, List.length_take, List.length_drop]); omega)) ).mono ?_
    rintro _ H9 ⟨p7, p8, rfl, g3⟩
    rw [hR1] at g3 ⊢
    have q9 := q8.join g3
    simp only [List.map_cons, List.map_nil, List.cons_append, List.nil_append] at q9
    obtain ⟨a7, c7, rfl⟩ := (q9.own 0 rfl).isSlice
    obtain ⟨a8, c8, rfl⟩ := (q9.own 1 rfl).isSlice
    simp -implicitDefEqProofs only [kz, kk0, kk1, kk2, kk3, ↓two_true, ↓two_false, mkv, aggAt, Nat.reduceLeDiff, Nat.reduceSub, Nat.reduceMul, implies_true, Nat.reduceEqDiff, reduceIte, Nat.reduceAdd, Nat.reduceBEq, reduceCtorEq, al26, fa26_0, fa26_1, ix24, ld3, ld24, ld26, ln24, st26, big_eq, implTwo_eq, bne_self_eq_false, beq_self_eq_true, Bool.not_true, Bool.and_self, cast0, q9.rd 2 rfl, q9.rd 5 rfl, q9.rd 6 rfl]
    refine st_box q9 fun H10 q10 => ?_
    simp -implicitDefEqProofs only [kz, kk0, kk1, kk2, kk3, ↓two_true, ↓two_false, mkv, aggAt, Nat.reduceLeDiff, Nat.reduceSub, Nat.reduceMul, implies_true, Nat.reduceEqDiff, reduceIte, Nat.reduceAdd, Nat.reduceBEq, reduceCtorEq, al26, fa26_0, fa26_1, ix24, ld3, ld24, ld26, ln24, st26, big_eq, implTwo_eq, bne_self_eq_false, beq_self_eq_true, Bool.not_true, Bool.and_self, cast0, q10.rd 0 rfl, q10.rd 3 rfl, q10.rd 6 rfl, q10.rd 7 rfl]
    refine st_set q10 0 rfl fun H11 q11 => ?_
    simp only [List.set_cons_zero, List.set_cons_succ] at q11
    simp -implicitDefEqProofs only [kz, kk0, kk1, kk2, kk3, ↓two_true, ↓two_false, mkv, aggAt, Nat.reduceLeDiff, Nat.reduceSub, Nat.reduceMul, implies_true, Nat.reduceEqDiff, reduceIte, Nat.reduceAdd, Nat.reduceBEq, reduceCtorEq, al26, fa26_0, fa26_1, ix24, ld3, ld24, ld26, ln24, st26, big_eq, implTwo_eq, bne_self_eq_false, beq_self_eq_true, Bool.not_true, Bool.and_self, cast0, q11.rd 0 rfl, q11.rd 3 rfl, q11.rd 6 rfl, q11.rd 7 rfl]
    refine two_intro (fun u2 => ?_) (fun u2 => ?_)
    ·
      have hR0 : R1.2 ≠ 0 := by simpa using u2
      have hRn := outR_errO hR1 hR0
      try simp -implicitDefEqProofs only [kz, kk0, kk1, kk2, kk3, ↓two_true, ↓two_false, mkv, aggAt, Nat.reduceLeDiff, Nat.reduceSub, Nat.reduceMul, implies_true, Nat.reduceEqDiff, reduceIte, Nat.reduceAdd, Nat.reduceBEq, reduceCtorEq, al26, fa26_0, fa26_1, ix24, ld3, ld24, ld26, ln24, st26, big_eq, implTwo_eq, bne_self_eq_false, beq_self_eq_true, Bool.not_true, Bool.and_self, cast0, q11.rd 0 rfl, q11.rd 3 rfl, q11.rd 6 rfl, q11.rd 7 rfl]
      -- end2
      all_goals first | rfl | (rw [hRn]; rfl) | (rw [hRok]; done) | (simp; done) | (simp [*]; done)
    ·
      have hR0 : R1.2 = 0 := by simpa using u2
      obtain ⟨v1, v2, v3, hz, hRe, hok⟩ := outR_okO hR1 hR0
      have l1a := arrOk_len v1
      have l1b := arrOk_len v2
      have hRs : R1.1.1 = sa ++ sb := by rw [hRe]
      have hRd : R1.1.2 = outD s da db := by rw [hRe]
      have hRok : arrOk R1.1.1 R1.1.2 = true := by rw [hRs, hRd]; exact hok
      have hRn : R1.1.2.length = da.length * db.length := by rw [hRd, outD_lenO]
      have l1c := arrOk_len hRok
      try simp -implicitDefEqProofs only [kz, kk0, kk1, kk2, kk3, ↓two_true, ↓two_false, mkv, aggAt, Nat.reduceLeDiff, Nat.reduceSub, Nat.reduceMul, implies_true, Nat.reduceEqDiff, reduceIte, Nat.reduceAdd, Nat.reduceBEq, reduceCtorEq, al26, fa26_0, fa26_1, ix24, ld3, ld24, ld26, ln24, st26, big_eq, implTwo_eq, bne_self_eq_false, beq_self_eq_true, Bool.not_true, Bool.and_self, cast0, q11.rd 0 rfl, q11.rd 3 rfl, q11.rd 6 rfl, q11.rd 7 rfl]
      refine rW_loopQ (σ := Nat) q11 [3, 4, 5, 6] (fun x tm => tm 10 = .int .i64 x ∧ x ≤ da.length) (fun x L => L) (fun x => da.length - x) 0 ⟨rfl, Nat.zero_le _⟩ rfl ?_
      rintro i tm1 H12 ⟨lv1, lv2, lv3, lv4, -⟩ ⟨ki, hi⟩ q12
      simp -implicitDefEqProofs only [kz, kk0, kk1, kk2, kk3, ↓two_true, ↓two_false, mkv, aggAt, Nat.reduceLeDiff, Nat.reduceSub, Nat.reduceMul, implies_true, Nat.reduceEqDiff, reduceIte, Nat.reduceAdd, Nat.reduceBEq, reduceCtorEq, al26, fa26_0, fa26_1, ix24, ld3, ld24, ld26, ln24, st26] at lv1 lv2 lv3 lv4
      have wi : IntKind.i64.wrap ((i : Int) + 1) = ((i + 1 : Nat) : Int) := IntWalk.i64_in ((i : Int) + 1) (by omega)
      simp -implicitDefEqProofs only [kz, kk0, kk1, kk2, kk3, ↓two_true, ↓two_false, mkv, aggAt, Nat.reduceLeDiff, Nat.reduceSub, Nat.reduceMul, implies_true, Nat.reduceEqDiff, reduceIte, Nat.reduceAdd, Nat.reduceBEq, reduceCtorEq, al26, fa26_0, fa26_1, ix24, ld3, ld24, ld26, ln24, st26, big_eq, implTwo_eq, bne_self_eq_false, beq_self_eq_true, Bool.not_true, Bool.and_self, cast0, lv1, lv2, lv3, lv4, ki, wi, q12.rd 0 rfl, q12.rd 3 rfl, q12.rd 6 rfl, q12.rd 7 rfl]
      refine two_intro (fun u3 => ?_) (fun u3 => ?_)
      ·
        have hi2 : i < da.length := by have h5 := of_decide_eq_true u3; omega
        try simp -implicitDefEqProofs only [kz, kk0, kk1, kk2, kk3, ↓two_true, ↓two_false, mkv, aggAt, Nat.reduceLeDiff, Nat.reduceSub, Nat.reduceMul, implies_true, Nat.reduceEqDiff, reduceIte, Nat.reduceAdd, Nat.reduceBEq, reduceCtorEq, al26, fa26_0, fa26_1, ix24, ld3, ld24, ld26, ln24, st26, big_eq, implTwo_eq, bne_self_eq_false, beq_self_eq_true, Bool.not_true, Bool.and_self, cast0, lv1, lv2, lv3, lv4, ki, wi, q12.rd 0 rfl, q12.rd 3 rfl, q12.rd 6 rfl, q12.rd 7 rfl]
        refine rW_loopQ (σ := Nat) q12 [3, 4, 5, 6, 10] (fun x tm => tm 11 = .int .i64 x ∧ x ≤ db.length) (fun x L => L) (fun x => db.length - x) 0 ⟨rfl, Nat.zero_le _⟩ rfl ?_
        rintro k tm2 H13 ⟨lv5, lv6, lv7, lv8, lv9, -⟩ ⟨kk, hk⟩ q13
        simp -implicitDefEqProofs only [kz, kk0, kk1, kk2, kk3, ↓two_true, ↓two_false, mkv, aggAt, Nat.reduceLeDiff, Nat.reduceSub, Nat.reduceMul, implies_true, Nat.reduceEqDiff, reduceIte, Nat.reduceAdd, Nat.reduceBEq, reduceCtorEq, al26, fa26_0, fa26_1, ix24, ld3, ld24, ld26, ln24, st26, lv1, lv2, lv3, lv4, ki, wi] at lv5 lv6 lv7 lv8 lv9
        simp -implicitDefEqProofs only [kz, kk0, kk1, kk2, kk3, ↓two_true, ↓two_false, mkv, aggAt, Nat.reduceLeDiff, Nat.reduceSub, Nat.reduceMul, implies_true, Nat.reduceEqDiff, reduceIte, Nat.reduceAdd, Nat.reduceBEq, reduceCtorEq, al26, fa26_0, fa26_1, ix24, ld3, ld24, ld26, ln24, st26, big_eq, implTwo_eq, bne_self_eq_false, beq_self_eq_true, Bool.not_true, Bool.and_self, cast0, ki, wi, lv5, lv6, lv7, lv8, lv9, kk, q13.rd 0 rfl, q13.rd 3 rfl, q13.rd 6 rfl, q13.rd 7 rfl]
        refine two_intro (fun u4 => ?_) (fun u4 => ?_)
        ·
          have hk2 : k < db.length := by have h5 := of_decide_eq_true u4; omega
          have hik := inn_lt hi2 hk2
          have hikR : i * db.length + k < R1.1.2.length := by omega
          have hz2 : (twoF s da[i] db[k]).2 = 0 := hz _ (List.getElem_mem hi2) _ (List.getElem_mem hk2)
          have hRik : R1.1.2[i * db.length + k] = (twoF s da[i] db[k]).1 := by
            have h5 := outD_atO (s := s) hi2 hk2
            rw [← hRd] at h5
            exact (List.getElem?_eq_some_iff.1 h5).2
          have wk : IntKind.i64.wrap ((k : Int) + 1) = ((k + 1 : Nat) : Int) := IntWalk.i64_in ((k : Int) + 1) (by omega)
          have wm : IntKind.i64.wrap ((i : Int) * (db.length : Int)) = ((i * db.length : Nat) : Int) := by rw [← Int.natCast_mul]; exact wrapN (by omega)
          have wm2 : IntKind.i64.wrap (((i * db.length : Nat) : Int) + (k : Int)) = ((i * db.length + k : Nat) : Int) := by rw [← Int.natCast_add]; exact wrapN (by omega)
          obtain ⟨b1, o1, cs1, ei1, fr1, fc1⟩ := ixI (q13.int 9 rfl) (i := i) hi2
          obtain ⟨b2, o2, cs2, ei2, fr2, fc2⟩ := ixI (q13.int 11 rfl) (i := k) hk2
          try simp -implicitDefEqProofs only [kz, kk0, kk1, kk2, kk3, ↓two_true, ↓two_false, mkv, aggAt, Nat.reduceLeDiff, Nat.reduceSub, Nat.reduceMul, implies_true, Nat.reduceEqDiff, reduceIte, Nat.reduceAdd, Nat.reduceBEq, reduceCtorEq, al26, fa26_0, fa26_1, ix24, ld3, ld24, ld26, ln24, st26, big_eq, implTwo_eq, bne_self_eq_false, beq_self_eq_true, Bool.not_true, Bool.and_self, cast0, hz2, wk, wm, wm2, ei1, fr1, fc1, ei2, fr2, fc2, ki, wi, lv5, lv6, lv7, lv8, lv9, kk, q13.rd 0 rfl, q13.rd 3 rfl, q13.rd 6 rfl, q13.rd 7 rfl]
          obtain ⟨b3, o3, cs3, ei3, fr3, fc3⟩ := ixI (q13.int 5 rfl) (i := i * db.length + k) hikR
          try simp -implicitDefEqProofs only [kz, kk0, kk1, kk2, kk3, ↓two_true, ↓two_false, mkv, aggAt, Nat.reduceLeDiff, Nat.reduceSub, Nat.reduceMul, implies_true, Nat.reduceEqDiff, reduceIte, Nat.reduceAdd, Nat.reduceBEq, reduceCtorEq, al26, fa26_0, fa26_1, ix24, ld3, ld24, ld26, ln24, st26, big_eq, implTwo_eq, bne_self_eq_false, beq_self_eq_true, Bool.not_true, Bool.and_self, cast0, hz2, wk, wm, wm2, hRik, ei1, fr1, fc1, ei2, fr2, fc2, ei3, fr3, fc3, ki, wi, lv5, lv6, lv7, lv8, lv9, kk, q13.rd 0 rfl, q13.rd 3 rfl, q13.rd 6 rfl, q13.rd 7 rfl]
          -- back loop2
          refine ⟨k + 1, (by omega), ⟨rfl, rfl, rfl, rfl, rfl, trivial⟩, ⟨by first | rfl | simp, hk2⟩, ?_⟩
          exact q13
        ·
          try simp -implicitDefEqProofs only [kz, kk0, kk1, kk2, kk3, ↓two_true, ↓two_false, mkv, aggAt, Nat.reduceLeDiff, Nat.reduceSub, Nat.reduceMul, implies_true, Nat.reduceEqDiff, reduceIte, Nat.reduceAdd, Nat.reduceBEq, reduceCtorEq, al26, fa26_0, fa26_1, ix24, ld3, ld24, ld26, ln24, st26, big_eq, implTwo_eq, bne_self_eq_false, beq_self_eq_true, Bool.not_true, Bool.and_self, cast0, ki, wi, lv5, lv6, lv7, lv8, lv9, kk, q13.rd 0 rfl, q13.rd 3 rfl, q13.rd 6 rfl, q13.rd 7 rfl]
          -- back loop1
          refine ⟨i + 1, (by omega), ⟨(lv5.trans lv1.symm), (lv6.trans lv2.symm), (lv7.trans lv3.symm), (lv8.trans lv4.symm), trivial⟩, ⟨by first | rfl | simp, hi2⟩, ?_⟩
          exact q13
      ·
        try simp -implicitDefEqProofs only [kz, kk0, kk1, kk2, kk3, ↓two_true, ↓two_false, mkv, aggAt, Nat.reduceLeDiff, Nat.reduceSub, Nat.reduceMul, implies_true, Nat.reduceEqDiff, reduceIte, Nat.reduceAdd, Nat.reduceBEq, reduceCtorEq, al26, fa26_0, fa26_1, ix24, ld3, ld24, ld26, ln24, st26, big_eq, implTwo_eq, bne_self_eq_false, beq_self_eq_true, Bool.not_true, Bool.and_self, cast0, lv1, lv2, lv3, lv4, ki, wi, q12.rd 0 rfl, q12.rd 3 rfl, q12.rd 6 rfl, q12.rd 7 rfl]
        refine two_intro (fun u5 => ?_) (fun u5 => ?_)
        ·
          try simp -implicitDefEqProofs only [kz, kk0, kk1, kk2, kk3, ↓two_true, ↓two_false, mkv, aggAt, Nat.reduceLeDiff, Nat.reduceSub, Nat.reduceMul, implies_true, Nat.reduceEqDiff, reduceIte, Nat.reduceAdd, Nat.reduceBEq, reduceCtorEq, al26, fa26_0, fa26_1, ix24, ld3, ld24, ld26, ln24, st26, big_eq, implTwo_eq, bne_self_eq_false, beq_self_eq_true, Bool.not_true, Bool.and_self, cast0, lv1, lv2, lv3, lv4, ki, wi, q12.rd 0 rfl, q12.rd 3 rfl, q12.rd 6 rfl, q12.rd 7 rfl]
          refine (implOk_ar (q12.ar 4 5 rfl rfl (by (try simp only [List.length_cons, List.length_nil, List.length_append, List.length_replicate, List.length_map, List.length_take, List.length_drop]); omega) (by (try simp only [List.length_cons, List.length_nil, List.length_append, List.length_replicate, List.length_map, List.length_take, List.length_drop]); omega))).mono ?_
          rintro _ H14 ⟨rfl, he1⟩
          have q14 := q12.extd he1
          simp -implicitDefEqProofs only [kz, kk0, kk1, kk2, kk3, ↓two_true, ↓two_false, mkv, aggAt, Nat.reduceLeDiff, Nat.reduceSub, Nat.reduceMul, implies_true, Nat.reduceEqDiff, reduceIte, Nat.reduceAdd, Nat.reduceBEq, reduceCtorEq, al26, fa26_0, fa26_1, ix24, ld3, ld24, ld26, ln24, st26, big_eq, implTwo_eq, bne_self_eq_false, beq_self_eq_true, Bool.not_true, Bool.and_self, cast0, lv1, lv2, lv3, lv4, ki, wi, q14.rd 0 rfl, q14.rd 3 rfl, q14.rd 6 rfl, q14.rd 7 rfl]
          -- end3
          all_goals first | rfl | (rw [hRn]; rfl) | (rw [hRok]; done) | (simp; done) | (simp [*]; done)
        ·
          have ka : sa.length = 1 := by have h5 : (sa.length : Int) = 1 := (by simpa using u5); omega
          try simp -implicitDefEqProofs only [kz, kk0, kk1, kk2, kk3, ↓two_true, ↓two_false, mkv, aggAt, Nat.reduceLeDiff, Nat.reduceSub, Nat.reduceMul, implies_true, Nat.reduceEqDiff, reduceIte, Nat.reduceAdd, Nat.reduceBEq, reduceCtorEq, al26, fa26_0, fa26_1, ix24, ld3, ld24, ld26, ln24, st26, big_eq, implTwo_eq, bne_self_eq_false, beq_self_eq_true, Bool.not_true, Bool.and_self, cast0, lv1, lv2, lv3, lv4, ki, wi, q12.rd 0 rfl, q12.rd 3 rfl, q12.rd 6 rfl, q12.rd 7 rfl]
          refine two_intro (fun u6 => ?_) (fun u6 => ?_)
          ·
            try simp -implicitDefEqProofs only [kz, kk0, kk1, kk2, kk3, ↓two_true, ↓two_false, mkv, aggAt, Nat.reduceLeDiff, Nat.reduceSub, Nat.reduceMul, implies_true, Nat.reduceEqDiff, reduceIte, Nat.reduceAdd, Nat.reduceBEq, reduceCtorEq, al26, fa26_0, fa26_1, ix24, ld3, ld24, ld26, ln24, st26, big_eq, implTwo_eq, bne_self_eq_false, beq_self_eq_true, Bool.not_true, Bool.and_self, cast0, lv1, lv2, lv3, lv4, ki, wi, q12.rd 0 rfl, q12.rd 3 rfl, q12.rd 6 rfl, q12.rd 7 rfl]
            refine (implOk_ar (q12.ar 4 5 rfl rfl (by (try simp only [List.length_cons, List.length_nil, List.length_append, List.length_replicate, List.length_map, List.length_take, List.length_drop]); omega) (by (try simp only [List.length_cons, List.length_nil, List.length_append, List.length_replicate, List.length_map, List.length_take, List.length_drop]); omega))).mono ?_
            rintro _ H15 ⟨rfl, he2⟩
            have q15 := q12.extd he2
            simp -implicitDefEqProofs only [kz, kk0, kk1, kk2, kk3, ↓two_true, ↓two_false, mkv, aggAt, Nat.reduceLeDiff, Nat.reduceSub, Nat.reduceMul, implies_true, Nat.reduceEqDiff, reduceIte, Nat.reduceAdd, Nat.reduceBEq, reduceCtorEq, al26, fa26_0, fa26_1, ix24, ld3, ld24, ld26, ln24, st26, big_eq, implTwo_eq, bne_self_eq_false, beq_self_eq_true, Bool.not_true, Bool.and_self, cast0, lv1, lv2, lv3, lv4, ki, wi, q15.rd 0 rfl, q15.rd 3 rfl, q15.rd 6 rfl, q15.rd 7 rfl]
            -- end4
            all_goals first | rfl | (rw [hRn]; rfl) | (rw [hRok]; done) | (simp; done) | (simp [*]; done)
          ·
            have kb : sb.length = 1 := by have h5 : (sb.length : Int) = 1 := (by simpa using u6); omega
            try simp -implicitDefEqProofs only [kz, kk0, kk1, kk2, kk3, ↓two_true, ↓two_false, mkv, aggAt, Nat.reduceLeDiff, Nat.reduceSub, Nat.reduceMul, implies_true, Nat.reduceEqDiff, reduceIte, Nat.reduceAdd, Nat.reduceBEq, reduceCtorEq, al26, fa26_0, fa26_1, ix24, ld3, ld24, ld26, ln24, st26, big_eq, implTwo_eq, bne_self_eq_false, beq_self_eq_true, Bool.not_true, Bool.and_self, cast0, lv1, lv2, lv3, lv4, ki, wi, q12.rd 0 rfl, q12.rd 3 rfl, q12.rd 6 rfl, q12.rd 7 rfl]
            refine two_intro (fun u7 => ?_) (fun u7 => ?_)
            ·
              try simp -implicitDefEqProofs only [kz, kk0, kk1, kk2, kk3, ↓two_true, ↓two_false, mkv, aggAt, Nat.reduceLeDiff, Nat.reduceSub, Nat.reduceMul, implies_true, Nat.reduceEqDiff, reduceIte, Nat.reduceAdd, Nat.reduceBEq, reduceCtorEq, al26, fa26_0, fa26_1, ix24, ld3, ld24, ld26, ln24, st26, big_eq, implTwo_eq, bne_self_eq_false, beq_self_eq_true, Bool.not_true, Bool.and_self, cast0, lv1, lv2, lv3, lv4, ki, wi, q12.rd 0 rfl, q12.rd 3 rfl, q12.rd 6 rfl, q12.rd 7 rfl]
              refine two_intro (fun u8 => ?_) (fun u8 => ?_)
              ·
                try simp -implicitDefEqProofs only [kz, kk0, kk1, kk2, kk3, ↓two_true, ↓two_false, mkv, aggAt, Nat.reduceLeDiff, Nat.reduceSub, Nat.reduceMul, implies_true, Nat.reduceEqDiff, reduceIte, Nat.reduceAdd, Nat.reduceBEq, reduceCtorEq, al26, fa26_0, fa26_1, ix24, ld3, ld24, ld26, ln24, st26, big_eq, implTwo_eq, bne_self_eq_false, beq_self_eq_true, Bool.not_true, Bool.and_self, cast0, lv1, lv2, lv3, lv4, ki, wi, q12.rd 0 rfl, q12.rd 3 rfl, q12.rd 6 rfl, q12.rd 7 rfl]
                refine two_intro (fun u9 => ?_) (fun u9 => ?_)
                ·
                  try simp -implicitDefEqProofs only [kz, kk0, kk1, kk2, kk3, ↓two_true, ↓two_false, mkv, aggAt, Nat.reduceLeDiff, Nat.reduceSub, Nat.reduceMul, implies_true, Nat.reduceEqDiff, reduceIte, Nat.reduceAdd, Nat.reduceBEq, reduceCtorEq, al26, fa26_0, fa26_1, ix24, ld3, ld24, ld26, ln24, st26, big_eq, implTwo_eq, bne_self_eq_false, beq_self_eq_true, Bool.not_true, Bool.and_self, cast0, lv1, lv2, lv3, lv4, ki, wi, q12.rd 0 rfl, q12.rd 3 rfl, q12.rd 6 rfl, q12.rd 7 rfl]
                  refine two_intro (fun u10 => ?_) (fun u10 => ?_)
                  ·
                    try simp -implicitDefEqProofs only [kz, kk0, kk1, kk2, kk3, ↓two_true, ↓two_false, mkv, aggAt, Nat.reduceLeDiff, Nat.reduceSub, Nat.reduceMul, implies_true, Nat.reduceEqDiff, reduceIte, Nat.reduceAdd, Nat.reduceBEq, reduceCtorEq, al26, fa26_0, fa26_1, ix24, ld3, ld24, ld26, ln24, st26, big_eq, implTwo_eq, bne_self_eq_false, beq_self_eq_true, Bool.not_true, Bool.and_self, cast0, lv1, lv2, lv3, lv4, ki, wi, q12.rd 0 rfl, q12.rd 3 rfl, q12.rd 6 rfl, q12.rd 7 rfl]
                    refine two_intro (fun u11 => ?_) (fun u11 => ?_)
                    ·
                      try simp -implicitDefEqProofs only [kz, kk0, kk1, kk2, kk3, ↓two_true, ↓two_false, mkv, aggAt, Nat.reduceLeDiff, Nat.reduceSub, Nat.reduceMul, implies_true, Nat.reduceEqDiff, reduceIte, Nat.reduceAdd, Nat.reduceBEq, reduceCtorEq, al26, fa26_0, fa26_1, ix24, ld3, ld24, ld26, ln24, st26, big_eq, implTwo_eq, bne_self_eq_false, beq_self_eq_true, Bool.not_true, Bool.and_self, cast0, lv1, lv2, lv3, lv4, ki, wi, q12.rd 0 rfl, q12.rd 3 rfl, q12.rd 6 rfl, q12.rd 7 rfl]
                      refine (implOk_ar (q12.ar 4 5 rfl rfl (by (try simp only [List.length_cons, List.length_nil, List.length_append, List.length_replicate, List.length_map, List.length_take, List.length_drop]); omega) (by (try simp only [List.length_cons, List.length_nil, List.length_append, List.length_replicate, List.length_map, List.length_take, List.length_drop]); omega))).mono ?_
                      rintro _ H16 ⟨rfl, he3⟩
                      have q16 := q12.extd he3
                      simp -implicitDefEqProofs only [kz, kk0, kk1, kk2, kk3, ↓two_true, ↓two_false, mkv, aggAt, Nat.reduceLeDiff, Nat.reduceSub, Nat.reduceMul, implies_true, Nat.reduceEqDiff, reduceIte, Nat.reduceAdd, Nat.reduceBEq, reduceCtorEq, al26, fa26_0, fa26_1, ix24, ld3, ld24, ld26, ln24, st26, big_eq, implTwo_eq, bne_self_eq_false, beq_self_eq_true, Bool.not_true, Bool.and_self, cast0, lv1, lv2, lv3, lv4, ki, wi, q16.rd 0 rfl, q16.rd 3 rfl, q16.rd 6 rfl, q16.rd 7 rfl]
                      -- end5
                      all_goals first | rfl | (rw [hRn]; rfl) | (rw [hRok]; done) | (simp; done) | (simp [*]; done)
                    ·
                      have hsg : s = 61 := by simpa using u11
                      have hcs : s = 43 ∨ s = 42 ∨ s = 38 ∨ s = 94 ∨ s = 61 := by omega
                      have hsa := vec_shapeO v1 ka
                      have hsb := vec_shapeO v2 kb
                      have hRs2 : R1.1.1 = [(da.length : Int), (db.length : Int)] := by rw [hRs, hsa, hsb]; rfl
                      have l1d : (outD s db da).length ≤ 300 := by rw [outD_lenO, Nat.mul_comm, ← hRn]; exact l1c
                      have hturn : outR s sb db sa da = (([(db.length : Int), (da.length : Int)], outD s db da), 0) := by
                        have w1 := v1
                        have w2 := v2
                        have w3 := hok
                        rw [hsa] at w1 w3
                        rw [hsb] at w2 w3
                        rw [hsa, hsb]
                        exact outR_turn hcs w1 w2 v3 hz w3
                      try simp -implicitDefEqProofs only [kz, kk0, kk1, kk2, kk3, ↓two_true, ↓two_false, mkv, aggAt, Nat.reduceLeDiff, Nat.reduceSub, Nat.reduceMul, implies_true, Nat.reduceEqDiff, reduceIte, Nat.reduceAdd, Nat.reduceBEq, reduceCtorEq, al26, fa26_0, fa26_1, ix24, ld3, ld24, ld26, ln24, st26, big_eq, implTwo_eq, bne_self_eq_false, beq_self_eq_true, Bool.not_true, Bool.and_self, cast0, lv1, lv2, lv3, lv4, ki, wi, q12.rd 0 rfl, q12.rd 3 rfl, q12.rd 6 rfl, q12.rd 7 rfl]
                      have hk1 := implOuterA_ok (s := s) (q12.ar 10 11 rfl rfl (by (try simp only [List.length_cons, List.length_nil, List.length_append, List.length_replicate, List.length_map, List.length_take, List.length_drop]); omega) (by (try simp only [List.length_cons, List.length_nil, List.length_append, List.length_replicate, List.length_map, List.length_take, List.length_drop]); omega)) (q12.ar 8 9 rfl rfl (by (try simp only [List.length_cons, List.length_nil, List.length_append, List.length_replicate, List.length_map, List.length_take, List.length_drop]); omega) (by (try simp only [List.length_cons, List.length_nil, List.length_append, List.length_replicate, List.length_map, List.length_take, List.length_drop]); omega)) 
                      rw [hturn] at hk1
                      refine hk1.mono ?_
                      rintro _ H17 ⟨p9, p10, rfl, g4⟩
                      have q17 := q12.join g4
                      simp only [List.map_cons, List.map_nil, List.cons_append, List.nil_append] at q17
                      obtain ⟨a9, c9, rfl⟩ := (q17.own 0 rfl).isSlice
                      obtain ⟨a10, c10, rfl⟩ := (q17.own 1 rfl).isSlice
                      simp -implicitDefEqProofs only [kz, kk0, kk1, kk2, kk3, ↓two_true, ↓two_false, mkv, aggAt, Nat.reduceLeDiff, Nat.reduceSub, Nat.reduceMul, implies_true, Nat.reduceEqDiff, reduceIte, Nat.reduceAdd, Nat.reduceBEq, reduceCtorEq, al26, fa26_0, fa26_1, ix24, ld3, ld24, ld26, ln24, st26, big_eq, implTwo_eq, bne_self_eq_false, beq_self_eq_true, Bool.not_true, Bool.and_self, cast0, lv1, lv2, lv3, lv4, ki, wi, q17.rd 2 rfl, q17.rd 5 rfl, q17.rd 8 rfl, q17.rd 9 rfl]
                      refine st_box q17 fun H18 q18 => ?_
                      simp -implicitDefEqProofs only [kz, kk0, kk1, kk2, kk3, ↓two_true, ↓two_false, mkv, aggAt, Nat.reduceLeDiff, Nat.reduceSub, Nat.reduceMul, implies_true, Nat.reduceEqDiff, reduceIte, Nat.reduceAdd, Nat.reduceBEq, reduceCtorEq, al26, fa26_0, fa26_1, ix24, ld3, ld24, ld26, ln24, st26, big_eq, implTwo_eq, bne_self_eq_false, beq_self_eq_true, Bool.not_true, Bool.and_self, cast0, lv1, lv2, lv3, lv4, ki, wi, q18.rd 0 rfl, q18.rd 3 rfl, q18.rd 6 rfl, q18.rd 9 rfl, q18.rd 10 rfl]
                      refine st_set q18 0 rfl fun H19 q19 => ?_
                      simp only [List.set_cons_zero, List.set_cons_succ] at q19
                      simp -implicitDefEqProofs only [kz, kk0, kk1, kk2, kk3, ↓two_true, ↓two_false, mkv, aggAt, Nat.reduceLeDiff, Nat.reduceSub, Nat.reduceMul, implies_true, Nat.reduceEqDiff, reduceIte, Nat.reduceAdd, Nat.reduceBEq, reduceCtorEq, al26, fa26_0, fa26_1, ix24, ld3, ld24, ld26, ln24, st26, big_eq, implTwo_eq, bne_self_eq_false, beq_self_eq_true, Bool.not_true, Bool.and_self, cast0, lv1, lv2, lv3, lv4, ki, wi, q19.rd 0 rfl, q19.rd 3 rfl, q19.rd 6 rfl, q19.rd 9 rfl, q19.rd 10 rfl]
                      have hk2 := implFlip_e (p := da.length) (m := db.length) (q19.ar 7 8 rfl rfl (by (try simp only [List.length_cons, List.length_nil, List.length_append, List.length_replicate, List.length_map, List.length_take, List.length_drop]); omega) (by (try simp only [List.length_cons, List.length_nil, List.length_append, List.length_replicate, List.length_map, List.length_take, List.length_drop]); omega)) hRs2 hRok hRn.symm 
                      rw [show flG da.length db.length R1.1.2 R1.1.2.length = outD s db da by rw [hRd]; exact out_flip hcs] at hk2
                      refine hk2.mono ?_
                      rintro _ H20 ⟨p11, p12, rfl, g5⟩
                      have q20 := q19.join g5
                      simp only [List.map_cons, List.map_nil, List.cons_append, List.nil_append] at q20
                      obtain ⟨a11, c11, rfl⟩ := (q20.own 0 rfl).isSlice
                      obtain ⟨a12, c12, rfl⟩ := (q20.own 1 rfl).isSlice
                      simp -implicitDefEqProofs only [kz, kk0, kk1, kk2, kk3, ↓two_true, ↓two_false, mkv, aggAt, Nat.reduceLeDiff, Nat.reduceSub, Nat.reduceMul, implies_true, Nat.reduceEqDiff, reduceIte, Nat.reduceAdd, Nat.reduceBEq, reduceCtorEq, al26, fa26_0, fa26_1, ix24, ld3, ld24, ld26, ln24, st26, big_eq, implTwo_eq, bne_self_eq_false, beq_self_eq_true, Bool.not_true, Bool.and_self, cast0, lv1, lv2, lv3, lv4, ki, wi, q20.rd 2 rfl, q20.rd 5 rfl, q20.rd 8 rfl, q20.rd 11 rfl, q20.rd 12 rfl]
                      refine st_box q20 fun H21 q21 => ?_
                      simp -implicitDefEqProofs only [kz, kk0, kk1, kk2, kk3, ↓two_true, ↓two_false, mkv, aggAt, Nat.reduceLeDiff, Nat.reduceSub, Nat.reduceMul, implies_true, Nat.reduceEqDiff, reduceIte, Nat.reduceAdd, Nat.reduceBEq, reduceCtorEq, al26, fa26_0, fa26_1, ix24, ld3, ld24, ld26, ln24, st26, big_eq, implTwo_eq, bne_self_eq_false, beq_self_eq_true, Bool.not_true, Bool.and_self, cast0, lv1, lv2, lv3, lv4, ki, wi, q21.rd 0 rfl, q21.rd 3 rfl, q21.rd 6 rfl, q21.rd 9 rfl, q21.rd 12 rfl, q21.rd 13 rfl]
                      refine st_set q21 0 rfl fun H22 q22 => ?_
                      simp only [List.set_cons_zero, List.set_cons_succ] at q22
                      simp -implicitDefEqProofs only [kz, kk0, kk1, kk2, kk3, ↓two_true, ↓two_false, mkv, aggAt, Nat.reduceLeDiff, Nat.reduceSub, Nat.reduceMul, implies_true, Nat.reduceEqDiff, reduceIte, Nat.reduceAdd, Nat.reduceBEq, reduceCtorEq, al26, fa26_0, fa26_1, ix24, ld3, ld24, ld26, ln24, st26, big_eq, implTwo_eq, bne_self_eq_false, beq_self_eq_true, Bool.not_true, Bool.and_self, cast0, lv1, lv2, lv3, lv4, ki, wi, q22.rd 0 rfl, q22.rd 3 rfl, q22.rd 6 rfl, q22.rd 9 rfl, q22.rd 12 rfl, q22.rd 13 rfl]
                      refine (sameArray_ok (q22.ar 4 5 rfl rfl (by (try simp only [List.length_cons, List.length_nil, List.length_append, List.length_replicate, List.length_map, List.length_take, List.length_drop]); omega) (by (try simp only [List.length_cons, List.length_nil, List.length_append, List.length_replicate, List.length_map, List.length_take, List.length_drop]); omega)) (q22.ar 1 2 rfl rfl (by (try simp only [List.length_cons, List.length_nil, List.length_append, List.length_replicate, List.length_map, List.length_take, List.length_drop]); omega) (by (try simp only [List.length_cons, List.length_nil, List.length_append, List.length_replicate, List.length_map, List.length_take, List.length_drop]); omega))).mono ?_
                      rintro _ H23 ⟨rfl, he4⟩
                      have q23 := q22.extd he4
                      simp -implicitDefEqProofs only [kz, kk0, kk1, kk2, kk3, ↓two_true, ↓two_false, mkv, aggAt, Nat.reduceLeDiff, Nat.reduceSub, Nat.reduceMul, implies_true, Nat.reduceEqDiff, reduceIte, Nat.reduceAdd, Nat.reduceBEq, reduceCtorEq, al26, fa26_0, fa26_1, ix24, ld3, ld24, ld26, ln24, st26, big_eq, implTwo_eq, bne_self_eq_false, beq_self_eq_true, Bool.not_true, Bool.and_self, cast0, lv1, lv2, lv3, lv4, ki, wi, q23.rd 0 rfl, q23.rd 3 rfl, q23.rd 6 rfl, q23.rd 9 rfl, q23.rd 12 rfl, q23.rd 13 rfl]
                      -- end6
                      all_goals first | rfl | (rw [hRn]; rfl) | (rw [hRok]; done) | (simp; done) | (simp [*]; done)
                  ·
                    have hsg : s = 94 := by simpa using u10
                    have hcs : s = 43 ∨ s = 42 ∨ s = 38 ∨ s = 94 ∨ s = 61 := by omega
                    have hsa := vec_shapeO v1 ka
                    have hsb := vec_shapeO v2 kb
                    have hRs2 : R1.1.1 = [(da.length : Int), (db.length : Int)] := by rw [hRs, hsa, hsb]; rfl
                    have l1d : (outD s db da).length ≤ 300 := by rw [outD_lenO, Nat.mul_comm, ← hRn]; exact l1c
                    have hturn : outR s sb db sa da = (([(db.length : Int), (da.length : Int)], outD s db da), 0) := by
                      have w1 := v1
                      have w2 := v2
                      have w3 := hok
                      rw [hsa] at w1 w3
                      rw [hsb] at w2 w3
                      rw [hsa, hsb]
                      exact outR_turn hcs w1 w2 v3 hz w3
                    try simp -implicitDefEqProofs only [kz, kk0, kk1, kk2, kk3, ↓two_true, ↓two_false, mkv, aggAt, Nat.reduceLeDiff, Nat.reduceSub, Nat.reduceMul, implies_true, Nat.reduceEqDiff, reduceIte, Nat.reduceAdd, Nat.reduceBEq, reduceCtorEq, al26, fa26_0, fa26_1, ix24, ld3, ld24, ld26, ln24, st26, big_eq, implTwo_eq, bne_self_eq_false, beq_self_eq_true, Bool.not_true, Bool.and_self, cast0, lv1, lv2, lv3, lv4, ki, wi, q12.rd 0 rfl, q12.rd 3 rfl, q12.rd 6 rfl, q12.rd 7 rfl]
                    have hk3 := implOuterA_ok (s := s) (q12.ar 10 11 rfl rfl (by (try simp only [List.length_cons, List.length_nil, List.length_append, List.length_replicate, List.length_map, List.length_take, List.length_drop]); omega) (by (try simp only [List.length_cons, List.length_nil, List.length_append, List.length_replicate, List.length_map, List.length_take, List.length_drop]); omega)) (q12.ar 8 9 rfl rfl (by (try simp only [List.length_cons, List.length_nil, List.length_append, List.length_replicate, List.length_map, List.length_take, List.length_drop]); omega) (by (try simp only [List.length_cons, List.length_nil, List.length_append, List.length_replicate, List.length_map, List.length_take, List.length_drop]); omega)) 
                    rw [hturn] at hk3
                    refine hk3.mono ?_
                    rintro _ H24 ⟨p13, p14, rfl, g6⟩
                    have q24 := q12.join g6
                    simp only [List.map_cons, List.map_nil, List.cons_append, List.nil_append] at q24
                    obtain ⟨a13, c13, rfl⟩ := (q24.own 0 rfl).isSlice
                    obtain ⟨a14, c14, rfl⟩ := (q24.own 1 rfl).isSlice
                    simp -implicitDefEqProofs only [kz, kk0, kk1, kk2, kk3, ↓two_true, ↓two_false, mkv, aggAt, Nat.reduceLeDiff, Nat.reduceSub, Nat.reduceMul, implies_true, Nat.reduceEqDiff, reduceIte, Nat.reduceAdd, Nat.reduceBEq, reduceCtorEq, al26, fa26_0, fa26_1, ix24, ld3, ld24, ld26, ln24, st26, big_eq, implTwo_eq, bne_self_eq_false, beq_self_eq_true, Bool.not_true, Bool.and_self, cast0, lv1, lv2, lv3, lv4, ki, wi, q24.rd 2 rfl, q24.rd 5 rfl, q24.rd 8 rfl, q24.rd 9 rfl]
                    refine st_box q24 fun H25 q25 => ?_
                    simp -implicitDefEqProofs only [kz, kk0, kk1, kk2, kk3, ↓two_true, ↓two_false, mkv, aggAt, Nat.reduceLeDiff, Nat.reduceSub, Nat.reduceMul, implies_true, Nat.reduceEqDiff, reduceIte, Nat.reduceAdd, Nat.reduceBEq, reduceCtorEq, al26, fa26_0, fa26_1, ix24, ld3, ld24, ld26, ln24, st26, big_eq, implTwo_eq, bne_self_eq_false, beq_self_eq_true, Bool.not_true, Bool.and_self, cast0, lv1, lv2, lv3, lv4, ki, wi, q25.rd 0 rfl, q25.rd 3 rfl, q25.rd 6 rfl, q25.rd 9 rfl, q25.rd 10 rfl]
                    refine st_set q25 0 rfl fun H26 q26 => ?_
                    simp only [List.set_cons_zero, List.set_cons_succ] at q26
                    simp -implicitDefEqProofs only [kz, kk0, kk1, kk2, kk3, ↓two_true, ↓two_false, mkv, aggAt, Nat.reduceLeDiff, Nat.reduceSub, Nat.reduceMul, implies_true, Nat.reduceEqDiff, reduceIte, Nat.reduceAdd, Nat.reduceBEq, reduceCtorEq, al26, fa26_0, fa26_1, ix24, ld3, ld24, ld26, ln24, st26, big_eq, implTwo_eq, bne_self_eq_false, beq_self_eq_true, Bool.not_true, Bool.and_self, cast0, lv1, lv2, lv3, lv4, ki, wi, q26.rd 0 rfl, q26.rd 3 rfl, q26.rd 6 rfl, q26.rd 9 rfl, q26.rd 10 rfl]
                    have hk4 := implFlip_e (p := da.length) (m := db.length) (q26.ar 7 8 rfl rfl (by (try simp only [List.length_cons, List.length_nil, List.length_append, List.length_replicate, List.length_map, List.length_take, List.length_drop]); omega) (by (try simp only [List.length_cons, List.length_nil, List.length_append, List.length_replicate, List.length_map, List.length_take, List.length_drop]); omega)) hRs2 hRok hRn.symm 
                    rw [show flG da.length db.length R1.1.2 R1.1.2.length = outD s db da by rw [hRd]; exact out_flip hcs] at hk4
                    refine hk4.mono ?_
                    rintro _ H27 ⟨p15, p16, rfl, g7⟩
                    have q27 := q26.join g7
                    simp only [List.map_cons, List.map_nil, List.cons_append, List.nil_append] at q27
                    obtain ⟨a15, c15, rfl⟩ := (q27.own 0 rfl).isSlice
                    obtain ⟨a16, c16, rfl⟩ := (q27.own 1 rfl).isSlice
                    simp -implicitDefEqProofs only [kz, kk0, kk1, kk2, kk3, ↓two_true, ↓two_false, mkv, aggAt, Nat.reduceLeDiff, Nat.reduceSub, Nat.reduceMul, implies_true, Nat.reduceEqDiff, reduceIte, Nat.reduceAdd, Nat.reduceBEq, reduceCtorEq, al26, fa26_0, fa26_1, ix24, ld3, ld24, ld26, ln24, st26, big_eq, implTwo_eq, bne_self_eq_false, beq_self_eq_true, Bool.not_true, Bool.and_self, cast0, lv1, lv2, lv3, lv4, ki, wi, q27.rd 2 rfl, q27.rd 5 rfl, q27.rd 8 rfl, q27.rd 11 rfl, q27.rd 12 rfl]
                    refine st_box q27 fun H28 q28 => ?_
                    simp -implicitDefEqProofs only [kz, kk0, kk1, kk2, kk3, ↓two_true, ↓two_false, mkv, aggAt, Nat.reduceLeDiff, Nat.reduceSub, Nat.reduceMul, implies_true, Nat.reduceEqDiff, reduceIte, Nat.reduceAdd, Nat.reduceBEq, reduceCtorEq, al26, fa26_0, fa26_1, ix24, ld3, ld24, ld26, ln24, st26, big_eq, implTwo_eq, bne_self_eq_false, beq_self_eq_true, Bool.not_true, Bool.and_self, cast0, lv1, lv2, lv3, lv4, ki, wi, q28.rd 0 rfl, q28.rd 3 rfl, q28.rd 6 rfl, q28.rd 9 rfl, q28.rd 12 rfl, q28.rd 13 rfl]
                    refine st_set q28 0 rfl fun H29 q29 => ?_
                    simp only [List.set_cons_zero, List.set_cons_succ] at q29
                    simp -implicitDefEqProofs only [kz, kk0, kk1, kk2, kk3, ↓two_true, ↓two_false, mkv, aggAt, Nat.reduceLeDiff, Nat.reduceSub, Nat.reduceMul, implies_true, Nat.reduceEqDiff, reduceIte, Nat.reduceAdd, Nat.reduceBEq, reduceCtorEq, al26, fa26_0, fa26_1, ix24, ld3, ld24, ld26, ln24, st26, big_eq, implTwo_eq, bne_self_eq_false, beq_self_eq_true, Bool.not_true, Bool.and_self, cast0, lv1, lv2, lv3, lv4, ki, wi, q29.rd 0 rfl, q29.rd 3 rfl, q29.rd 6 rfl, q29.rd 9 rfl, q29.rd 12 rfl, q29.rd 13 rfl]
                    refine (sameArray_ok (q29.ar 4 5 rfl rfl (by (try simp only [List.length_cons, List.length_nil, List.length_append, List.length_replicate, List.length_map, List.length_take, List.length_drop]); omega) (by (try simp only [List.length_cons, List.length_nil, List.length_append, List.length_replicate, List.length_map, List.length_take, List.length_drop]); omega)) (q29.ar 1 2 rfl rfl (by (try simp only [List.length_cons, List.length_nil, List.length_append, List.length_replicate, List.length_map, List.length_take, List.length_drop]); omega) (by (try simp only [List.length_cons, List.length_nil, List.length_append, List.length_replicate, List.length_map, List.length_take, List.length_drop]); omega))).mono ?_
                    rintro _ H30 ⟨rfl, he5⟩
                    have q30 := q29.extd he5
                    simp -implicitDefEqProofs only [kz, kk0, kk1, kk2, kk3, ↓two_true, ↓two_false, mkv, aggAt, Nat.reduceLeDiff, Nat.reduceSub, Nat.reduceMul, implies_true, Nat.reduceEqDiff, reduceIte, Nat.reduceAdd, Nat.reduceBEq, reduceCtorEq, al26, fa26_0, fa26_1, ix24, ld3, ld24, ld26, ln24, st26, big_eq, implTwo_eq, bne_self_eq_false, beq_self_eq_true, Bool.not_true, Bool.and_self, cast0, lv1, lv2, lv3, lv4, ki, wi, q30.rd 0 rfl, q30.rd 3 rfl, q30.rd 6 rfl, q30.rd 9 rfl, q30.rd 12 rfl, q30.rd 13 rfl]
                    -- end7
                    all_goals first | rfl | (rw [hRn]; rfl) | (rw [hRok]; done) | (simp; done) | (simp [*]; done)
                ·
                  have hsg : s = 38 := by simpa using u9
                  have hcs : s = 43 ∨ s = 42 ∨ s = 38 ∨ s = 94 ∨ s = 61 := by omega
                  have hsa := vec_shapeO v1 ka
                  have hsb := vec_shapeO v2 kb
                  have hRs2 : R1.1.1 = [(da.length : Int), (db.length : Int)] := by rw [hRs, hsa, hsb]; rfl
                  have l1d : (outD s db da).length ≤ 300 := by rw [outD_lenO, Nat.mul_comm, ← hRn]; exact l1c
                  have hturn : outR s sb db sa da = (([(db.length : Int), (da.length : Int)], outD s db da), 0) := by
                    have w1 := v1
                    have w2 := v2
                    have w3 := hok
                    rw [hsa] at w1 w3
                    rw [hsb] at w2 w3
                    rw [hsa, hsb]
                    exact outR_turn hcs w1 w2 v3 hz w3
                  try simp -implicitDefEqProofs only [kz, kk0, kk1, kk2, kk3, ↓two_true, ↓two_false, mkv, aggAt, Nat.reduceLeDiff, Nat.reduceSub, Nat.reduceMul, implies_true, Nat.reduceEqDiff, reduceIte, Nat.reduceAdd, Nat.reduceBEq, reduceCtorEq, al26, fa26_0, fa26_1, ix24, ld3, ld24, ld26, ln24, st26, big_eq, implTwo_eq, bne_self_eq_false, beq_self_eq_true, Bool.not_true, Bool.and_self, cast0, lv1, lv2, lv3, lv4, ki, wi, q12.rd 0 rfl, q12.rd 3 rfl, q12.rd 6 rfl, q12.rd 7 rfl]
                  have hk5 := implOuterA_ok (s := s) (q12.ar 10 11 rfl rfl (by (try simp only [List.length_cons, List.length_nil, List.length_append, List.length_replicate, List.length_map, List.length_take, List.length_drop]); omega) (by (try simp only [List.length_cons, List.length_nil, List.length_append, List.length_replicate, List.length_map, List.length_take, List.length_drop]); omega)) (q12.ar 8 9 rfl rfl (by (try simp only [List.length_cons, List.length_nil, List.length_append, List.length_replicate, List.length_map, List.length_take, List.length_drop]); omega) (by (try simp only [List.length_cons, List.length_nil, List.length_append, List.length_replicate, List.length_map, List.length_take, List.length_drop]); omega)) 
                  rw [hturn] at hk5
                  refine hk5.mono ?_
                  rintro _ H31 ⟨p17, p18, rfl, g8⟩
                  have q31 := q12.join g8
                  simp only [List.map_cons, List.map_nil, List.cons_append, List.nil_append] at q31
                  obtain ⟨a17, c17, rfl⟩ := (q31.own 0 rfl).isSlice
                  obtain ⟨a18, c18, rfl⟩ := (q31.own 1 rfl).isSlice
                  simp -implicitDefEqProofs only [kz, kk0, kk1, kk2, kk3, ↓two_true, ↓two_false, mkv, aggAt, Nat.reduceLeDiff, Nat.reduceSub, Nat.reduceMul, implies_true, Nat.reduceEqDiff, reduceIte, Nat.reduceAdd, Nat.reduceBEq, reduceCtorEq, al26, fa26_0, fa26_1, ix24, ld3, ld24, ld26, ln24, st26, big_eq, implTwo_eq, bne_self_eq_false, beq_self_eq_true, Bool.not_true, Bool.and_self, cast0, lv1, lv2, lv3, lv4, ki, wi, q31.rd 2 rfl, q31.rd 5 rfl, q31.rd 8 rfl, q31.rd 9 rfl]
                  refine st_box q31 fun H32 q32 => ?_
                  simp -implicitDefEqProofs only [kz, kk0, kk1, kk2, kk3, ↓two_true, ↓two_false, mkv, aggAt, Nat.reduceLeDiff, Nat.reduceSub, Nat.reduceMul, implies_true, Nat.reduceEqDiff, reduceIte, Nat.reduceAdd, Nat.reduceBEq, reduceCtorEq, al26, fa26_0, fa26_1, ix24, ld3, ld24, ld26, ln24, st26, big_eq, implTwo_eq, bne_self_eq_false, beq_self_eq_true, Bool.not_true, Bool.and_self, cast0, lv1, lv2, lv3, lv4, ki, wi, q32.rd 0 rfl, q32.rd 3 rfl, q32.rd 6 rfl, q32.rd 9 rfl, q32.rd 10 rfl]
                  refine st_set q32 0 rfl fun H33 q33 => ?_
                  simp only [List.set_cons_zero, List.set_cons_succ] at q33
                  simp -implicitDefEqProofs only [kz, kk0, kk1, kk2, kk3, ↓two_true, ↓two_false, mkv, aggAt, Nat.reduceLeDiff, Nat.reduceSub, Nat.reduceMul, implies_true, Nat.reduceEqDiff, reduceIte, Nat.reduceAdd, Nat.reduceBEq, reduceCtorEq, al26, fa26_0, fa26_1, ix24, ld3, ld24, ld26, ln24, st26, big_eq, implTwo_eq, bne_self_eq_false, beq_self_eq_true, Bool.not_true, Bool.and_self, cast0, lv1, lv2, lv3, lv4, ki, wi, q33.rd 0 rfl, q33.rd 3 rfl, q33.rd 6 rfl, q33.rd 9 rfl, q33.rd 10 rfl]
                  have hk6 := implFlip_e (p := da.length) (m := db.length) (q33.ar 7 8 rfl rfl (by (try simp only [List.length_cons, List.length_nil, List.length_append, List.length_replicate, List.length_map, List.length_take, List.length_drop]); omega) (by (try simp only [List.length_cons, List.length_nil, List.length_append, List.length_replicate, List.length_map, List.length_take, List.length_drop]); omega)) hRs2 hRok hRn.symm 
                  rw [show flG da.length db.length R1.1.2 R1.1.2.length = outD s db da by rw [hRd]; exact out_flip hcs] at hk6
                  refine hk6.mono ?_
                  rintro _ H34 ⟨p19, p20, rfl, g9⟩
                  have q34 := q33.join g9
                  simp only [List.map_cons, List.map_nil, List.cons_append, List.nil_append] at q34
                  obtain ⟨a19, c19, rfl⟩ := (q34.own 0 rfl).isSlice
                  obtain ⟨a20, c20, rfl⟩ := (q34.own 1 rfl).isSlice
                  simp -implicitDefEqProofs only [kz, kk0, kk1, kk2, kk3, ↓two_true, ↓two_false, mkv, aggAt, Nat.reduceLeDiff, Nat.reduceSub, Nat.reduceMul, implies_true, Nat.reduceEqDiff, reduceIte, Nat.reduceAdd, Nat.reduceBEq, reduceCtorEq, al26, fa26_0, fa26_1, ix24, ld3, ld24, ld26, ln24, st26, big_eq, implTwo_eq, bne_self_eq_false, beq_self_eq_true, Bool.not_true, Bool.and_self, cast0, lv1, lv2, lv3, lv4, ki, wi, q34.rd 2 rfl, q34.rd 5 rfl, q34.rd 8 rfl, q34.rd 11 rfl, q34.rd 12 rfl]
                  refine st_box q34 fun H35 q35 => ?_
                  simp -implicitDefEqProofs only [kz, kk0, kk1, kk2, kk3, ↓two_true, ↓two_false, mkv, aggAt, Nat.reduceLeDiff, Nat.reduceSub, Nat.reduceMul, implies_true, Nat.reduceEqDiff, reduceIte, Nat.reduceAdd, Nat.reduceBEq, reduceCtorEq, al26, fa26_0, fa26_1, ix24, ld3, ld24, ld26, ln24, st26, big_eq, implTwo_eq, bne_self_eq_false, beq_self_eq_true, Bool.not_true, Bool.and_self, cast0, lv1, lv2, lv3, lv4, ki, wi, q35.rd 0 rfl, q35.rd 3 rfl, q35.rd 6 rfl, q35.rd 9 rfl, q35.rd 12 rfl, q35.rd 13 rfl]
                  refine st_set q35 0 rfl fun H36 q36 => ?_
                  simp only [List.set_cons_zero, List.set_cons_succ] at q36
                  simp -implicitDefEqProofs only [kz, kk0, kk1, kk2, kk3, ↓two_true, ↓two_false, mkv, aggAt, Nat.reduceLeDiff, Nat.reduceSub, Nat.reduceMul, implies_true, Nat.reduceEqDiff, reduceIte, Nat.reduceAdd, Nat.reduceBEq, reduceCtorEq, al26, fa26_0, fa26_1, ix24, ld3, ld24, ld26, ln24, st26, big_eq, implTwo_eq, bne_self_eq_false, beq_self_eq_true, Bool.not_true, Bool.and_self, cast0, lv1, lv2, lv3, lv4, ki, wi, q36.rd 0 rfl, q36.rd 3 rfl, q36.rd 6 rfl, q36.rd 9 rfl, q36.rd 12 rfl, q36.rd 13 rfl]
                  refine (sameArray_ok (q36.ar 4 5 rfl rfl (by (try simp only [List.length_cons, List.length_nil, List.length_append, List.length_replicate, List.length_map, List.length_take, List.length_drop]); omega) (by (try simp only [List.length_cons, List.length_nil, List.length_append, List.length_replicate, List.length_map, List.length_take, List.length_drop]); omega)) (q36.ar 1 2 rfl rfl (by (try simp only [List.length_cons, List.length_nil, List.length_append, List.length_replicate, List.length_map, List.length_take, List.length_drop]); omega) (by (try simp only [List.length_cons, List.length_nil, List.length_append, List.length_replicate, List.length_map, List.length_take, List.length_drop]); omega))).mono ?_
                  rintro _ H37 ⟨rfl, he6⟩
                  have q37 := q36.extd he6
                  simp -implicitDefEqProofs only [kz, kk0, kk1, kk2, kk3, ↓two_true, ↓two_false, mkv, aggAt, Nat.reduceLeDiff, Nat.reduceSub, Nat.reduceMul, implies_true, Nat.reduceEqDiff, reduceIte, Nat.reduceAdd, Nat.reduceBEq, reduceCtorEq, al26, fa26_0, fa26_1, ix24, ld3, ld24, ld26, ln24, st26, big_eq, implTwo_eq, bne_self_eq_false, beq_self_eq_true, Bool.not_true, Bool.and_self, cast0, lv1, lv2, lv3, lv4, ki, wi, q37.rd 0 rfl, q37.rd 3 rfl, q37.rd 6 rfl, q37.rd 9 rfl, q37.rd 12 rfl, q37.rd 13 rfl]
                  -- end8
                  all_goals first | rfl | (rw [hRn]; rfl) | (rw [hRok]; done) | (simp; done) | (simp [*]; done)
              ·
                have hsg : s = 42 := by simpa using u8
                have hcs : s = 43 ∨ s = 42 ∨ s = 38 ∨ s = 94 ∨ s = 61 := by omega
                have hsa := vec_shapeO v1 ka
                have hsb := vec_shapeO v2 kb
                have hRs2 : R1.1.1 = [(da.length : Int), (db.length : Int)] := by rw [hRs, hsa, hsb]; rfl
                have l1d : (outD s db da).length ≤ 300 := by rw [outD_lenO, Nat.mul_comm, ← hRn]; exact l1c
                have hturn : outR s sb db sa da = (([(db.length : Int), (da.length : Int)], outD s db da), 0) := by
                  have w1 := v1
                  have w2 := v2
                  have w3 := hok
                  rw [hsa] at w1 w3
                  rw [hsb] at w2 w3
                  rw [hsa, hsb]
                  exact outR_turn hcs w1 w2 v3 hz w3
                try simp -implicitDefEqProofs only [kz, kk0, kk1, kk2, kk3, ↓two_true, ↓two_false, mkv, aggAt, Nat.reduceLeDiff, Nat.reduceSub, Nat.reduceMul, implies_true, Nat.reduceEqDiff, reduceIte, Nat.reduceAdd, Nat.reduceBEq, reduceCtorEq, al26, fa26_0, fa26_1, ix24, ld3, ld24, ld26, ln24, st26, big_eq, implTwo_eq, bne_self_eq_false, beq_self_eq_true, Bool.not_true, Bool.and_self, cast0, lv1, lv2, lv3, lv4, ki, wi, q12.rd 0 rfl, q12.rd 3 rfl, q12.rd 6 rfl, q12.rd 7 rfl]
                have hk7 := implOuterA_ok (s := s) (q12.ar 10 11 rfl rfl (by (try simp only [List.length_cons, List.length_nil, List.length_append, List.length_replicate, List.length_map, List.length_take, List.length_drop]); omega) (by (try simp only [List.length_cons, List.length_nil, List.length_append, List.length_replicate, List.length_map, List.length_take, List.length_drop]); omega)) (q12.ar 8 9 rfl rfl (by (try simp only [List.length_cons, List.length_nil, List.length_append, List.length_replicate, List.length_map, List.length_take, List.length_drop]); omega) (by (try simp only [List.length_cons, List.length_nil, List.length_append, List.length_replicate, List.length_map, List.length_take, List.length_drop]); omega)) 
                rw [hturn] at hk7
                refine hk7.mono ?_
                rintro _ H38 ⟨p21, p22, rfl, g10⟩
                have q38 := q12.join g10
                simp only [List.map_cons, List.map_nil, List.cons_append, List.nil_append] at q38
                obtain ⟨a21, c21, rfl⟩ := (q38.own 0 rfl).isSlice
                obtain ⟨a22, c22, rfl⟩ := (q38.own 1 rfl).isSlice
                simp -implicitDefEqProofs only [kz, kk0, kk1, kk2, kk3, ↓two_true, ↓two_false, mkv, aggAt, Nat.reduceLeDiff, Nat.reduceSub, Nat.reduceMul, implies_true, Nat.reduceEqDiff, reduceIte, Nat.reduceAdd, Nat.reduceBEq, reduceCtorEq, al26, fa26_0, fa26_1, ix24, ld3, ld24, ld26, ln24, st26, big_eq, implTwo_eq, bne_self_eq_false, beq_self_eq_true, Bool.not_true, Bool.and_self, cast0, lv1, lv2, lv3, lv4, ki, wi, q38.rd 2 rfl, q38.rd 5 rfl, q38.rd 8 rfl, q38.rd 9 rfl]
                refine st_box q38 fun H39 q39 => ?_
                simp -implicitDefEqProofs only [kz, kk0, kk1, kk2, kk3, ↓two_true, ↓two_false, mkv, aggAt, Nat.reduceLeDiff, Nat.reduceSub, Nat.reduceMul, implies_true, Nat.reduceEqDiff, reduceIte, Nat.reduceAdd, Nat.reduceBEq, reduceCtorEq, al26, fa26_0, fa26_1, ix24, ld3, ld24, ld26, ln24, st26, big_eq, implTwo_eq, bne_self_eq_false, beq_self_eq_true, Bool.not_true, Bool.and_self, cast0, lv1, lv2, lv3, lv4, ki, wi, q39.rd 0 rfl, q39.rd 3 rfl, q39.rd 6 rfl, q39.rd 9 rfl, q39.rd 10 rfl]
                refine st_set q39 0 rfl fun H40 q40 => ?_
                simp only [List.set_cons_zero, List.set_cons_succ] at q40
                simp -implicitDefEqProofs only [kz, kk0, kk1, kk2, kk3, ↓two_true, ↓two_false, mkv, aggAt, Nat.reduceLeDiff, Nat.reduceSub, Nat.reduceMul, implies_true, Nat.reduceEqDiff, reduceIte, Nat.reduceAdd, Nat.reduceBEq, reduceCtorEq, al26, fa26_0, fa26_1, ix24, ld3, ld24, ld26, ln24, st26, big_eq, implTwo_eq, bne_self_eq_false, beq_self_eq_true, Bool.not_true, Bool.and_self, cast0, lv1, lv2, lv3, lv4, ki, wi, q40.rd 0 rfl, q40.rd 3 rfl, q40.rd 6 rfl, q40.rd 9 rfl, q40.rd 10 rfl]
                have hk8 := implFlip_e (p := da.length) (m := db.length) (q40.ar 7 8 rfl rfl (by (try simp only [List.length_cons, List.length_nil, List.length_append, List.length_replicate, List.length_map, List.length_take, List.length_drop]); omega) (by (try simp only [List.length_cons, List.length_nil, List.length_append, List.length_replicate, List.length_map, List.length_take, List.length_drop]); omega)) hRs2 hRok hRn.symm 
                rw [show flG da.length db.length R1.1.2 R1.1.2.length = outD s db da by rw [hRd]; exact out_flip hcs] at hk8
                refine hk8.mono ?_
                rintro _ H41 ⟨p23, p24, rfl, g11⟩
                have q41 := q40.join g11
                simp only [List.map_cons, List.map_nil, List.cons_append, List.nil_append] at q41
                obtain ⟨a23, c23, rfl⟩ := (q41.own 0 rfl).isSlice
                obtain ⟨a24, c24, rfl⟩ := (q41.own 1 rfl).isSlice
                simp -implicitDefEqProofs only [kz, kk0, kk1, kk2, kk3, ↓two_true, ↓two_false, mkv, aggAt, Nat.reduceLeDiff, Nat.reduceSub, Nat.reduceMul, implies_true, Nat.reduceEqDiff, reduceIte, Nat.reduceAdd, Nat.reduceBEq, reduceCtorEq, al26, fa26_0, fa26_1, ix24, ld3, ld24, ld26, ln24, st26, big_eq, implTwo_eq, bne_self_eq_false, beq_self_eq_true, Bool.not_true, Bool.and_self, cast0, lv1, lv2, lv3, lv4, ki, wi, q41.rd 2 rfl, q41.rd 5 rfl, q41.rd 8 rfl, q41.rd 11 rfl, q41.rd 12 rfl]
                refine st_box q41 fun H42 q42 => ?_
                simp -implicitDefEqProofs only [kz, kk0, kk1, kk2, kk3, ↓two_true, ↓two_false, mkv, aggAt, Nat.reduceLeDiff, Nat.reduceSub, Nat.reduceMul, implies_true, Nat.reduceEqDiff, reduceIte, Nat.reduceAdd, Nat.reduceBEq, reduceCtorEq, al26, fa26_0, fa26_1, ix24, ld3, ld24, ld26, ln24, st26, big_eq, implTwo_eq, bne_self_eq_false, beq_self_eq_true, Bool.not_true, Bool.and_self, cast0, lv1, lv2, lv3, lv4, ki, wi, q42.rd 0 rfl, q42.rd 3 rfl, q42.rd 6 rfl, q42.rd 9 rfl, q42.rd 12 rfl, q42.rd 13 rfl]
                refine st_set q42 0 rfl fun H43 q43 => ?_
                simp only [List.set_cons_zero, List.set_cons_succ] at q43
                simp -implicitDefEqProofs only [kz, kk0, kk1, kk2, kk3, ↓two_true, ↓two_false, mkv, aggAt, Nat.reduceLeDiff, Nat.reduceSub, Nat.reduceMul, implies_true, Nat.reduceEqDiff, reduceIte, Nat.reduceAdd, Nat.reduceBEq, reduceCtorEq, al26, fa26_0, fa26_1, ix24, ld3, ld24, ld26, ln24, st26, big_eq, implTwo_eq, bne_self_eq_false, beq_self_eq_true, Bool.not_true, Bool.and_self, cast0, lv1, lv2, lv3, lv4, ki, wi, q43.rd 0 rfl, q43.rd 3 rfl, q43.rd 6 rfl, q43.rd 9 rfl, q43.rd 12 rfl, q43.rd 13 rfl]
                refine (sameArray_ok (q43.ar 4 5 rfl rfl (by (try simp only [List.length_cons, List.length_nil, List.length_append, List.length_replicate, List.length_map, List.length_take, List.length_drop]); omega) (by (try simp only [List.length_cons, List.length_nil, List.length_append, List.length_replicate, List.length_map, List.length_take, List.length_drop]); omega)) (q43.ar 1 2 rfl rfl (by (try simp only [List.length_cons, List.length_nil, List.length_append, List.length_replicate, List.length_map, List.length_take, List.length_drop]); omega) (by (try simp only [List.length_cons, List.length_nil, List.length_append, List.length_replicate, List.length_map, List.length_take, List.length_drop]); omega))).mono ?_
                rintro _ H44 ⟨rfl, he7⟩
                have q44 := q43.extd he7
                simp -implicitDefEqProofs only [kz, kk0, kk1, kk2, kk3, ↓two_true, ↓two_false, mkv, aggAt, Nat.reduceLeDiff, Nat.reduceSub, Nat.reduceMul, implies_true, Nat.reduceEqDiff, reduceIte, Nat.reduceAdd, Nat.reduceBEq, reduceCtorEq, al26, fa26_0, fa26_1, ix24, ld3, ld24, ld26, ln24, st26, big_eq, implTwo_eq, bne_self_eq_false, beq_self_eq_true, Bool.not_true, Bool.and_self, cast0, lv1, lv2, lv3, lv4, ki, wi, q44.rd 0 rfl, q44.rd 3 rfl, q44.rd 6 rfl, q44.rd 9 rfl, q44.rd 12 rfl, q44.rd 13 rfl]
                -- end9
                all_goals first | rfl | (rw [hRn]; rfl) | (rw [hRok]; done) | (simp; done) | (simp [*]; done)
            ·
              have hsg : s = 43 := by simpa using u7
              have hcs : s = 43 ∨ s = 42 ∨ s = 38 ∨ s = 94 ∨ s = 61 := by omega
              have hsa := vec_shapeO v1 ka
              have hsb := vec_shapeO v2 kb
              have hRs2 : R1.1.1 = [(da.length : Int), (db.length : Int)] := by rw [hRs, hsa, hsb]; rfl
              have l1d : (outD s db da).length ≤ 300 := by rw [outD_lenO, Nat.mul_comm, ← hRn]; exact l1c
              have hturn : outR s sb db sa da = (([(db.length : Int), (da.length : Int)], outD s db da), 0) := by
                have w1 := v1
                have w2 := v2
                have w3 := hok
                rw [hsa] at w1 w3
                rw [hsb] at w2 w3
                rw [hsa, hsb]
                exact outR_turn hcs w1 w2 v3 hz w3
              try simp -implicitDefEqProofs only [kz, kk0, kk1, kk2, kk3, ↓two_true, ↓two_false, mkv, aggAt, Nat.reduceLeDiff, Nat.reduceSub, Nat.reduceMul, implies_true, Nat.reduceEqDiff, reduceIte, Nat.reduceAdd, Nat.reduceBEq, reduceCtorEq, al26, fa26_0, fa26_1, ix24, ld3, ld24, ld26, ln24, st26, big_eq, implTwo_eq, bne_self_eq_false, beq_self_eq_true, Bool.not_true, Bool.and_self, cast0, lv1, lv2, lv3, lv4, ki, wi, q12.rd 0 rfl, q12.rd 3 rfl, q12.rd 6 rfl, q12.rd 7 rfl]
              have hk9 := implOuterA_ok (s := s) (q12.ar 10 11 rfl rfl (by (try simp only [List.length_cons, List.length_nil, List.length_append, List.length_replicate, List.length_map, List.length_take, List.length_drop]); omega) (by (try simp only [List.length_cons, List.length_nil, List.length_append, List.length_replicate, List.length_map, List.length_take, List.length_drop]); omega)) (q12.ar 8 9 rfl rfl (by (try simp only [List.length_cons, List.length_nil, List.length_append, List.length_replicate, List.length_map, List.length_take, List.length_drop]); omega) (by (try simp only [List.length_cons, List.length_nil, List.length_append, List.length_replicate, List.length_map, List.length_take, List.length_drop]); omega)) 
              rw [hturn] at hk9
              refine hk9.mono ?_
              rintro _ H45 ⟨p25, p26, rfl, g12⟩
              have q45 := q12.join g12
              simp only [List.map_cons, List.map_nil, List.cons_append, List.nil_append] at q45
              obtain ⟨a25, c25, rfl⟩ := (q45.own 0 rfl).isSlice
              obtain ⟨a26, c26, rfl⟩ := (q45.own 1 rfl).isSlice
              simp -implicitDefEqProofs only [kz, kk0, kk1, kk2, kk3, ↓two_true, ↓two_false, mkv, aggAt, Nat.reduceLeDiff, Nat.reduceSub, Nat.reduceMul, implies_true, Nat.reduceEqDiff, reduceIte, Nat.reduceAdd, Nat.reduceBEq, reduceCtorEq, al26, fa26_0, fa26_1, ix24, ld3, ld24, ld26, ln24, st26, big_eq, implTwo_eq, bne_self_eq_false, beq_self_eq_true, Bool.not_true, Bool.and_self, cast0, lv1, lv2, lv3, lv4, ki, wi, q45.rd 2 rfl, q45.rd 5 rfl, q45.rd 8 rfl, q45.rd 9 rfl]
              refine st_box q45 fun H46 q46 => ?_
              simp -implicitDefEqProofs only [kz, kk0, kk1, kk2, kk3, ↓two_true, ↓two_false, mkv, aggAt, Nat.reduceLeDiff, Nat.reduceSub, Nat.reduceMul, implies_true, Nat.reduceEqDiff, reduceIte, Nat.reduceAdd, Nat.reduceBEq, reduceCtorEq, al26, fa26_0, fa26_1, ix24, ld3, ld24, ld26, ln24, st26, big_eq, implTwo_eq, bne_self_eq_false, beq_self_eq_true, Bool.not_true, Bool.and_self, cast0, lv1, lv2, lv3, lv4, ki, wi, q46.rd 0 rfl, q46.rd 3 rfl, q46.rd 6 rfl, q46.rd 9 rfl, q46.rd 10 rfl]
              refine st_set q46 0 rfl fun H47 q47 => ?_
              simp only [List.set_cons_zero, List.set_cons_succ] at q47
              simp -implicitDefEqProofs only [kz, kk0, kk1, kk2, kk3, ↓two_true, ↓two_false, mkv, aggAt, Nat.reduceLeDiff, Nat.reduceSub, Nat.reduceMul, implies_true, Nat.reduceEqDiff, reduceIte, Nat.reduceAdd, Nat.reduceBEq, reduceCtorEq, al26, fa26_0, fa26_1, ix24, ld3, ld24, ld26, ln24, st26, big_eq, implTwo_eq, bne_self_eq_false, beq_self_eq_true, Bool.not_true, Bool.and_self, cast0, lv1, lv2, lv3, lv4, ki, wi, q47.rd 0 rfl, q47.rd 3 rfl, q47.rd 6 rfl, q47.rd 9 rfl, q47.rd 10 rfl]
              have hk10 := implFlip_e (p := da.length) (m := db.length) (q47.ar 7 8 rfl rfl (by (try simp only [List.length_cons, List.length_nil, List.length_append, List.length_replicate, List.length_map, List.length_take, List.length_drop]); omega) (by (try simp only [List.length_cons, List.length_nil, List.length_append, List.length_replicate, List.length_map, List.length_take, List.length_drop]); omega)) hRs2 hRok hRn.symm 
              rw [show flG da.length db.length R1.1.2 R1.1.2.length = outD s db da by rw [hRd]; exact out_flip hcs] at hk10
              refine hk10.mono ?_
              rintro _ H48 ⟨p27, p28, rfl, g13⟩
              have q48 := q47.join g13
              simp only [List.map_cons, List.map_nil, List.cons_append, List.nil_append] at q48
              obtain ⟨a27, c27, rfl⟩ := (q48.own 0 rfl).isSlice
              obtain ⟨a28, c28, rfl⟩ := (q48.own 1 rfl).isSlice
              simp -implicitDefEqProofs only [kz, kk0, kk1, kk2, kk3, ↓two_true, ↓two_false, mkv, aggAt, Nat.reduceLeDiff, Nat.reduceSub, Nat.reduceMul, implies_true, Nat.reduceEqDiff, reduceIte, Nat.reduceAdd, Nat.reduceBEq, reduceCtorEq, al26, fa26_0, fa26_1, ix24, ld3, ld24, ld26, ln24, st26, big_eq, implTwo_eq, bne_self_eq_false, beq_self_eq_true, Bool.not_true, Bool.and_self, cast0, lv1, lv2, lv3, lv4, ki, wi, q48.rd 2 rfl, q48.rd 5 rfl, q48.rd 8 rfl, q48.rd 11 rfl, q48.rd 12 rfl]
              refine st_box q48 fun H49 q49 => ?_
              simp -implicitDefEqProofs only [kz, kk0, kk1, kk2, kk3, ↓two_true, ↓two_false, mkv, aggAt, Nat.reduceLeDiff, Nat.reduceSub, Nat.reduceMul, implies_true, Nat.reduceEqDiff, reduceIte, Nat.reduceAdd, Nat.reduceBEq, reduceCtorEq, al26, fa26_0, fa26_1, ix24, ld3, ld24, ld26, ln24, st26, big_eq, implTwo_eq, bne_self_eq_false, beq_self_eq_true, Bool.not_true, Bool.and_self, cast0, lv1, lv2, lv3, lv4, ki, wi, q49.rd 0 rfl, q49.rd 3 rfl, q49.rd 6 rfl, q49.rd 9 rfl, q49.rd 12 rfl, q49.rd 13 rfl]
              refine st_set q49 0 rfl fun H50 q50 => ?_
              simp only [List.set_cons_zero, List.set_cons_succ] at q50
              simp -implicitDefEqProofs only [kz, kk0, kk1, kk2, kk3, ↓two_true, ↓two_false, mkv, aggAt, Nat.reduceLeDiff, Nat.reduceSub, Nat.reduceMul, implies_true, Nat.reduceEqDiff, reduceIte, Nat.reduceAdd, Nat.reduceBEq, reduceCtorEq, al26, fa26_0, fa26_1, ix24, ld3, ld24, ld26, ln24, st26, big_eq, implTwo_eq, bne_self_eq_false, beq_self_eq_true, Bool.not_true, Bool.and_self, cast0, lv1, lv2, lv3, lv4, ki, wi, q50.rd 0 rfl, q50.rd 3 rfl, q50.rd 6 rfl, q50.rd 9 rfl, q50.rd 12 rfl, q50.rd 13 rfl]
              refine (sameArray_ok (q50.ar 4 5 rfl rfl (by (try simp only [List.length_cons, List.length_nil, List.length_append, List.length_replicate, List.length_map, List.length_take, List.length_drop]); omega) (by (try simp only [List.length_cons, List.length_nil, List.length_append, List.length_replicate, List.length_map, List.length_take, List.length_drop]); omega)) (q50.ar 1 2 rfl rfl (by (try simp only [List.length_cons, List.length_nil, List.length_append, List.length_replicate, List.length_map, List.length_take, List.length_drop]); omega) (by (try simp only [List.length_cons, List.length_nil, List.length_append, List.length_replicate, List.length_map, List.length_take, List.length_drop]); omega))).mono ?_
              rintro _ H51 ⟨rfl, he8⟩
              have q51 := q50.extd he8
              simp -implicitDefEqProofs only [kz, kk0, kk1, kk2, kk3, ↓two_true, ↓two_false, mkv, aggAt, Nat.reduceLeDiff, Nat.reduceSub, Nat.reduceMul, implies_true, Nat.reduceEqDiff, reduceIte, Nat.reduceAdd, Nat.reduceBEq, reduceCtorEq, al26, fa26_0, fa26_1, ix24, ld3, ld24, ld26, ln24, st26, big_eq, implTwo_eq, bne_self_eq_false, beq_self_eq_true, Bool.not_true, Bool.and_self, cast0, lv1, lv2, lv3, lv4, ki, wi, q51.rd 0 rfl, q51.rd 3 rfl, q51.rd 6 rfl, q51.rd 9 rfl, q51.rd 12 rfl, q51.rd 13 rfl]
              -- end10
              all_goals first | rfl | (rw [hRn]; rfl) | (rw [hRok]; done) | (simp; done) | (simp [*]; done)

end Go.Proofs.Ytockhdhilemfkaa.AM
