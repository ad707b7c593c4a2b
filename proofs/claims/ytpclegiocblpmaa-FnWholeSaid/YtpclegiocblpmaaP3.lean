/- What the functions answer, part 3. -/
import Derived.Test.YtpclegiocblpmaaP2
set_option linter.unusedVariables false
set_option linter.unusedSimpArgs false
set_option linter.defProp false
set_option maxRecDepth 100000
/- What the functions answer, part 3. -/
namespace Go.Proofs.Ytpclegiocblpmaa.AM
open Go Go.Proofs.Ytpclegiocblpmaa Go.Proofs
set_option maxHeartbeats 4000000 in
theorem specPlaceOf_ok {H : AH} {va vb : Value} {sh ix : List Int} (ha : IntRow H va sh) (hb : IntRow H vb ix) (hl : sh.length ≤ 1048576) (hl2 : ix.length = sh.length) (hs : 0 ≤ sizeI sh) (hv : ∀ k, k < sh.length → 0 ≤ ix.getD k 0 ∧ ix.getD k 0 < sh.getD k 0) : CallsA Try.prog 35 #[va, vb] H fun r H' => r = .int .i64 (placeG sh ix sh.length) ∧ ∃ K, H' = H ++ K := by
  obtain ⟨xa, xc, rfl, -⟩ := ha.op
  obtain ⟨ya, yc, rfl, -⟩ := hb.op
  obtain ⟨e1, e2, e3⟩ := sizeI_ok (l := sh) hs
  have hso : decide (sizeI sh ≥ 0) = true := by simp; omega
  have hall : ∀ k, k < sh.length → 0 ≤ sh.getD k 0 ∧ sh.getD k 0 ≤ 300 ∧ 0 ≤ ix.getD k 0 ∧ ix.getD k 0 < sh.getD k 0 := fun k hk => by
    have h5 := inB_true.1 (List.all_eq_true.1 e2 _ (List.getElem_mem hk))
    have h6 := hv k hk
    rw [getD_lt hk] at h6 ⊢
    exact ⟨h5.1, h5.2, h6.1, h6.2⟩
  have hpl := place_le hall
  have hle : ((ix.length : Int) != (sh.length : Int)) = false := by rw [hl2]; simp
  have q := (LX.nil (H := H))
  refine w35 ?_
  unfold k35
  have es1 := fun Φ => (specShapeOk_ok (ha.ext q.ext) (by omega)).eq0 (Φ := Φ)
  simp -implicitDefEqProofs only [kz, kk0, kk1, kk2, kk3, ↓two_true, ↓two_false, mkv, aggAt, Nat.reduceLeDiff, Nat.reduceSub, Nat.reduceMul, implies_true, Nat.reduceEqDiff, reduceIte, Nat.reduceAdd, Nat.reduceBEq, reduceCtorEq, ix24, ld3, ln24, l1In_eq, hso, Bool.not_true, hle, es1]
  refine rW_loopQ (σ := Nat) q [0, 1] (fun x tm => tm 6 = .int .i64 x ∧ tm 5 = .int .i64 (placeG sh ix x) ∧ x ≤ sh.length) (fun x L => L) (fun x => sh.length - x) 0 ⟨rfl, rfl, Nat.zero_le _⟩ rfl ?_
  rintro i tm1 H1 ⟨lv1, lv2, -⟩ ⟨ki, kp, hi⟩ q1
  simp -implicitDefEqProofs only [kz, kk0, kk1, kk2, kk3, ↓two_true, ↓two_false, mkv, aggAt, Nat.reduceLeDiff, Nat.reduceSub, Nat.reduceMul, implies_true, Nat.reduceEqDiff, reduceIte, Nat.reduceAdd, Nat.reduceBEq, reduceCtorEq, ix24, ld3, ln24, es1] at lv1 lv2
  simp -implicitDefEqProofs only [kz, kk0, kk1, kk2, kk3, ↓two_true, ↓two_false, mkv, aggAt, Nat.reduceLeDiff, Nat.reduceSub, Nat.reduceMul, implies_true, Nat.reduceEqDiff, reduceIte, Nat.reduceAdd, Nat.reduceBEq, reduceCtorEq, ix24, ld3, ln24, l1In_eq, hso, Bool.not_true, hle, es1, lv1, lv2, ki, kp]
  refine two_intro (fun u1 => ?_) (fun u1 => ?_)
  ·
    have hi2 : i < sh.length := by have h5 := of_decide_eq_true u1; omega
    have hi3 : i < ix.length := by omega
    obtain ⟨a1, a2, a3, a4⟩ := hall i hi2
    obtain ⟨b1, b2⟩ := hpl i (by omega)
    have b3 := pow301 (k := i) (by omega)
    have gs : sh.getD i 0 = sh[i] := getD_lt hi2
    have gi : ix.getD i 0 = ix[i] := getD_lt hi3
    rw [gs, gi] at a4
    rw [gs] at a1 a2
    rw [gi] at a3
    have hm : 0 ≤ placeG sh ix i * sh[i] := Int.mul_nonneg b1 a1
    have hm2 : placeG sh ix i * sh[i] ≤ 27270901 * 300 := Int.mul_le_mul (by omega) a2 a1 (by omega)
    have w1 : IntKind.i64.wrap (sh[i] - 1) = sh[i] - 1 := IntWalk.i64_in _ (by omega)
    have hin : inB ix[i] 0 (sh[i] - 1) = true := inB_true.2 (by omega)
    have w2 : IntKind.i64.wrap (placeG sh ix i * sh[i]) = placeG sh ix i * sh[i] := IntWalk.i64_in _ (by omega)
    have w3 : IntKind.i64.wrap (placeG sh ix i * sh[i] + ix[i]) = placeG sh ix i * sh[i] + ix[i] := IntWalk.i64_in _ (by omega)
    have w4 : IntKind.i64.wrap ((i : Int) + 1) = ((i + 1 : Nat) : Int) := IntWalk.i64_in ((i : Int) + 1) (by omega)
    have e5 : placeG sh ix (i + 1) = placeG sh ix i * sh[i] + ix[i] := by simp only [placeG, gs, gi]
    obtain ⟨b1, o1, cs1, ei1, fr1, fc1⟩ := ixI (hb.ext q1.ext) (i := i) hi3
    obtain ⟨b2, o2, cs2, ei2, fr2, fc2⟩ := ixI (ha.ext q1.ext) (i := i) hi2
    try simp -implicitDefEqProofs only [kz, kk0, kk1, kk2, kk3, ↓two_true, ↓two_false, mkv, aggAt, Nat.reduceLeDiff, Nat.reduceSub, Nat.reduceMul, implies_true, Nat.reduceEqDiff, reduceIte, Nat.reduceAdd, Nat.reduceBEq, reduceCtorEq, ix24, ld3, ln24, l1In_eq, hso, Bool.not_true, hle, es1, w1, hin, w2, w3, w4, ei1, fr1, fc1, ei2, fr2, fc2, lv1, lv2, ki, kp]
    obtain ⟨b3, o3, cs3, ei3, fr3, fc3⟩ := ixI (ha.ext q1.ext) (i := i) hi2
    obtain ⟨b4, o4, cs4, ei4, fr4, fc4⟩ := ixI (hb.ext q1.ext) (i := i) hi3
    try simp -implicitDefEqProofs only [kz, kk0, kk1, kk2, kk3, ↓two_true, ↓two_false, mkv, aggAt, Nat.reduceLeDiff, Nat.reduceSub, Nat.reduceMul, implies_true, Nat.reduceEqDiff, reduceIte, Nat.reduceAdd, Nat.reduceBEq, reduceCtorEq, ix24, ld3, ln24, l1In_eq, hso, Bool.not_true, hle, es1, w1, hin, w2, w3, w4, ei1, fr1, fc1, ei2, fr2, fc2, ei3, fr3, fc3, ei4, fr4, fc4, lv1, lv2, ki, kp]
    try simp -implicitDefEqProofs only [kz, kk0, kk1, kk2, kk3, ↓two_true, ↓two_false, mkv, aggAt, Nat.reduceLeDiff, Nat.reduceSub, Nat.reduceMul, implies_true, Nat.reduceEqDiff, reduceIte, Nat.reduceAdd, Nat.reduceBEq, reduceCtorEq, ix24, ld3, ln24, l1In_eq, hso, Bool.not_true, hle, es1, w1, hin, w2, w3, w4, ei1, fr1, fc1, ei2, fr2, fc2, ei3, fr3, fc3, ei4, fr4, fc4, lv1, lv2, ki, kp]
    -- back loop1
    refine ⟨i + 1, (by omega), ⟨rfl, rfl, trivial⟩, ⟨by first | rfl | simp, by first | rfl | rw [e5], hi2⟩, ?_⟩
    exact q1
  ·
    have hil : i = sh.length := Nat.le_antisymm hi (by have h5 := of_decide_eq_false u1; omega)
    subst hil
    try simp -implicitDefEqProofs only [kz, kk0, kk1, kk2, kk3, ↓two_true, ↓two_false, mkv, aggAt, Nat.reduceLeDiff, Nat.reduceSub, Nat.reduceMul, implies_true, Nat.reduceEqDiff, reduceIte, Nat.reduceAdd, Nat.reduceBEq, reduceCtorEq, ix24, ld3, ln24, l1In_eq, hso, Bool.not_true, hle, es1, lv1, lv2, ki, kp]
    -- end1
    first | exact q1.ext | exact ⟨rfl, q1.ext⟩

set_option maxHeartbeats 4000000 in
theorem l5Back_ok {H : AH} {va : Value} {l : List Int} (ha : IntRow H va l) (hl : l.length ≤ 1048576) : CallsA Try.prog 34 #[va] H fun r H' => AnsI H H' r l.reverse := by
  obtain ⟨xa, xc, rfl, -⟩ := ha.op
  have wl : IntKind.i64.wrap ((l.length : Int) - 1) = (l.length : Int) - 1 := IntWalk.i64_in _ (by omega)
  have q := (LX.nil (H := H))
  refine w34 ?_
  unfold k34
  simp -implicitDefEqProofs only [kz, kk0, kk1, kk2, kk3, ↓two_true, ↓two_false, mkv, aggAt, Nat.reduceLeDiff, Nat.reduceSub, Nat.reduceMul, implies_true, Nat.reduceEqDiff, reduceIte, Nat.reduceAdd, Nat.reduceBEq, reduceCtorEq, ap24_24, bs24_0, bs24_1, ix24, ld3, ln24, wl]
  refine st_lit [] rfl rfl q fun H1 q1 => ?_
  simp -implicitDefEqProofs only [kz, kk0, kk1, kk2, kk3, ↓two_true, ↓two_false, mkv, aggAt, Nat.reduceLeDiff, Nat.reduceSub, Nat.reduceMul, implies_true, Nat.reduceEqDiff, reduceIte, Nat.reduceAdd, Nat.reduceBEq, reduceCtorEq, ap24_24, bs24_0, bs24_1, ix24, ld3, ln24, wl]
  refine rW_loopQ (σ := Nat × Value) q1 [0, 2] (fun x tm => tm 4 = .int .i64 ((x.1 : Int) - 1) ∧ tm 3 = x.2 ∧ x.1 ≤ l.length) (fun x L => L.set 0 (.own (.row x.2 (backL l x.1)))) (fun x => x.1) (l.length, _) ⟨rfl, by first | rfl | assumption, Nat.le_refl _⟩ (by simp only [backL_top]; rfl) ?_
  rintro ⟨j, ov⟩ tm1 H2 ⟨lv1, lv2, -⟩ ⟨kj, ko, hj⟩ q2
  simp -implicitDefEqProofs only [kz, kk0, kk1, kk2, kk3, ↓two_true, ↓two_false, mkv, aggAt, Nat.reduceLeDiff, Nat.reduceSub, Nat.reduceMul, implies_true, Nat.reduceEqDiff, reduceIte, Nat.reduceAdd, Nat.reduceBEq, reduceCtorEq, ap24_24, bs24_0, bs24_1, ix24, ld3, ln24] at lv1 lv2
  simp only [List.set_cons_zero, List.set_cons_succ] at q2
  simp only at kj ko hj
  obtain ⟨a1, c1, rfl⟩ := (q2.own 0 rfl).isSlice
  simp -implicitDefEqProofs only [kz, kk0, kk1, kk2, kk3, ↓two_true, ↓two_false, mkv, aggAt, Nat.reduceLeDiff, Nat.reduceSub, Nat.reduceMul, implies_true, Nat.reduceEqDiff, reduceIte, Nat.reduceAdd, Nat.reduceBEq, reduceCtorEq, ap24_24, bs24_0, bs24_1, ix24, ld3, ln24, wl, lv1, lv2, kj, ko]
  refine two_intro (fun u1 => ?_) (fun u1 => ?_)
  ·
    have hj0 : 0 < j := by have h5 := of_decide_eq_true u1; omega
    obtain ⟨i, rfl⟩ : ∃ i, j = i + 1 := ⟨j - 1, by omega⟩
    have hi : i < l.length := by omega
    have eJ : ((i + 1 : Nat) : Int) - 1 = (i : Int) := by omega
    have wi : IntKind.i64.wrap ((i : Int) - 1) = (i : Int) - 1 := IntWalk.i64_in _ (by omega)
    obtain ⟨b1, o1, cs1, ei1, fr1, fc1⟩ := ixI (ha.ext q2.ext) (i := i) hi
    try simp -implicitDefEqProofs only [kz, kk0, kk1, kk2, kk3, ↓two_true, ↓two_false, mkv, aggAt, Nat.reduceLeDiff, Nat.reduceSub, Nat.reduceMul, implies_true, Nat.reduceEqDiff, reduceIte, Nat.reduceAdd, Nat.reduceBEq, reduceCtorEq, ap24_24, bs24_0, bs24_1, ix24, ld3, ln24, wl, eJ, wi, ei1, fr1, fc1, lv1, lv2, kj, ko]
    refine st_lit [(l)[i]] rfl rfl q2 fun H3 q3 => ?_
    simp -implicitDefEqProofs only [kz, kk0, kk1, kk2, kk3, ↓two_true, ↓two_false, mkv, aggAt, Nat.reduceLeDiff, Nat.reduceSub, Nat.reduceMul, implies_true, Nat.reduceEqDiff, reduceIte, Nat.reduceAdd, Nat.reduceBEq, reduceCtorEq, ap24_24, bs24_0, bs24_1, ix24, ld3, ln24, wl, eJ, wi, lv1, lv2, kj, ko]
    refine st_app q3 1 rfl (q3.int 0 rfl) (by rw [backL_len]; simp; omega) fun a2 c2 H4 q4 => ?_
    simp only [List.set_cons_zero, List.set_cons_succ, List.length_nil, List.length_cons, Nat.zero_add, List.nil_append] at q4 ⊢
    simp -implicitDefEqProofs only [kz, kk0, kk1, kk2, kk3, ↓two_true, ↓two_false, mkv, aggAt, Nat.reduceLeDiff, Nat.reduceSub, Nat.reduceMul, implies_true, Nat.reduceEqDiff, reduceIte, Nat.reduceAdd, Nat.reduceBEq, reduceCtorEq, ap24_24, bs24_0, bs24_1, ix24, ld3, ln24, wl, eJ, wi, lv1, lv2, kj, ko]
    -- back loop1
    refine ⟨(i, _), (by simp only; omega), ⟨rfl, rfl, trivial⟩, ⟨by first | rfl | simp, rfl, by simp only; omega⟩, ?_⟩
    try simp only [List.set_cons_zero, List.set_cons_succ]
    rw [backL_step hi]
    exact q4.pick [1] _ rfl (by decide)
  ·
    have hj0 : j = 0 := by have h5 := of_decide_eq_false u1; omega
    subst hj0
    try simp -implicitDefEqProofs only [kz, kk0, kk1, kk2, kk3, ↓two_true, ↓two_false, mkv, aggAt, Nat.reduceLeDiff, Nat.reduceSub, Nat.reduceMul, implies_true, Nat.reduceEqDiff, reduceIte, Nat.reduceAdd, Nat.reduceBEq, reduceCtorEq, ap24_24, bs24_0, bs24_1, ix24, ld3, ln24, wl, lv1, lv2, kj, ko]
    -- end1
    exact q2.ansI 0 rfl (by simp [backL])

set_option maxHeartbeats 4000000 in
theorem DrawFlip_ok {H : AH} {v : Value} (hv : BRv H v) : CallsA Try.prog 8 #[v] H fun r H' => ∃ (psa qsa : Value) (sa da : List Int), r = .agg #[psa, qsa] ∧ LD none H H' [.row psa sa, .row qsa da] ∧ sa.length ≤ 1048576 ∧ da.length ≤ 1048576 := by
  obtain ⟨a0, n0, c0, rfl, hn0, hb⟩ := hv
  have hv : BRv H (.slice a0 n0 c0) := ⟨a0, n0, c0, rfl, hn0, hb⟩
  have q := (LX.nil (H := H))
  refine w8 ?_
  unfold k8
  simp -implicitDefEqProofs only [kz, kk0, kk1, kk2, kk3, ↓two_true, ↓two_false, mkv, aggAt, Nat.reduceLeDiff, Nat.reduceSub, Nat.reduceMul, implies_true, Nat.reduceEqDiff, reduceIte, Nat.reduceAdd, Nat.reduceBEq, reduceCtorEq, al26, ld26, st26]
  refine st_box q fun H1 q1 => ?_
  simp -implicitDefEqProofs only [kz, kk0, kk1, kk2, kk3, ↓two_true, ↓two_false, mkv, aggAt, Nat.reduceLeDiff, Nat.reduceSub, Nat.reduceMul, implies_true, Nat.reduceEqDiff, reduceIte, Nat.reduceAdd, Nat.reduceBEq, reduceCtorEq, al26, ld26, st26, q1.rd 0 rfl]
  refine (l1New_ok (BRv.ext hv q1.ext)).mono ?_
  rintro _ H2 ⟨cb, rfl, hc1, hcb1, he1⟩
  have q2 := q1.cursor he1 hc1 hcb1
  have hcb0 := Nat.le_trans q1.len hcb1
  simp -implicitDefEqProofs only [kz, kk0, kk1, kk2, kk3, ↓two_true, ↓two_false, mkv, aggAt, Nat.reduceLeDiff, Nat.reduceSub, Nat.reduceMul, implies_true, Nat.reduceEqDiff, reduceIte, Nat.reduceAdd, Nat.reduceBEq, reduceCtorEq, al26, ld26, st26, q2.rd 0 rfl]
  refine (l3Draw_ok q2.cur).mono ?_
  rintro _ H3 ⟨⟨p1, p2, xs1, xd1, rfl, d1, m1, m2⟩, hf1⟩
  have q3 := q2.da d1 hf1
  obtain ⟨a1, c1, rfl⟩ := (q3.own 0 rfl).isSlice
  obtain ⟨a2, c2, rfl⟩ := (q3.own 1 rfl).isSlice
  simp -implicitDefEqProofs only [kz, kk0, kk1, kk2, kk3, ↓two_true, ↓two_false, mkv, aggAt, Nat.reduceLeDiff, Nat.reduceSub, Nat.reduceMul, implies_true, Nat.reduceEqDiff, reduceIte, Nat.reduceAdd, Nat.reduceBEq, reduceCtorEq, al26, ld26, st26, q3.rd 2 rfl]
  refine st_set q3 2 rfl fun H4 q4 => ?_
  simp only [List.set_cons_zero, List.set_cons_succ] at q4
  simp -implicitDefEqProofs only [kz, kk0, kk1, kk2, kk3, ↓two_true, ↓two_false, mkv, aggAt, Nat.reduceLeDiff, Nat.reduceSub, Nat.reduceMul, implies_true, Nat.reduceEqDiff, reduceIte, Nat.reduceAdd, Nat.reduceBEq, reduceCtorEq, al26, ld26, st26, q4.rd 2 rfl]
  -- end1
  exact ⟨_, _, xs1, xd1, rfl, (q4.out hcb0).give [0, 1] (by decide) _ rfl, (by first | omega | (simp; omega) | simp), (by first | omega | (simp; omega) | simp)⟩

def revG (l : List Int) (i : Nat) : List Int := (List.range l.length).map fun k => if k < i ∨ l.length ≤ k + i then l.getD (l.length - 1 - k) 0 else l.getD k 0
theorem revG_len {l : List Int} {i : Nat} : (revG l i).length = l.length := by simp [revG]
theorem revG_at {l : List Int} {i k : Nat} (h : k < l.length) : (revG l i)[k]'(by rw [revG_len]; exact h) = if k < i ∨ l.length ≤ k + i then l.getD (l.length - 1 - k) 0 else l.getD k 0 := by simp [revG]
theorem revG_zero {l : List Int} : revG l 0 = l := by
  refine List.ext_getElem revG_len fun k h1 h2 => ?_
  rw [revG_at h2, if_neg (by omega), getD_lt h2]
set_option maxHeartbeats 4000000 in
theorem revG_step {l : List Int} {i j : Nat} (hj : i + j + 1 = l.length) (h : i < j) : ((revG l i).set i (l.getD j 0)).set j (l.getD i 0) = revG l (i + 1) := by
  refine List.ext_getElem (by simp [revG]) fun k h1 h2 => ?_
  rw [revG_len] at h2
  rw [List.getElem_set, List.getElem_set, revG_at h2]
  by_cases e1 : j = k
  · subst e1; rw [if_pos rfl, revG_at h2, if_pos (by omega), show l.length - 1 - j = i by omega]
  · rw [if_neg e1]
    by_cases e2 : i = k
    · subst e2; rw [if_pos rfl, revG_at h2, if_pos (by omega), show l.length - 1 - i = j by omega]
    · rw [if_neg e2, revG_at h2]
      by_cases e3 : k < i ∨ l.length ≤ k + i
      · rw [if_pos e3, if_pos (by omega)]
      · rw [if_neg e3, if_neg (by omega)]
theorem revG_full {l : List Int} {i j : Nat} (hj : i + j + 1 = l.length) (h : ¬ i < j) : revG l i = l.reverse := by
  refine List.ext_getElem (by simp [revG]) fun k h1 h2 => ?_
  rw [revG_len] at h1
  rw [revG_at h1, List.getElem_reverse]
  split
  · rw [getD_lt (by omega)]
  · have : k = l.length - 1 - k := by omega
    rw [getD_lt h1]; congr 1

theorem LX.reverse_pos {c0 : Option Nat} {H0 H : AH} {L0 : List Ix} {v : Value} {l : List Int} (q : LX c0 H0 H (.own (.row v l) :: L0)) (hl : l.length ≤ 1048576) (hp : 0 < l.length) : CallsA Try.prog 30 #[v] H fun r H' => LX c0 H0 H' (.own (.row v l.reverse) :: L0) := by
  obtain ⟨xa, xc, rfl⟩ := (q.own 0 rfl).isSlice
  have wl : IntKind.i64.wrap ((l.length : Int) - 1) = ((l.length - 1 : Nat) : Int) := by rw [IntWalk.i64_in _ (by omega)]; omega
  refine w30 ?_
  unfold k30
  simp -implicitDefEqProofs only [kz, kk0, kk1, kk2, kk3, ↓two_true, ↓two_false, mkv, aggAt, Nat.reduceLeDiff, Nat.reduceSub, Nat.reduceMul, implies_true, Nat.reduceEqDiff, reduceIte, Nat.reduceAdd, Nat.reduceBEq, reduceCtorEq, ix24, ld3, ln24, st3, wl]
  refine rW_loopQ (σ := Nat × Nat) q [0] (fun x tm => tm 2 = .int .i64 x.1 ∧ tm 3 = .int .i64 x.2 ∧ x.1 + x.2 + 1 = l.length) (fun x L => L.set 0 (.own (.row (.slice xa l.length xc) (revG l x.1)))) (fun x => x.2) (0, l.length - 1) ⟨rfl, by first | rfl | assumption, by simp only; omega⟩ (by simp only [revG_zero]; rfl) ?_
  rintro ⟨i, j⟩ tm1 H1 ⟨lv1, -⟩ ⟨ki, kj, hj⟩ q1
  simp -implicitDefEqProofs only [kz, kk0, kk1, kk2, kk3, ↓two_true, ↓two_false, mkv, aggAt, Nat.reduceLeDiff, Nat.reduceSub, Nat.reduceMul, implies_true, Nat.reduceEqDiff, reduceIte, Nat.reduceAdd, Nat.reduceBEq, reduceCtorEq, ix24, ld3, ln24, st3] at lv1
  simp only [List.set_cons_zero, List.set_cons_succ] at q1
  simp only at ki kj hj
  simp -implicitDefEqProofs only [kz, kk0, kk1, kk2, kk3, ↓two_true, ↓two_false, mkv, aggAt, Nat.reduceLeDiff, Nat.reduceSub, Nat.reduceMul, implies_true, Nat.reduceEqDiff, reduceIte, Nat.reduceAdd, Nat.reduceBEq, reduceCtorEq, ix24, ld3, ln24, st3, wl, lv1, ki, kj]
  refine two_intro (fun u1 => ?_) (fun u1 => ?_)
  ·
    have hij : i < j := by have h5 := of_decide_eq_true u1; omega
    have hil : i < (revG l i).length := by rw [revG_len]; omega
    have hjl : j < (revG l i).length := by rw [revG_len]; omega
    have hil2 : i < l.length := by omega
    have hjl2 : j < l.length := by omega
    have ri : (revG l i)[i] = l.getD i 0 := by rw [revG_at hil2, if_neg (by omega)]
    have rj : (revG l i)[j] = l.getD j 0 := by rw [revG_at hjl2, if_neg (by omega)]
    have wi : IntKind.i64.wrap ((i : Int) + 1) = ((i + 1 : Nat) : Int) := IntWalk.i64_in ((i : Int) + 1) (by omega)
    have wj : IntKind.i64.wrap ((j : Int) - 1) = ((j - 1 : Nat) : Int) := by rw [IntWalk.i64_in _ (by omega)]; omega
    obtain ⟨b1, o1, cs1, ei1, fw1, fr1, fl1, fc1, qw1⟩ := q1.wrI 0 rfl (k := j) hjl
    obtain ⟨b2, o2, cs2, ei2, fw2, fr2, fl2, fc2, qw2⟩ := q1.wrI 0 rfl (k := i) hil
    try simp -implicitDefEqProofs only [kz, kk0, kk1, kk2, kk3, ↓two_true, ↓two_false, mkv, aggAt, Nat.reduceLeDiff, Nat.reduceSub, Nat.reduceMul, implies_true, Nat.reduceEqDiff, reduceIte, Nat.reduceAdd, Nat.reduceBEq, reduceCtorEq, ix24, ld3, ln24, st3, wl, ri, rj, wi, wj, ei1, fw1, fr1, fl1, fc1, ei2, fw2, fr2, fl2, fc2, lv1, ki, kj]
    refine st_q (qw2 _) fun H2 q2 => ?_
    simp only [List.set_cons_zero, List.set_cons_succ] at q2
    obtain ⟨b3, o3, cs3, ei3, fw3, fr3, fl3, fc3, qw3⟩ := q2.wrI 0 rfl (k := j) (by rw [List.length_set]; exact hjl)
    have hh1 := ei1.symm.trans ei3
    simp only [Option.some.injEq, Value.pointer.injEq, Addr.mk.injEq, Nat.add_right_cancel_iff] at hh1
    obtain ⟨rfl, rfl, -⟩ := hh1
    simp -implicitDefEqProofs only [kz, kk0, kk1, kk2, kk3, ↓two_true, ↓two_false, mkv, aggAt, Nat.reduceLeDiff, Nat.reduceSub, Nat.reduceMul, implies_true, Nat.reduceEqDiff, reduceIte, Nat.reduceAdd, Nat.reduceBEq, reduceCtorEq, ix24, ld3, ln24, st3, wl, ri, rj, wi, wj, ei1, fw3, fr3, fl3, fc3, lv1, ki, kj]
    refine st_q (qw3 _) fun H3 q3 => ?_
    simp only [List.set_cons_zero, List.set_cons_succ] at q3
    simp -implicitDefEqProofs only [kz, kk0, kk1, kk2, kk3, ↓two_true, ↓two_false, mkv, aggAt, Nat.reduceLeDiff, Nat.reduceSub, Nat.reduceMul, implies_true, Nat.reduceEqDiff, reduceIte, Nat.reduceAdd, Nat.reduceBEq, reduceCtorEq, ix24, ld3, ln24, st3, wl, ri, rj, wi, wj, lv1, ki, kj]
    try simp -implicitDefEqProofs only [kz, kk0, kk1, kk2, kk3, ↓two_true, ↓two_false, mkv, aggAt, Nat.reduceLeDiff, Nat.reduceSub, Nat.reduceMul, implies_true, Nat.reduceEqDiff, reduceIte, Nat.reduceAdd, Nat.reduceBEq, reduceCtorEq, ix24, ld3, ln24, st3, wl, ri, rj, wi, wj, lv1, ki, kj]
    -- back loop1
    refine ⟨(i + 1, j - 1), (by simp only; omega), ⟨rfl, trivial⟩, ⟨by first | rfl | simp, by first | rfl | simp, by simp only; omega⟩, ?_⟩
    try simp only [List.set_cons_zero, List.set_cons_succ]
    rw [← revG_step hj hij]
    exact q3
  ·
    have hij : ¬ i < j := by have h5 := of_decide_eq_false u1; omega
    try simp -implicitDefEqProofs only [kz, kk0, kk1, kk2, kk3, ↓two_true, ↓two_false, mkv, aggAt, Nat.reduceLeDiff, Nat.reduceSub, Nat.reduceMul, implies_true, Nat.reduceEqDiff, reduceIte, Nat.reduceAdd, Nat.reduceBEq, reduceCtorEq, ix24, ld3, ln24, st3, wl, lv1, ki, kj]
    -- end1
    rw [revG_full hj hij] at q1
    exact q1

theorem LX.sel {c : Option Nat} {H0 H : AH} {L : List Ix} (h : LX c H0 H L) (is : List Nat) (hn : is.Nodup) (hb : (is.all fun i => decide (i < L.length)) = true) : LX c H0 H (is.filterMap fun i => L[i]?) := by
  refine h.pick is _ ?_ hn
  clear hn
  induction is with
  | nil => rfl
  | cons i is ih =>
    simp only [List.all_cons, Bool.and_eq_true, decide_eq_true_eq] at hb
    rw [List.map_cons, ih hb.2, List.filterMap_cons, List.getElem?_eq_getElem hb.1]
    rfl
theorem prodI_rev : ∀ {l : List Int}, prodI l.reverse = prodI l
  | [] => rfl
  | x :: t => by
    rw [List.reverse_cons, prodI_append, prodI_rev (l := t), show prodI [x] = x by simp [prodI], Int.mul_comm, ← prodI_cons]
theorem place_lt {sh ix : List Int} (h : ∀ k, k < sh.length → 0 ≤ ix.getD k 0 ∧ ix.getD k 0 < sh.getD k 0) : ∀ k, k ≤ sh.length → 0 ≤ placeG sh ix k ∧ placeG sh ix k < prodI (sh.take k)
  | 0, _ => by simp [placeG, prodI]
  | k + 1, hk => by
    obtain ⟨h1, h2⟩ := place_lt h k (by omega)
    obtain ⟨h3, h4⟩ := h k (by omega)
    have hk2 : k < sh.length := by omega
    have e : sh.getD k 0 = sh[k] := getD_lt hk2
    rw [List.take_succ_eq_append_getElem hk2, prodI_append]
    have ep : prodI [sh[k]] = sh.getD k 0 := by rw [e]; simp [prodI]
    rw [ep]
    have e2 : placeG sh ix (k + 1) = placeG sh ix k * sh.getD k 0 + ix.getD k 0 := rfl
    rw [e2]
    generalize sh.getD k 0 = s at *
    generalize placeG sh ix k = p at *
    generalize prodI (sh.take k) = P at *
    have m1 : 0 ≤ p * s := Int.mul_nonneg h1 (by omega)
    have m2 : (p + 1) * s ≤ P * s := Int.mul_le_mul_of_nonneg_right (by omega) (by omega)
    rw [Int.add_mul, Int.one_mul] at m2
    show 0 ≤ p * s + ix.getD k 0 ∧ p * s + ix.getD k 0 < P * s
    omega
theorem arrOk_rev {sa da : List Int} (h : arrOk sa da = true) : arrOk sa.reverse da = true ∧ sizeI sa = da.length ∧ sizeI sa.reverse = da.length ∧ (∀ x ∈ sa, 0 ≤ x) ∧ prodI sa = da.length := by
  have h1 := arrOk_size h
  obtain ⟨e1, e2, e3⟩ := sizeI_ok (l := sa) (by omega)
  have hp : prodI sa.reverse = da.length := by rw [prodI_rev]; omega
  have hs : sizeI sa.reverse = da.length := by
    rw [sizeI_of (by simpa using e1) (by rw [List.all_reverse]; exact e2) (by rw [hp]; omega), hp]
  refine ⟨?_, h1.1, hs, fun x hx => (inB_true.1 (List.all_eq_true.1 e2 x hx)).1, by omega⟩
  unfold arrOk at h ⊢
  simp only [Bool.and_eq_true, beq_iff_eq] at h ⊢
  exact ⟨hs.symm, h.2⟩
theorem idx_bound {sa da : List Int} (h : arrOk sa da = true) {i : Nat} (hi : i < da.length) (k : Nat) (hk : k < sa.length) : 0 ≤ (idxG sa i 0).getD k 0 ∧ (idxG sa i 0).getD k 0 < sa.getD k 0 := by
  obtain ⟨-, -, -, hpos, hp⟩ := arrOk_rev h
  have e : (idxG sa i 0).getD k 0 = (idxV sa i k : Int) := by
    rw [getD_lt (by rw [idxG_len]; exact hk)]
    simp [idxG]
  have es : sa.getD k 0 = sa[k] := getD_lt hk
  have h0 := hpos _ (List.getElem_mem hk)
  have hne : sa[k] ≠ 0 := fun e0 => by
    have : prodI sa = 0 := prod_zero (by rw [← e0]; exact List.getElem_mem hk)
    omega
  rw [e]
  refine ⟨by omega, ?_⟩
  unfold idxV
  have : idxQ sa i (k + 1) % (sa.getD k 0).toNat < (sa.getD k 0).toNat := Nat.mod_lt _ (by omega)
  omega
theorem getD_rev {l : List Int} {k : Nat} (h : k < l.length) : l.reverse.getD k 0 = l.getD (l.length - 1 - k) 0 := by
  rw [getD_lt (by simpa using h), getD_lt (by omega), List.getElem_reverse]
theorem flip_place {sa da : List Int} (v1 : arrOk sa da = true) {i : Nat} (hi : i < da.length) : (idxG sa i 0).reverse.length = sa.reverse.length ∧ 0 ≤ sizeI sa.reverse ∧
    (∀ k, k < sa.reverse.length → 0 ≤ (idxG sa i 0).reverse.getD k 0 ∧ (idxG sa i 0).reverse.getD k 0 < sa.reverse.getD k 0) ∧ ∃ pl : Nat, placeG sa.reverse (idxG sa i 0).reverse sa.reverse.length = pl ∧ pl < da.length := by
  obtain ⟨-, -, hs, -, hp⟩ := arrOk_rev v1
  have hb : ∀ k, k < sa.reverse.length → 0 ≤ (idxG sa i 0).reverse.getD k 0 ∧ (idxG sa i 0).reverse.getD k 0 < sa.reverse.getD k 0 := fun k hk => by
    rw [List.length_reverse] at hk
    rw [getD_rev (by rw [idxG_len]; exact hk), getD_rev hk, idxG_len]
    exact idx_bound v1 hi _ (by omega)
  obtain ⟨p1, p2⟩ := place_lt hb sa.reverse.length (Nat.le_refl _)
  rw [List.take_length, prodI_rev, hp] at p2
  exact ⟨by simp [idxG_len], by omega, hb, (placeG sa.reverse (idxG sa i 0).reverse sa.reverse.length).toNat, by omega, by omega⟩

theorem LX.reverse_any {c0 : Option Nat} {H0 H : AH} {L0 : List Ix} {v : Value} {l : List Int} (q : LX c0 H0 H (.own (.row v l) :: L0)) (hl : l.length ≤ 1048576) : CallsA Try.prog 30 #[v] H fun r H' => LX c0 H0 H' (.own (.row v l.reverse) :: L0) := by
  rcases Nat.eq_zero_or_pos l.length with h | h
  · obtain rfl : l = [] := List.eq_nil_of_length_eq_zero h
    obtain ⟨xa, xc, rfl⟩ := (q.own 0 rfl).isSlice
    refine w30 ?_
    unfold k30
    have w1 : IntKind.i64.wrap ((0 : Int) - 1) = -1 := by decide
    simp -implicitDefEqProofs only [kz, kk0, kk1, kk2, kk3, ↓two_true, ↓two_false, oS_some, oM_some, mkv, aggAt, Nat.reduceLeDiff, Nat.reduceSub, Nat.reduceMul, implies_true, Nat.reduceEqDiff, reduceIte, Nat.reduceAdd, Nat.reduceBEq, reduceCtorEq, ix24, ld3, ln24, st3, cast0, w1]
    refine rW_loop (σ := Unit) (fun _ tm H' => tm 2 = .int .i64 0 ∧ tm 3 = .int .i64 (-1) ∧ H' = H) (fun _ => 0) () ?_ ?_
    · simp -implicitDefEqProofs [kk0, kk1, kk2, kk3, rW_block, ↓two_true, ↓two_false, rW_cond, rO_guard, oS_some, oM_some, mkv, aggAt, Nat.reduceLeDiff, Nat.reduceSub, Nat.reduceMul, cond_true, cond_false, Option.bind_some, List.length_append, List.length_cons, List.length_nil, List.append_assoc, List.cons_append, List.nil_append, List.set_cons_zero, List.set_cons_succ, List.size_toArray, List.all_cons, List.all_nil, List.drop_zero, List.drop_succ_cons, List.take_succ_cons, List.take_zero, List.mem_cons, Prod.mk.injEq, List.not_mem_nil, implies_true, List.getElem?_toArray, List.getElem?_cons_zero, List.getElem?_cons_succ, List.getElem?_nil, Option.getD_some, Option.getD_none, Nat.reduceEqDiff, reduceIte, Nat.reduceAdd, List.map_toArray, List.map_cons, List.map_nil, Bool.false_eq_true, Nat.reduceBEq, Option.map_some, Option.map_none, reduceCtorEq, ix24, ld3, ln24, st3]
    · rintro _ tm H1 ⟨h2, h3, rfl⟩
      have d1 : decide ((0 : Int) < -1) = false := by decide
      simp -implicitDefEqProofs only [kz, kk0, kk1, kk2, kk3, ↓two_true, ↓two_false, oS_some, oM_some, mkv, aggAt, Nat.reduceLeDiff, Nat.reduceSub, Nat.reduceMul, implies_true, Nat.reduceEqDiff, reduceIte, Nat.reduceAdd, Nat.reduceBEq, reduceCtorEq, ix24, ld3, ln24, st3, h2, h3, d1]
      exact q
  · exact q.reverse_pos hl h

def flipR (sa da dt : List Int) : (List Int × List Int) × Int := if arrOk sa da = true then ((sa.reverse, dt), 0) else (([], []), 1)

set_option maxHeartbeats 4000000 in
theorem implFlip_ok {H : AH} {pa qa : Value} {sa da : List Int} (a : AR H pa qa sa da) : CallsA Try.prog 9 #[.agg #[pa, qa]] H fun r H' => ∃ dt, (arrOk sa da = true → dt.length = da.length) ∧ Ans1 H H' r (flipR sa da dt) := by
  have al := a.l1
  have bl := a.l2
  obtain ⟨za, zc, zb, zd, rfl, rfl⟩ := a.o1
  have q := (LX.nil (H := H))
  refine w9 ?_
  unfold k9
  simp -implicitDefEqProofs only [kz, kk0, kk1, kk2, kk3, ↓two_true, ↓two_false, mkv, aggAt, Nat.reduceLeDiff, Nat.reduceSub, Nat.reduceMul, implies_true, Nat.reduceEqDiff, reduceIte, Nat.reduceAdd, Nat.reduceBEq, reduceCtorEq, al26, bd26, fa26_0, fa26_1, ix24, ld3, ld24, ld26, ln24, st3, st26]
  refine st_box q fun H1 q1 => ?_
  simp -implicitDefEqProofs only [kz, kk0, kk1, kk2, kk3, ↓two_true, ↓two_false, mkv, aggAt, Nat.reduceLeDiff, Nat.reduceSub, Nat.reduceMul, implies_true, Nat.reduceEqDiff, reduceIte, Nat.reduceAdd, Nat.reduceBEq, reduceCtorEq, al26, bd26, fa26_0, fa26_1, ix24, ld3, ld24, ld26, ln24, st3, st26, q1.rd 0 rfl]
  refine st_box q1 fun H2 q2 => ?_
  simp -implicitDefEqProofs only [kz, kk0, kk1, kk2, kk3, ↓two_true, ↓two_false, mkv, aggAt, Nat.reduceLeDiff, Nat.reduceSub, Nat.reduceMul, implies_true, Nat.reduceEqDiff, reduceIte, Nat.reduceAdd, Nat.reduceBEq, reduceCtorEq, al26, bd26, fa26_0, fa26_1, ix24, ld3, ld24, ld26, ln24, st3, st26, q2.rd 0 rfl, q2.rd 1 rfl]
  refine (implOk_ar (a.ext q2.ext)).mono ?_
  rintro _ H3 ⟨rfl, he1⟩
  have q3 := q2.extd he1
  simp -implicitDefEqProofs only [kz, kk0, kk1, kk2, kk3, ↓two_true, ↓two_false, mkv, aggAt, Nat.reduceLeDiff, Nat.reduceSub, Nat.reduceMul, implies_true, Nat.reduceEqDiff, reduceIte, Nat.reduceAdd, Nat.reduceBEq, reduceCtorEq, al26, bd26, fa26_0, fa26_1, ix24, ld3, ld24, ld26, ln24, st3, st26, q3.rd 0 rfl, q3.rd 1 rfl]
  refine two_intro (fun u1 => ?_) (fun u1 => ?_)
  ·
    have w1 : arrOk sa da = false := by simpa using u1
    try simp -implicitDefEqProofs only [kz, kk0, kk1, kk2, kk3, ↓two_true, ↓two_false, mkv, aggAt, Nat.reduceLeDiff, Nat.reduceSub, Nat.reduceMul, implies_true, Nat.reduceEqDiff, reduceIte, Nat.reduceAdd, Nat.reduceBEq, reduceCtorEq, al26, bd26, fa26_0, fa26_1, ix24, ld3, ld24, ld26, ln24, st3, st26, q3.rd 0 rfl, q3.rd 1 rfl]
    refine st_set q3 0 rfl fun H4 q4 => ?_
    simp only [List.set_cons_zero, List.set_cons_succ] at q4
    simp -implicitDefEqProofs only [kz, kk0, kk1, kk2, kk3, ↓two_true, ↓two_false, mkv, aggAt, Nat.reduceLeDiff, Nat.reduceSub, Nat.reduceMul, implies_true, Nat.reduceEqDiff, reduceIte, Nat.reduceAdd, Nat.reduceBEq, reduceCtorEq, al26, bd26, fa26_0, fa26_1, ix24, ld3, ld24, ld26, ln24, st3, st26, q4.rd 0 rfl, q4.rd 1 rfl]
    -- end1
    have q5 := q4.nil0
    have q6 := q5.nil0
    exact ⟨[], fun h => absurd h (by rw [w1]; decide), by unfold flipR; rw [w1]; exact q6.ans 1 0 (by decide) rfl rfl rfl⟩
  ·
    have v1 : arrOk sa da = true := by simpa using u1
    obtain ⟨-, hsz, -⟩ := arrOk_rev v1
    try simp -implicitDefEqProofs only [kz, kk0, kk1, kk2, kk3, ↓two_true, ↓two_false, mkv, aggAt, Nat.reduceLeDiff, Nat.reduceSub, Nat.reduceMul, implies_true, Nat.reduceEqDiff, reduceIte, Nat.reduceAdd, Nat.reduceBEq, reduceCtorEq, al26, bd26, fa26_0, fa26_1, ix24, ld3, ld24, ld26, ln24, st3, st26, q3.rd 0 rfl, q3.rd 1 rfl]
    refine (copyA_ok (a.ext q3.ext)).mono ?_
    rintro _ H5 ⟨p1, p2, rfl, g1⟩
    have q7 := q3.join g1
    simp only [List.map_cons, List.map_nil, List.cons_append, List.nil_append] at q7
    obtain ⟨a1, c1, rfl⟩ := (q7.own 0 rfl).isSlice
    obtain ⟨a2, c2, rfl⟩ := (q7.own 1 rfl).isSlice
    simp -implicitDefEqProofs only [kz, kk0, kk1, kk2, kk3, ↓two_true, ↓two_false, mkv, aggAt, Nat.reduceLeDiff, Nat.reduceSub, Nat.reduceMul, implies_true, Nat.reduceEqDiff, reduceIte, Nat.reduceAdd, Nat.reduceBEq, reduceCtorEq, al26, bd26, fa26_0, fa26_1, ix24, ld3, ld24, ld26, ln24, st3, st26, q7.rd 2 rfl, q7.rd 3 rfl]
    refine st_box q7 fun H6 q8 => ?_
    simp -implicitDefEqProofs only [kz, kk0, kk1, kk2, kk3, ↓two_true, ↓two_false, mkv, aggAt, Nat.reduceLeDiff, Nat.reduceSub, Nat.reduceMul, implies_true, Nat.reduceEqDiff, reduceIte, Nat.reduceAdd, Nat.reduceBEq, reduceCtorEq, al26, bd26, fa26_0, fa26_1, ix24, ld3, ld24, ld26, ln24, st3, st26, q8.rd 0 rfl, q8.rd 3 rfl, q8.rd 4 rfl]
    refine st_set q8 0 rfl fun H7 q9 => ?_
    simp only [List.set_cons_zero, List.set_cons_succ] at q9
    simp -implicitDefEqProofs only [kz, kk0, kk1, kk2, kk3, ↓two_true, ↓two_false, mkv, aggAt, Nat.reduceLeDiff, Nat.reduceSub, Nat.reduceMul, implies_true, Nat.reduceEqDiff, reduceIte, Nat.reduceAdd, Nat.reduceBEq, reduceCtorEq, al26, bd26, fa26_0, fa26_1, ix24, ld3, ld24, ld26, ln24, st3, st26, q9.rd 0 rfl, q9.rd 3 rfl, q9.rd 4 rfl]
    have q10 := q9.sel [1, 0, 2, 3, 4] (by decide) rfl
    simp only [List.filterMap_cons, List.filterMap_nil, List.getElem?_cons_zero, List.getElem?_cons_succ] at q10
    refine (LX.reverse_any (l := sa) q10 (by first | omega | (rw [idxG_len]; omega))).mono ?_
    rintro _ H8 q11
    simp -implicitDefEqProofs only [kz, kk0, kk1, kk2, kk3, ↓two_true, ↓two_false, mkv, aggAt, Nat.reduceLeDiff, Nat.reduceSub, Nat.reduceMul, implies_true, Nat.reduceEqDiff, reduceIte, Nat.reduceAdd, Nat.reduceBEq, reduceCtorEq, al26, bd26, fa26_0, fa26_1, ix24, ld3, ld24, ld26, ln24, st3, st26, q11.rd 1 rfl, q11.rd 3 rfl, q11.rd 4 rfl]
    refine rW_loopQ (σ := Nat × List Int) q11 [1, 2, 3, 4, 18, 19] (fun x tm => tm 20 = .int .i64 x.1 ∧ x.1 ≤ da.length ∧ x.2.length = da.length) (fun x L => L.set 2 (.own (.row (.slice a2 da.length c2) x.2))) (fun x => da.length - x.1) (0, da) ⟨rfl, Nat.zero_le _, rfl⟩ rfl ?_
    rintro ⟨i, dv⟩ tm1 H9 ⟨lv1, lv2, lv3, lv4, lv5, lv6, -⟩ ⟨ki, hi, hdl⟩ q12
    simp -implicitDefEqProofs only [kz, kk0, kk1, kk2, kk3, ↓two_true, ↓two_false, mkv, aggAt, Nat.reduceLeDiff, Nat.reduceSub, Nat.reduceMul, implies_true, Nat.reduceEqDiff, reduceIte, Nat.reduceAdd, Nat.reduceBEq, reduceCtorEq, al26, bd26, fa26_0, fa26_1, ix24, ld3, ld24, ld26, ln24, st3, st26] at lv1 lv2 lv3 lv4 lv5 lv6
    simp only [List.set_cons_zero, List.set_cons_succ] at q12
    simp only at ki hi hdl
    simp -implicitDefEqProofs only [kz, kk0, kk1, kk2, kk3, ↓two_true, ↓two_false, mkv, aggAt, Nat.reduceLeDiff, Nat.reduceSub, Nat.reduceMul, implies_true, Nat.reduceEqDiff, reduceIte, Nat.reduceAdd, Nat.reduceBEq, reduceCtorEq, al26, bd26, fa26_0, fa26_1, ix24, ld3, ld24, ld26, ln24, st3, st26, lv1, lv2, lv3, lv4, lv5, lv6, ki, q12.rd 1 rfl, q12.rd 3 rfl, q12.rd 4 rfl]
    refine two_intro (fun u2 => ?_) (fun u2 => ?_)
    ·
      have hi2 : i < da.length := by have h5 := of_decide_eq_true u2; omega
      obtain ⟨f1, f2, f3, pl, f4, f5⟩ := flip_place v1 hi2
      have wi : IntKind.i64.wrap ((i : Int) + 1) = ((i + 1 : Nat) : Int) := IntWalk.i64_in ((i : Int) + 1) (by omega)
      obtain ⟨b1, o1, cs1, ei1, fr1, fc1⟩ := ixI (a.od.ext q12.ext) (i := i) hi2
      try simp -implicitDefEqProofs only [kz, kk0, kk1, kk2, kk3, ↓two_true, ↓two_false, mkv, aggAt, Nat.reduceLeDiff, Nat.reduceSub, Nat.reduceMul, implies_true, Nat.reduceEqDiff, reduceIte, Nat.reduceAdd, Nat.reduceBEq, reduceCtorEq, al26, bd26, fa26_0, fa26_1, ix24, ld3, ld24, ld26, ln24, st3, st26, wi, ei1, fr1, fc1, lv1, lv2, lv3, lv4, lv5, lv6, ki, q12.rd 1 rfl, q12.rd 3 rfl, q12.rd 4 rfl]
      have hk1 := implIndexOf_ok (p := i) (a.os.ext q12.ext) (by omega) (by rw [hsz]; omega)
      refine hk1.mono ?_
      rintro p3 H10 g2
      have q13 := q12.join g2
      simp only [List.map_cons, List.map_nil, List.cons_append, List.nil_append] at q13
      obtain ⟨a3, c3, rfl⟩ := (q13.own 0 rfl).isSlice
      simp -implicitDefEqProofs only [kz, kk0, kk1, kk2, kk3, ↓two_true, ↓two_false, mkv, aggAt, Nat.reduceLeDiff, Nat.reduceSub, Nat.reduceMul, implies_true, Nat.reduceEqDiff, reduceIte, Nat.reduceAdd, Nat.reduceBEq, reduceCtorEq, al26, bd26, fa26_0, fa26_1, ix24, ld3, ld24, ld26, ln24, st3, st26, wi, lv1, lv2, lv3, lv4, lv5, lv6, ki, q13.rd 2 rfl, q13.rd 4 rfl, q13.rd 5 rfl]
      have q14 := q13.sel [0, 1, 2, 3, 4, 5] (by decide) rfl
      simp only [List.filterMap_cons, List.filterMap_nil, List.getElem?_cons_zero, List.getElem?_cons_succ] at q14
      refine (LX.reverse_any (l := (idxG sa i 0)) q14 (by first | omega | (rw [idxG_len]; omega))).mono ?_
      rintro _ H11 q15
      simp -implicitDefEqProofs only [kz, kk0, kk1, kk2, kk3, ↓two_true, ↓two_false, mkv, aggAt, Nat.reduceLeDiff, Nat.reduceSub, Nat.reduceMul, implies_true, Nat.reduceEqDiff, reduceIte, Nat.reduceAdd, Nat.reduceBEq, reduceCtorEq, al26, bd26, fa26_0, fa26_1, ix24, ld3, ld24, ld26, ln24, st3, st26, wi, lv1, lv2, lv3, lv4, lv5, lv6, ki, q15.rd 2 rfl, q15.rd 4 rfl, q15.rd 5 rfl]
      have hk2 := implPlaceOf_ok (q15.int 1 rfl) (q15.int 0 rfl) (by simp; omega) f1 f2 f3
      rw [f4] at hk2
      refine hk2.mono ?_
      rintro _ H12 ⟨rfl, he2⟩
      have q16 := q15.extd he2
      obtain ⟨b2, o2, cs2, ei2, fw1, fr2, fl1, fc2, qw1⟩ := q16.wrI 3 rfl (k := pl) (by rw [hdl]; exact f5)
      simp -implicitDefEqProofs only [kz, kk0, kk1, kk2, kk3, ↓two_true, ↓two_false, mkv, aggAt, Nat.reduceLeDiff, Nat.reduceSub, Nat.reduceMul, implies_true, Nat.reduceEqDiff, reduceIte, Nat.reduceAdd, Nat.reduceBEq, reduceCtorEq, al26, bd26, fa26_0, fa26_1, ix24, ld3, ld24, ld26, ln24, st3, st26, wi, ei2, fw1, fr2, fl1, fc2, lv1, lv2, lv3, lv4, lv5, lv6, ki, q16.rd 2 rfl, q16.rd 4 rfl, q16.rd 5 rfl, q15.rd 2 rfl, q15.rd 4 rfl, q15.rd 5 rfl]
      refine st_q (qw1 _) fun H13 q17 => ?_
      simp only [List.set_cons_zero, List.set_cons_succ] at q17
      simp -implicitDefEqProofs only [kz, kk0, kk1, kk2, kk3, ↓two_true, ↓two_false, mkv, aggAt, Nat.reduceLeDiff, Nat.reduceSub, Nat.reduceMul, implies_true, Nat.reduceEqDiff, reduceIte, Nat.reduceAdd, Nat.reduceBEq, reduceCtorEq, al26, bd26, fa26_0, fa26_1, ix24, ld3, ld24, ld26, ln24, st3, st26, wi, lv1, lv2, lv3, lv4, lv5, lv6, ki, q17.rd 2 rfl, q17.rd 4 rfl, q17.rd 5 rfl, q15.rd 2 rfl, q15.rd 4 rfl, q15.rd 5 rfl, q16.rd 2 rfl, q16.rd 4 rfl, q16.rd 5 rfl]
      try simp -implicitDefEqProofs only [kz, kk0, kk1, kk2, kk3, ↓two_true, ↓two_false, mkv, aggAt, Nat.reduceLeDiff, Nat.reduceSub, Nat.reduceMul, implies_true, Nat.reduceEqDiff, reduceIte, Nat.reduceAdd, Nat.reduceBEq, reduceCtorEq, al26, bd26, fa26_0, fa26_1, ix24, ld3, ld24, ld26, ln24, st3, st26, wi, lv1, lv2, lv3, lv4, lv5, lv6, ki, q17.rd 2 rfl, q17.rd 4 rfl, q17.rd 5 rfl]
      -- back loop1
      refine ⟨(i + 1, dv.set pl da[i]), (by simp only; omega), ⟨rfl, rfl, rfl, rfl, rfl, rfl, trivial⟩, ⟨by first | rfl | simp, hi2, by simp only [List.length_set]; exact hdl⟩, ?_⟩
      try simp only [List.set_cons_zero, List.set_cons_succ]
      exact q17.pick [1, 2, 3, 4, 5] _ rfl (by decide)
    ·
      have hil : i = da.length := Nat.le_antisymm hi (by have h5 := of_decide_eq_false u2; omega)
      try simp -implicitDefEqProofs only [kz, kk0, kk1, kk2, kk3, ↓two_true, ↓two_false, mkv, aggAt, Nat.reduceLeDiff, Nat.reduceSub, Nat.reduceMul, implies_true, Nat.reduceEqDiff, reduceIte, Nat.reduceAdd, Nat.reduceBEq, reduceCtorEq, al26, bd26, fa26_0, fa26_1, ix24, ld3, ld24, ld26, ln24, st3, st26, lv1, lv2, lv3, lv4, lv5, lv6, ki, q12.rd 1 rfl, q12.rd 3 rfl, q12.rd 4 rfl]
      refine st_set q12 3 rfl fun H14 q18 => ?_
      simp only [List.set_cons_zero, List.set_cons_succ] at q18
      simp -implicitDefEqProofs only [kz, kk0, kk1, kk2, kk3, ↓two_true, ↓two_false, mkv, aggAt, Nat.reduceLeDiff, Nat.reduceSub, Nat.reduceMul, implies_true, Nat.reduceEqDiff, reduceIte, Nat.reduceAdd, Nat.reduceBEq, reduceCtorEq, al26, bd26, fa26_0, fa26_1, ix24, ld3, ld24, ld26, ln24, st3, st26, lv1, lv2, lv3, lv4, lv5, lv6, ki, q18.rd 1 rfl, q18.rd 3 rfl, q18.rd 4 rfl]
      -- end2
      refine ⟨_, fun _ => hdl, ?_⟩
      exact q18.ans 0 2 (by decide) rfl rfl (by unfold flipR; rw [v1]; rfl)

set_option maxHeartbeats 4000000 in
theorem specFlip_ok {H : AH} {pa qa : Value} {sa da : List Int} (a : AR H pa qa sa da) : CallsA Try.prog 10 #[.agg #[pa, qa]] H fun r H' => ∃ dt, (arrOk sa da = true → dt.length = da.length) ∧ Ans1 H H' r (flipR sa da dt) := by
  have al := a.l1
  have bl := a.l2
  obtain ⟨za, zc, zb, zd, rfl, rfl⟩ := a.o1
  have q := (LX.nil (H := H))
  refine w10 ?_
  unfold k10
  simp -implicitDefEqProofs only [kz, kk0, kk1, kk2, kk3, ↓two_true, ↓two_false, mkv, aggAt, Nat.reduceLeDiff, Nat.reduceSub, Nat.reduceMul, implies_true, Nat.reduceEqDiff, reduceIte, Nat.reduceAdd, Nat.reduceBEq, reduceCtorEq, al26, ap24_24, bd26, bs24_1, fa26_0, fa26_1, ix24, ld3, ld24, ld26, ln24, st24, st26]
  refine st_box q fun H1 q1 => ?_
  simp -implicitDefEqProofs only [kz, kk0, kk1, kk2, kk3, ↓two_true, ↓two_false, mkv, aggAt, Nat.reduceLeDiff, Nat.reduceSub, Nat.reduceMul, implies_true, Nat.reduceEqDiff, reduceIte, Nat.reduceAdd, Nat.reduceBEq, reduceCtorEq, al26, ap24_24, bd26, bs24_1, fa26_0, fa26_1, ix24, ld3, ld24, ld26, ln24, st24, st26, q1.rd 0 rfl]
  refine st_box q1 fun H2 q2 => ?_
  simp -implicitDefEqProofs only [kz, kk0, kk1, kk2, kk3, ↓two_true, ↓two_false, mkv, aggAt, Nat.reduceLeDiff, Nat.reduceSub, Nat.reduceMul, implies_true, Nat.reduceEqDiff, reduceIte, Nat.reduceAdd, Nat.reduceBEq, reduceCtorEq, al26, ap24_24, bd26, bs24_1, fa26_0, fa26_1, ix24, ld3, ld24, ld26, ln24, st24, st26, q2.rd 0 rfl, q2.rd 1 rfl]
  refine (specOk_ar (a.ext q2.ext)).mono ?_
  rintro _ H3 ⟨rfl, he1⟩
  have q3 := q2.extd he1
  simp -implicitDefEqProofs only [kz, kk0, kk1, kk2, kk3, ↓two_true, ↓two_false, mkv, aggAt, Nat.reduceLeDiff, Nat.reduceSub, Nat.reduceMul, implies_true, Nat.reduceEqDiff, reduceIte, Nat.reduceAdd, Nat.reduceBEq, reduceCtorEq, al26, ap24_24, bd26, bs24_1, fa26_0, fa26_1, ix24, ld3, ld24, ld26, ln24, st24, st26, q3.rd 0 rfl, q3.rd 1 rfl]
  refine two_intro (fun u1 => ?_) (fun u1 => ?_)
  ·
    have w1 : arrOk sa da = false := by simpa using u1
    try simp -implicitDefEqProofs only [kz, kk0, kk1, kk2, kk3, ↓two_true, ↓two_false, mkv, aggAt, Nat.reduceLeDiff, Nat.reduceSub, Nat.reduceMul, implies_true, Nat.reduceEqDiff, reduceIte, Nat.reduceAdd, Nat.reduceBEq, reduceCtorEq, al26, ap24_24, bd26, bs24_1, fa26_0, fa26_1, ix24, ld3, ld24, ld26, ln24, st24, st26, q3.rd 0 rfl, q3.rd 1 rfl]
    refine st_set q3 0 rfl fun H4 q4 => ?_
    simp only [List.set_cons_zero, List.set_cons_succ] at q4
    simp -implicitDefEqProofs only [kz, kk0, kk1, kk2, kk3, ↓two_true, ↓two_false, mkv, aggAt, Nat.reduceLeDiff, Nat.reduceSub, Nat.reduceMul, implies_true, Nat.reduceEqDiff, reduceIte, Nat.reduceAdd, Nat.reduceBEq, reduceCtorEq, al26, ap24_24, bd26, bs24_1, fa26_0, fa26_1, ix24, ld3, ld24, ld26, ln24, st24, st26, q4.rd 0 rfl, q4.rd 1 rfl]
    -- end1
    have q5 := q4.nil0
    have q6 := q5.nil0
    exact ⟨[], fun h => absurd h (by rw [w1]; decide), by unfold flipR; rw [w1]; exact q6.ans 1 0 (by decide) rfl rfl rfl⟩
  ·
    have v1 : arrOk sa da = true := by simpa using u1
    obtain ⟨v1r, hsz, hszr, -⟩ := arrOk_rev v1
    try simp -implicitDefEqProofs only [kz, kk0, kk1, kk2, kk3, ↓two_true, ↓two_false, mkv, aggAt, Nat.reduceLeDiff, Nat.reduceSub, Nat.reduceMul, implies_true, Nat.reduceEqDiff, reduceIte, Nat.reduceAdd, Nat.reduceBEq, reduceCtorEq, al26, ap24_24, bd26, bs24_1, fa26_0, fa26_1, ix24, ld3, ld24, ld26, ln24, st24, st26, q3.rd 0 rfl, q3.rd 1 rfl]
    have hk1 := l5Back_ok (a.os.ext q3.ext) (by first | omega | (rw [idxG_len, List.length_reverse]; omega))
    refine hk1.mono ?_
    rintro p1 H5 g1
    have q7 := q3.join g1
    simp only [List.map_cons, List.map_nil, List.cons_append, List.nil_append] at q7
    obtain ⟨a1, c1, rfl⟩ := (q7.own 0 rfl).isSlice
    simp -implicitDefEqProofs only [kz, kk0, kk1, kk2, kk3, ↓two_true, ↓two_false, mkv, aggAt, Nat.reduceLeDiff, Nat.reduceSub, Nat.reduceMul, implies_true, Nat.reduceEqDiff, reduceIte, Nat.reduceAdd, Nat.reduceBEq, reduceCtorEq, al26, ap24_24, bd26, bs24_1, fa26_0, fa26_1, ix24, ld3, ld24, ld26, ln24, st24, st26, q7.rd 1 rfl, q7.rd 2 rfl]
    try simp -implicitDefEqProofs only [kz, kk0, kk1, kk2, kk3, ↓two_true, ↓two_false, mkv, aggAt, Nat.reduceLeDiff, Nat.reduceSub, Nat.reduceMul, implies_true, Nat.reduceEqDiff, reduceIte, Nat.reduceAdd, Nat.reduceBEq, reduceCtorEq, al26, ap24_24, bd26, bs24_1, fa26_0, fa26_1, ix24, ld3, ld24, ld26, ln24, st24, st26, q7.rd 1 rfl, q7.rd 2 rfl]
    refine st_box q7 fun H6 q8 => ?_
    simp -implicitDefEqProofs only [kz, kk0, kk1, kk2, kk3, ↓two_true, ↓two_false, mkv, aggAt, Nat.reduceLeDiff, Nat.reduceSub, Nat.reduceMul, implies_true, Nat.reduceEqDiff, reduceIte, Nat.reduceAdd, Nat.reduceBEq, reduceCtorEq, al26, ap24_24, bd26, bs24_1, fa26_0, fa26_1, ix24, ld3, ld24, ld26, ln24, st24, st26, q8.rd 0 rfl, q8.rd 2 rfl, q8.rd 3 rfl]
    refine st_set q8 0 rfl fun H7 q9 => ?_
    simp only [List.set_cons_zero, List.set_cons_succ] at q9
    simp -implicitDefEqProofs only [kz, kk0, kk1, kk2, kk3, ↓two_true, ↓two_false, mkv, aggAt, Nat.reduceLeDiff, Nat.reduceSub, Nat.reduceMul, implies_true, Nat.reduceEqDiff, reduceIte, Nat.reduceAdd, Nat.reduceBEq, reduceCtorEq, al26, ap24_24, bd26, bs24_1, fa26_0, fa26_1, ix24, ld3, ld24, ld26, ln24, st24, st26, q9.rd 0 rfl, q9.rd 2 rfl, q9.rd 3 rfl]
    have q10 := q9.nil0
    refine rW_loopQ (σ := Nat × Option Addr × Nat × List Int) q10 [1, 2, 3, 4] (fun x tm => tm 5 = .int .i64 x.1 ∧ x.1 ≤ da.length ∧ (x.2.2.2).length = x.1) (fun x L => (L.set 1 (.own (.box (H5.length) [.slice a1 (sa).reverse.length c1, .slice x.2.1 (x.2.2.2).length x.2.2.1]))).set 0 (.own (.row (.slice x.2.1 (x.2.2.2).length x.2.2.1) x.2.2.2))) (fun x => da.length - x.1) (0, none, 0, []) ⟨rfl, Nat.zero_le _, rfl⟩ rfl ?_
    rintro ⟨i, av, cv, dl⟩ tm1 H8 ⟨lv1, lv2, lv3, lv4, -⟩ ⟨ki, hi, hdl⟩ q11
    simp -implicitDefEqProofs only [kz, kk0, kk1, kk2, kk3, ↓two_true, ↓two_false, mkv, aggAt, Nat.reduceLeDiff, Nat.reduceSub, Nat.reduceMul, implies_true, Nat.reduceEqDiff, reduceIte, Nat.reduceAdd, Nat.reduceBEq, reduceCtorEq, al26, ap24_24, bd26, bs24_1, fa26_0, fa26_1, ix24, ld3, ld24, ld26, ln24, st24, st26] at lv1 lv2 lv3 lv4
    simp only [List.set_cons_zero, List.set_cons_succ] at q11
    simp only at ki hi hdl
    simp -implicitDefEqProofs only [kz, kk0, kk1, kk2, kk3, ↓two_true, ↓two_false, mkv, aggAt, Nat.reduceLeDiff, Nat.reduceSub, Nat.reduceMul, implies_true, Nat.reduceEqDiff, reduceIte, Nat.reduceAdd, Nat.reduceBEq, reduceCtorEq, al26, ap24_24, bd26, bs24_1, fa26_0, fa26_1, ix24, ld3, ld24, ld26, ln24, st24, st26, lv1, lv2, lv3, lv4, ki, q11.rd 1 rfl, q11.rd 3 rfl, q11.rd 4 rfl]
    refine two_intro (fun u2 => ?_) (fun u2 => ?_)
    ·
      have hi2 : i < da.length := by have h5 := of_decide_eq_true u2; omega
      obtain ⟨f1, f2, f3, pl, f4, f5⟩ := flip_place v1r hi2
      simp only [List.reverse_reverse] at f1 f2 f3 f4
      have wi : IntKind.i64.wrap ((i : Int) + 1) = ((i + 1 : Nat) : Int) := IntWalk.i64_in ((i : Int) + 1) (by omega)
      try simp -implicitDefEqProofs only [kz, kk0, kk1, kk2, kk3, ↓two_true, ↓two_false, mkv, aggAt, Nat.reduceLeDiff, Nat.reduceSub, Nat.reduceMul, implies_true, Nat.reduceEqDiff, reduceIte, Nat.reduceAdd, Nat.reduceBEq, reduceCtorEq, al26, ap24_24, bd26, bs24_1, fa26_0, fa26_1, ix24, ld3, ld24, ld26, ln24, st24, st26, wi, lv1, lv2, lv3, lv4, ki, q11.rd 1 rfl, q11.rd 3 rfl, q11.rd 4 rfl]
      have hk2 := specIndexOf_ok (p := i) (q11.int 2 rfl) (by simp; omega) (by rw [hszr]; omega)
      refine hk2.mono ?_
      rintro p2 H9 g2
      have q12 := q11.join g2
      simp only [List.map_cons, List.map_nil, List.cons_append, List.nil_append] at q12
      obtain ⟨a2, c2, rfl⟩ := (q12.own 0 rfl).isSlice
      simp -implicitDefEqProofs only [kz, kk0, kk1, kk2, kk3, ↓two_true, ↓two_false, mkv, aggAt, Nat.reduceLeDiff, Nat.reduceSub, Nat.reduceMul, implies_true, Nat.reduceEqDiff, reduceIte, Nat.reduceAdd, Nat.reduceBEq, reduceCtorEq, al26, ap24_24, bd26, bs24_1, fa26_0, fa26_1, ix24, ld3, ld24, ld26, ln24, st24, st26, wi, lv1, lv2, lv3, lv4, ki, q12.rd 2 rfl, q12.rd 4 rfl, q12.rd 5 rfl, q11.rd 1 rfl, q11.rd 3 rfl, q11.rd 4 rfl]
      have hk3 := l5Back_ok (q12.int 0 rfl) (by first | omega | (rw [idxG_len, List.length_reverse]; omega))
      refine hk3.mono ?_
      rintro p3 H10 g3
      have q13 := q12.join g3
      simp only [List.map_cons, List.map_nil, List.cons_append, List.nil_append] at q13
      obtain ⟨a3, c3, rfl⟩ := (q13.own 0 rfl).isSlice
      simp -implicitDefEqProofs only [kz, kk0, kk1, kk2, kk3, ↓two_true, ↓two_false, mkv, aggAt, Nat.reduceLeDiff, Nat.reduceSub, Nat.reduceMul, implies_true, Nat.reduceEqDiff, reduceIte, Nat.reduceAdd, Nat.reduceBEq, reduceCtorEq, al26, ap24_24, bd26, bs24_1, fa26_0, fa26_1, ix24, ld3, ld24, ld26, ln24, st24, st26, wi, lv1, lv2, lv3, lv4, ki, q13.rd 3 rfl, q13.rd 5 rfl, q13.rd 6 rfl, q11.rd 1 rfl, q11.rd 3 rfl, q11.rd 4 rfl, q12.rd 2 rfl, q12.rd 4 rfl, q12.rd 5 rfl]
      have hk4 := specPlaceOf_ok (a.os.ext q13.ext) (q13.int 0 rfl) (by omega) f1 f2 f3
      rw [f4] at hk4
      refine hk4.mono ?_
      rintro _ H11 ⟨rfl, he2⟩
      have q14 := q13.extd he2
      obtain ⟨b1, o1, cs1, ei1, fr1, fc1⟩ := ixI (a.od.ext q14.ext) (i := pl) f5
      simp -implicitDefEqProofs only [kz, kk0, kk1, kk2, kk3, ↓two_true, ↓two_false, mkv, aggAt, Nat.reduceLeDiff, Nat.reduceSub, Nat.reduceMul, implies_true, Nat.reduceEqDiff, reduceIte, Nat.reduceAdd, Nat.reduceBEq, reduceCtorEq, al26, ap24_24, bd26, bs24_1, fa26_0, fa26_1, ix24, ld3, ld24, ld26, ln24, st24, st26, wi, ei1, fr1, fc1, lv1, lv2, lv3, lv4, ki, q14.rd 3 rfl, q14.rd 5 rfl, q14.rd 6 rfl, q11.rd 1 rfl, q11.rd 3 rfl, q11.rd 4 rfl, q12.rd 2 rfl, q12.rd 4 rfl, q12.rd 5 rfl, q13.rd 3 rfl, q13.rd 5 rfl, q13.rd 6 rfl]
      refine st_lit [(da)[pl]] rfl rfl q14 fun H12 q15 => ?_
      simp -implicitDefEqProofs only [kz, kk0, kk1, kk2, kk3, ↓two_true, ↓two_false, mkv, aggAt, Nat.reduceLeDiff, Nat.reduceSub, Nat.reduceMul, implies_true, Nat.reduceEqDiff, reduceIte, Nat.reduceAdd, Nat.reduceBEq, reduceCtorEq, al26, ap24_24, bd26, bs24_1, fa26_0, fa26_1, ix24, ld3, ld24, ld26, ln24, st24, st26, wi, lv1, lv2, lv3, lv4, ki, q15.rd 4 rfl, q15.rd 6 rfl, q15.rd 7 rfl, q11.rd 1 rfl, q11.rd 3 rfl, q11.rd 4 rfl, q12.rd 2 rfl, q12.rd 4 rfl, q12.rd 5 rfl, q13.rd 3 rfl, q13.rd 5 rfl, q13.rd 6 rfl, q14.rd 3 rfl, q14.rd 5 rfl, q14.rd 6 rfl]
      refine st_app q15 3 rfl (q15.int 0 rfl) (by first | omega | (simp; omega)) fun a4 c4 H13 q16 => ?_
      simp only [List.set_cons_zero, List.set_cons_succ, List.length_nil, List.length_cons, Nat.zero_add, List.nil_append] at q16 ⊢
      simp -implicitDefEqProofs only [kz, kk0, kk1, kk2, kk3, ↓two_true, ↓two_false, mkv, aggAt, Nat.reduceLeDiff, Nat.reduceSub, Nat.reduceMul, implies_true, Nat.reduceEqDiff, reduceIte, Nat.reduceAdd, Nat.reduceBEq, reduceCtorEq, al26, ap24_24, bd26, bs24_1, fa26_0, fa26_1, ix24, ld3, ld24, ld26, ln24, st24, st26, wi, lv1, lv2, lv3, lv4, ki, q16.rd 4 rfl, q16.rd 6 rfl, q16.rd 7 rfl, q11.rd 1 rfl, q11.rd 3 rfl, q11.rd 4 rfl, q12.rd 2 rfl, q12.rd 4 rfl, q12.rd 5 rfl, q13.rd 3 rfl, q13.rd 5 rfl, q13.rd 6 rfl, q14.rd 3 rfl, q14.rd 5 rfl, q14.rd 6 rfl, q15.rd 4 rfl, q15.rd 6 rfl, q15.rd 7 rfl]
      refine st_set q16 4 rfl fun H14 q17 => ?_
      simp only [List.set_cons_zero, List.set_cons_succ] at q17
      simp -implicitDefEqProofs only [kz, kk0, kk1, kk2, kk3, ↓two_true, ↓two_false, mkv, aggAt, Nat.reduceLeDiff, Nat.reduceSub, Nat.reduceMul, implies_true, Nat.reduceEqDiff, reduceIte, Nat.reduceAdd, Nat.reduceBEq, reduceCtorEq, al26, ap24_24, bd26, bs24_1, fa26_0, fa26_1, ix24, ld3, ld24, ld26, ln24, st24, st26, wi, lv1, lv2, lv3, lv4, ki, q17.rd 4 rfl, q17.rd 6 rfl, q17.rd 7 rfl, q11.rd 1 rfl, q11.rd 3 rfl, q11.rd 4 rfl, q12.rd 2 rfl, q12.rd 4 rfl, q12.rd 5 rfl, q13.rd 3 rfl, q13.rd 5 rfl, q13.rd 6 rfl, q14.rd 3 rfl, q14.rd 5 rfl, q14.rd 6 rfl, q15.rd 4 rfl, q15.rd 6 rfl, q15.rd 7 rfl, q16.rd 4 rfl, q16.rd 6 rfl, q16.rd 7 rfl]
      try simp -implicitDefEqProofs only [kz, kk0, kk1, kk2, kk3, ↓two_true, ↓two_false, mkv, aggAt, Nat.reduceLeDiff, Nat.reduceSub, Nat.reduceMul, implies_true, Nat.reduceEqDiff, reduceIte, Nat.reduceAdd, Nat.reduceBEq, reduceCtorEq, al26, ap24_24, bd26, bs24_1, fa26_0, fa26_1, ix24, ld3, ld24, ld26, ln24, st24, st26, wi, lv1, lv2, lv3, lv4, ki, q17.rd 4 rfl, q17.rd 6 rfl, q17.rd 7 rfl]
      -- back loop1
      refine ⟨(i + 1, a4, c4, dl ++ [da[pl]]), (by simp only; omega), ⟨rfl, rfl, rfl, rfl, trivial⟩, ⟨by first | rfl | simp, hi2, by simp [hdl]⟩, ?_⟩
      try simp only [List.set_cons_zero, List.set_cons_succ, List.length_append, List.length_cons, List.length_nil, Nat.zero_add]
      exact q17.pick [3, 4, 5, 6, 7] _ rfl (by decide)
    ·
      have hil : i = da.length := Nat.le_antisymm hi (by have h5 := of_decide_eq_false u2; omega)
      rw [hil] at hdl
      try simp -implicitDefEqProofs only [kz, kk0, kk1, kk2, kk3, ↓two_true, ↓two_false, mkv, aggAt, Nat.reduceLeDiff, Nat.reduceSub, Nat.reduceMul, implies_true, Nat.reduceEqDiff, reduceIte, Nat.reduceAdd, Nat.reduceBEq, reduceCtorEq, al26, ap24_24, bd26, bs24_1, fa26_0, fa26_1, ix24, ld3, ld24, ld26, ln24, st24, st26, lv1, lv2, lv3, lv4, ki, q11.rd 1 rfl, q11.rd 3 rfl, q11.rd 4 rfl]
      refine st_set q11 3 rfl fun H15 q18 => ?_
      simp only [List.set_cons_zero, List.set_cons_succ] at q18
      simp -implicitDefEqProofs only [kz, kk0, kk1, kk2, kk3, ↓two_true, ↓two_false, mkv, aggAt, Nat.reduceLeDiff, Nat.reduceSub, Nat.reduceMul, implies_true, Nat.reduceEqDiff, reduceIte, Nat.reduceAdd, Nat.reduceBEq, reduceCtorEq, al26, ap24_24, bd26, bs24_1, fa26_0, fa26_1, ix24, ld3, ld24, ld26, ln24, st24, st26, lv1, lv2, lv3, lv4, ki, q18.rd 1 rfl, q18.rd 3 rfl, q18.rd 4 rfl]
      -- end2
      refine ⟨_, fun _ => hdl, ?_⟩
      exact q18.ans 2 0 (by decide) rfl rfl (by unfold flipR; rw [v1]; rfl)

def revC (cs : List Value) (o n i : Nat) (cs' : List Value) : Prop := cs'.length = cs.length ∧ ∀ k e, k < n → e < 2 → cs'[o + k * 2 + e]? = if k < i ∨ n ≤ k + i then cs[o + (n - 1 - k) * 2 + e]? else cs[o + k * 2 + e]?
theorem revC_cell {cs cs' : List Value} {o n i k : Nat} (h : revC cs o n i cs') (hl : ∀ j, j < n * 2 → ∃ a m c, cs[o + j]? = some (.slice a m c)) (hk : k < n) : ∃ a m c a' m' c', cs'[o + k * 2]? = some (.slice a m c) ∧ cs'[o + k * 2 + 1]? = some (.slice a' m' c') := by
  have h0 := h.2 k 0 hk (by decide)
  have h1 := h.2 k 1 hk (by decide)
  simp only [Nat.add_zero] at h0
  by_cases c : k < i ∨ n ≤ k + i
  · rw [if_pos c] at h0 h1
    obtain ⟨a, m, d, e⟩ := hl ((n - 1 - k) * 2) (by omega)
    obtain ⟨a', m', d', e'⟩ := hl ((n - 1 - k) * 2 + 1) (by omega)
    exact ⟨a, m, d, a', m', d', h0.trans e, h1.trans (by rw [Nat.add_assoc]; exact e')⟩
  · rw [if_neg c] at h0 h1
    obtain ⟨a, m, d, e⟩ := hl (k * 2) (by omega)
    obtain ⟨a', m', d', e'⟩ := hl (k * 2 + 1) (by omega)
    exact ⟨a, m, d, a', m', d', h0.trans e, h1.trans (by rw [Nat.add_assoc]; exact e')⟩
set_option maxHeartbeats 4000000 in
theorem revC_step {cs cs1 : List Value} {o n i j : Nat} {p q p' q' : Value} (h : revC cs o n i cs1) (ho : o + n * 2 ≤ cs.length) (hij : i + j + 1 = n) (hlt : i < j) (e1 : cs1[o + j * 2]? = some p) (e2 : cs1[o + j * 2 + 1]? = some q) (e3 : cs1[o + i * 2]? = some p') (e4 : cs1[o + i * 2 + 1]? = some q') :
    revC cs o n (i + 1) (splice (splice cs1 (o + i * 2) [p, q]) (o + j * 2) [p', q']) := by
  have hlen := h.1
  have gi : ∀ e, e < 2 → cs1[o + i * 2 + e]? = cs[o + i * 2 + e]? := fun e he => by rw [h.2 i e (by omega) he, if_neg (by omega)]
  have gj : ∀ e, e < 2 → cs1[o + j * 2 + e]? = cs[o + j * 2 + e]? := fun e he => by rw [h.2 j e (by omega) he, if_neg (by omega)]
  refine ⟨by rw [splice_length, splice_length]; exact hlen, fun k e hk he => ?_⟩
  rw [splice_get _ _ _ _ (by rw [splice_length]; simp only [List.length_cons, List.length_nil]; omega), splice_get _ _ _ _ (by simp only [List.length_cons, List.length_nil]; omega)]
  simp only [List.length_cons, List.length_nil]
  have he' : e = 0 ∨ e = 1 := by omega
  by_cases c1 : k = j
  · subst c1
    rw [if_pos (by omega), if_pos (by omega), show n - 1 - k = i by omega, ← gi e he]
    rcases he' with rfl | rfl
    · simp only [Nat.add_zero, Nat.sub_self]; rw [e3]; rfl
    · rw [show o + k * 2 + 1 - (o + k * 2) = 1 by omega, e4]; rfl
  · rw [if_neg (by omega)]
    by_cases c2 : k = i
    · subst c2
      rw [if_pos (by omega), if_pos (by omega), show n - 1 - k = j by omega, ← gj e he]
      rcases he' with rfl | rfl
      · simp only [Nat.add_zero, Nat.sub_self]; rw [e1]; rfl
      · rw [show o + k * 2 + 1 - (o + k * 2) = 1 by omega, e2]; rfl
    · rw [if_neg (by omega), h.2 k e hk he]
      by_cases c3 : k < i ∨ n ≤ k + i
      · rw [if_pos c3, if_pos (by omega)]
      · rw [if_neg c3, if_neg (by omega)]
theorem revC_full {cs cs1 : List Value} {o n i j : Nat} (h : revC cs o n i cs1) (hij : i + j + 1 = n) (hge : ¬ i < j) : revC cs o n n cs1 := by
  refine ⟨h.1, fun k e hk he => ?_⟩
  rw [h.2 k e hk he, if_pos (show k < n ∨ n ≤ k + n by omega)]
  by_cases c : k < i ∨ n ≤ k + i
  · rw [if_pos c]
  · rw [if_neg c, show n - 1 - k = k by omega]
set_option maxHeartbeats 4000000 in
theorem revT_ok {H : AH} {b o n : Nat} {cs : List Value} (hb : H[b]? = some ⟨cs, .own⟩) (ho : o + n * 2 ≤ cs.length) (hp : 0 < n) (hn : n ≤ 1048576) (hl : ∀ j, j < n * 2 → ∃ a m c, cs[o + j]? = some (.slice a m c)) :
    CallsA Try.prog 40 #[.slice (some ⟨b, o, none⟩) n 2] H fun r H' => ∃ cs', revC cs o n n cs' ∧ H' = H.set b ⟨cs', .own⟩ := by
  have wl : IntKind.i64.wrap ((n : Int) - 1) = ((n - 1 : Nat) : Int) := by rw [IntWalk.i64_in _ (by omega)]; omega
  have hbl : b < H.length := (List.getElem?_eq_some_iff.1 hb).1
  refine w40 ?_
  unfold k40
  simp -implicitDefEqProofs only [kz, kk0, kk1, kk2, kk3, ↓two_true, ↓two_false, oS_some, oM_some, mkv, aggAt, Nat.reduceLeDiff, Nat.reduceSub, Nat.reduceMul, implies_true, Nat.reduceEqDiff, reduceIte, Nat.reduceAdd, Nat.reduceBEq, reduceCtorEq, ix62, ld26, ln62, st26, wl]
  refine rW_loop (σ := Nat × Nat × List Value) (fun x tm H' => tm 0 = .slice (some ⟨b, o, none⟩) n 2 ∧ tm 2 = .int .i64 x.1 ∧ tm 3 = .int .i64 x.2.1 ∧ x.1 + x.2.1 + 1 = n ∧ revC cs o n x.1 x.2.2 ∧ H' = H.set b ⟨x.2.2, .own⟩) (fun x => x.2.1) (0, n - 1, cs) ?_ ?_
  · refine ⟨?_, ?_, ?_, by simp only; omega, ⟨rfl, fun k e hk he => ?_⟩, ?_⟩
    · simp -implicitDefEqProofs [kk0, kk1, kk2, kk3, rW_block, ↓two_true, ↓two_false, rW_cond, rO_guard, oS_some, oM_some, mkv, aggAt, Nat.reduceLeDiff, Nat.reduceSub, Nat.reduceMul, cond_true, cond_false, Option.bind_some, List.length_append, List.length_cons, List.length_nil, List.append_assoc, List.cons_append, List.nil_append, List.set_cons_zero, List.set_cons_succ, List.size_toArray, List.all_cons, List.all_nil, List.drop_zero, List.drop_succ_cons, List.take_succ_cons, List.take_zero, List.mem_cons, Prod.mk.injEq, List.not_mem_nil, implies_true, List.getElem?_toArray, List.getElem?_cons_zero, List.getElem?_cons_succ, List.getElem?_nil, Option.getD_some, Option.getD_none, Nat.reduceEqDiff, reduceIte, Nat.reduceAdd, List.map_toArray, List.map_cons, List.map_nil, Bool.false_eq_true, Nat.reduceBEq, Option.map_some, Option.map_none, reduceCtorEq, ix62, ld26, ln62, st26]
    · simp -implicitDefEqProofs [kk0, kk1, kk2, kk3, rW_block, ↓two_true, ↓two_false, rW_cond, rO_guard, oS_some, oM_some, mkv, aggAt, Nat.reduceLeDiff, Nat.reduceSub, Nat.reduceMul, cond_true, cond_false, Option.bind_some, List.length_append, List.length_cons, List.length_nil, List.append_assoc, List.cons_append, List.nil_append, List.set_cons_zero, List.set_cons_succ, List.size_toArray, List.all_cons, List.all_nil, List.drop_zero, List.drop_succ_cons, List.take_succ_cons, List.take_zero, List.mem_cons, Prod.mk.injEq, List.not_mem_nil, implies_true, List.getElem?_toArray, List.getElem?_cons_zero, List.getElem?_cons_succ, List.getElem?_nil, Option.getD_some, Option.getD_none, Nat.reduceEqDiff, reduceIte, Nat.reduceAdd, List.map_toArray, List.map_cons, List.map_nil, Bool.false_eq_true, Nat.reduceBEq, Option.map_some, Option.map_none, reduceCtorEq, ix62, ld26, ln62, st26]
    · simp -implicitDefEqProofs [kk0, kk1, kk2, kk3, rW_block, ↓two_true, ↓two_false, rW_cond, rO_guard, oS_some, oM_some, mkv, aggAt, Nat.reduceLeDiff, Nat.reduceSub, Nat.reduceMul, cond_true, cond_false, Option.bind_some, List.length_append, List.length_cons, List.length_nil, List.append_assoc, List.cons_append, List.nil_append, List.set_cons_zero, List.set_cons_succ, List.size_toArray, List.all_cons, List.all_nil, List.drop_zero, List.drop_succ_cons, List.take_succ_cons, List.take_zero, List.mem_cons, Prod.mk.injEq, List.not_mem_nil, implies_true, List.getElem?_toArray, List.getElem?_cons_zero, List.getElem?_cons_succ, List.getElem?_nil, Option.getD_some, Option.getD_none, Nat.reduceEqDiff, reduceIte, Nat.reduceAdd, List.map_toArray, List.map_cons, List.map_nil, Bool.false_eq_true, Nat.reduceBEq, Option.map_some, Option.map_none, reduceCtorEq, ix62, ld26, ln62, st26]
    · rw [if_neg (by simp only; omega)]
    · refine List.ext_getElem? fun k => ?_
      by_cases e : b = k
      · subst e; rw [List.getElem?_set_self hbl]; exact hb
      · rw [List.getElem?_set_ne e]
  · rintro ⟨i, j, cs1⟩ tm H1 ⟨h0, h2, h3, hij, hr, rfl⟩
    simp only at h0 h2 h3 hij hr
    have hg : ∀ cs : List Value, (H.set b (⟨cs, .own⟩ : Blk))[b]? = some ⟨cs, .own⟩ := fun cs => List.getElem?_set_self hbl
    have hrd : ∀ cs : List Value, rd (H.set b (⟨cs, .own⟩ : Blk)) b = some cs := fun cs => rd_own (hg cs)
    have hwr : ∀ cs : List Value, wrt (H.set b (⟨cs, .own⟩ : Blk)) b = some cs := fun cs => wrt_own (hg cs)
    simp -implicitDefEqProofs only [kz, kk0, kk1, kk2, kk3, ↓two_true, ↓two_false, oS_some, oM_some, mkv, aggAt, Nat.reduceLeDiff, Nat.reduceSub, Nat.reduceMul, implies_true, Nat.reduceEqDiff, reduceIte, Nat.reduceAdd, Nat.reduceBEq, reduceCtorEq, ix62, ld26, ln62, st26, h0, h2, h3, ix62]
    refine two_intro (fun u => ?_) (fun u => ?_)
    · have hlt : i < j := by have h5 := of_decide_eq_true u; omega
      have wi : IntKind.i64.wrap ((i : Int) + 1) = ((i + 1 : Nat) : Int) := IntWalk.i64_in ((i : Int) + 1) (by omega)
      have wj : IntKind.i64.wrap ((j : Int) - 1) = ((j - 1 : Nat) : Int) := by rw [IntWalk.i64_in _ (by omega)]; omega
      have b1 : (0 : Int) ≤ (i : Int) ∧ (i : Int) < (n : Int) := by omega
      have b2 : (0 : Int) ≤ (j : Int) ∧ (j : Int) < (n : Int) := by omega
      obtain ⟨a1, m1, c1, a2, m2, c2, e1, e2⟩ := revC_cell hr hl (show j < n by omega)
      obtain ⟨a3, m3, c3, a4, m4, c4, e3, e4⟩ := revC_cell hr hl (show i < n by omega)
      have l1 : o + j * 2 + 2 ≤ cs1.length := by rw [hr.1]; omega
      have l2 : o + i * 2 + 2 ≤ cs1.length := by rw [hr.1]; omega
      have hst := revC_step hr ho hij hlt e1 e2 e3 e4
      simp -implicitDefEqProofs only [kz, kk0, kk1, kk2, kk3, ↓two_true, ↓two_false, oS_some, oM_some, mkv, aggAt, Nat.reduceLeDiff, Nat.reduceSub, Nat.reduceMul, implies_true, Nat.reduceEqDiff, reduceIte, Nat.reduceAdd, Nat.reduceBEq, reduceCtorEq, ix62, ld26, ln62, st26, h0, h2, h3, ix62, if_pos b1, if_pos b2, wi, wj, hrd, hwr, Int.toNat_natCast, ldA2 e1 e2, ldA2 e3 e4, sto_some, list_set_set]
      simp only [splice_cons, splice_nil] at hst
      exact ⟨b2, l2, by simp only [List.length_set]; exact l1, (i + 1, j - 1, _), by simp only; omega, rfl, rfl, by simp only; omega, hst, rfl⟩
    · have hlt : ¬ i < j := by have h5 := of_decide_eq_false u; omega
      exact ⟨cs1, revC_full hr hij hlt, rfl⟩
/-- A table of rows is turned. -/
theorem LX.turn {c0 : Option Nat} {H0 H : AH} {L0 : List Ix} {v : Value} {n : Nat} {xs : List Value} {rs : List (List Int × List Int)} (q : LX c0 H0 H (.tab v [.r, .r] n xs (rowsV rs) :: L0)) (hn : n ≤ 1048576) :
    CallsA Try.prog 40 #[v] H fun r H' => ∃ xs', LX c0 H0 H' (.tab v [.r, .r] n xs' (rowsV rs.reverse) :: L0) := by
  obtain ⟨B, h⟩ := q
  obtain ⟨t1, t2⟩ := h.ok 0 _ rfl
  obtain ⟨hr, hrl⟩ := FRow.rows t1.frow t2
  rcases t1.row with ⟨rfl, h0⟩ | ⟨b, o, cs, rfl, hb, ho, hc⟩
  · subst h0
    obtain rfl : rs = [] := List.eq_nil_of_length_eq_zero hrl.symm
    refine w40 ?_
    unfold k40
    have w1 : IntKind.i64.wrap ((0 : Int) - 1) = -1 := by decide
    simp -implicitDefEqProofs only [kz, kk0, kk1, kk2, kk3, ↓two_true, ↓two_false, mkv, aggAt, Nat.reduceLeDiff, Nat.reduceSub, Nat.reduceMul, implies_true, Nat.reduceEqDiff, reduceIte, Nat.reduceAdd, Nat.reduceBEq, reduceCtorEq, ix62, ld26, ln62, st26, cast0, w1]
    refine rW_loop (σ := Unit) (fun _ tm H' => tm 2 = .int .i64 0 ∧ tm 3 = .int .i64 (-1) ∧ H' = H) (fun _ => 0) () ?_ ?_
    · simp -implicitDefEqProofs [kk0, kk1, kk2, kk3, rW_block, ↓two_true, ↓two_false, rW_cond, rO_guard, mkv, aggAt, Nat.reduceLeDiff, Nat.reduceSub, Nat.reduceMul, cond_true, cond_false, Option.bind_some, List.length_append, List.length_cons, List.length_nil, List.append_assoc, List.cons_append, List.nil_append, List.set_cons_zero, List.set_cons_succ, List.size_toArray, List.all_cons, List.all_nil, List.drop_zero, List.drop_succ_cons, List.take_succ_cons, List.take_zero, List.mem_cons, Prod.mk.injEq, List.not_mem_nil, implies_true, List.getElem?_toArray, List.getElem?_cons_zero, List.getElem?_cons_succ, List.getElem?_nil, Option.getD_some, Option.getD_none, Nat.reduceEqDiff, reduceIte, Nat.reduceAdd, List.map_toArray, List.map_cons, List.map_nil, Bool.false_eq_true, Nat.reduceBEq, Option.map_some, Option.map_none, reduceCtorEq, ix62, ld26, ln62, st26]
    · rintro _ tm H1 ⟨h2, h3, rfl⟩
      have d1 : decide ((0 : Int) < -1) = false := by decide
      simp -implicitDefEqProofs only [kz, kk0, kk1, kk2, kk3, ↓two_true, ↓two_false, mkv, aggAt, Nat.reduceLeDiff, Nat.reduceSub, Nat.reduceMul, implies_true, Nat.reduceEqDiff, reduceIte, Nat.reduceAdd, Nat.reduceBEq, reduceCtorEq, ix62, ld26, ln62, st26, h2, h3, d1]
      exact ⟨xs, B, h⟩
  · have hbl : b < H.length := (List.getElem?_eq_some_iff.1 hb).1
    have hnb : ¬ B b := (h.fr 0 _ rfl b rfl).1
    have hlen : xs.length = n * 2 := t1.len
    have ho : o + n * 2 ≤ cs.length := ho
    rcases Nat.eq_zero_or_pos n with h0 | h0
    · subst h0
      obtain rfl : rs = [] := List.eq_nil_of_length_eq_zero hrl.symm
      refine w40 ?_
      unfold k40
      have w1 : IntKind.i64.wrap ((0 : Int) - 1) = -1 := by decide
      simp -implicitDefEqProofs only [kz, kk0, kk1, kk2, kk3, ↓two_true, ↓two_false, mkv, aggAt, Nat.reduceLeDiff, Nat.reduceSub, Nat.reduceMul, implies_true, Nat.reduceEqDiff, reduceIte, Nat.reduceAdd, Nat.reduceBEq, reduceCtorEq, ix62, ld26, ln62, st26, cast0, w1]
      refine rW_loop (σ := Unit) (fun _ tm H' => tm 2 = .int .i64 0 ∧ tm 3 = .int .i64 (-1) ∧ H' = H) (fun _ => 0) () ?_ ?_
      · simp -implicitDefEqProofs [kk0, kk1, kk2, kk3, rW_block, ↓two_true, ↓two_false, rW_cond, rO_guard, mkv, aggAt, Nat.reduceLeDiff, Nat.reduceSub, Nat.reduceMul, cond_true, cond_false, Option.bind_some, List.length_append, List.length_cons, List.length_nil, List.append_assoc, List.cons_append, List.nil_append, List.set_cons_zero, List.set_cons_succ, List.size_toArray, List.all_cons, List.all_nil, List.drop_zero, List.drop_succ_cons, List.take_succ_cons, List.take_zero, List.mem_cons, Prod.mk.injEq, List.not_mem_nil, implies_true, List.getElem?_toArray, List.getElem?_cons_zero, List.getElem?_cons_succ, List.getElem?_nil, Option.getD_some, Option.getD_none, Nat.reduceEqDiff, reduceIte, Nat.reduceAdd, List.map_toArray, List.map_cons, List.map_nil, Bool.false_eq_true, Nat.reduceBEq, Option.map_some, Option.map_none, reduceCtorEq, ix62, ld26, ln62, st26]
      · rintro _ tm H1 ⟨h2, h3, rfl⟩
        have d1 : decide ((0 : Int) < -1) = false := by decide
        simp -implicitDefEqProofs only [kz, kk0, kk1, kk2, kk3, ↓two_true, ↓two_false, mkv, aggAt, Nat.reduceLeDiff, Nat.reduceSub, Nat.reduceMul, implies_true, Nat.reduceEqDiff, reduceIte, Nat.reduceAdd, Nat.reduceBEq, reduceCtorEq, ix62, ld26, ln62, st26, h2, h3, d1]
        exact ⟨xs, B, h⟩
    refine (revT_ok hb ho h0 hn fun j hj => ?_).mono ?_
    · have hy := hc j _ (List.getElem?_eq_getElem (show j < xs.length by omega))
      have hk := t1.cell (j / 2) (j % 2) .r xs[j] (by omega) (by
        rcases Nat.mod_two_eq_zero_or_one j with e | e <;> rw [e] <;> rfl) (by
        show xs[j / 2 * 2 + j % 2]? = _
        rw [Nat.div_add_mod' j 2]; exact List.getElem?_eq_getElem (by omega))
      rw [hy]
      rcases hk.1 with ⟨e, _⟩ | ⟨b', o', cs2, e, _⟩
      · exact ⟨_, _, _, by rw [e]⟩
      · exact ⟨_, _, _, by rw [e]⟩
    · rintro _ _ ⟨cs', ⟨r1, r2⟩, rfl⟩
      have gx : ∀ m, m < n * 2 → ((List.range (n * 2)).map fun m => xs.getD ((n - 1 - m / 2) * 2 + m % 2) undef)[m]? = xs[(n - 1 - m / 2) * 2 + m % 2]? := fun m hm => by
        have : (n - 1 - m / 2) * 2 + m % 2 < xs.length := by omega
        rw [List.getElem?_map, List.getElem?_range hm, Option.map_some, List.getD_eq_getElem?_getD, List.getElem?_eq_getElem this, Option.getD_some]
      generalize hxs : ((List.range (n * 2)).map fun m => xs.getD ((n - 1 - m / 2) * 2 + m % 2) undef) = xs' at gx
      have lx : xs'.length = n * 2 := by rw [← hxs]; simp
      have gy : ∀ m y, xs'[m]? = some y → m < n * 2 ∧ xs[(n - 1 - m / 2) * 2 + m % 2]? = some y := fun m y hy => by
        have hm : m < n * 2 := by rw [← lx]; exact (List.getElem?_eq_some_iff.1 hy).1
        exact ⟨hm, by rw [← gx m hm]; exact hy⟩
      have hB : ∀ b', B b' → (H.set b (⟨cs', .own⟩ : Blk))[b']? = H[b']? := fun b' hb' => List.getElem?_set_ne (by rintro rfl; exact hnb hb')
      have t3 : TabOk B (H.set b ⟨cs', .own⟩) (.slice (some ⟨b, o, none⟩) n 2) [.r, .r] n xs' := by
        refine ⟨lx, .inr ⟨b, o, cs', rfl, List.getElem?_set_self hbl, by rw [r1]; exact ho, fun m y hy => ?_⟩, fun i c k y hi hk hy => ?_, fun y hy b' hb' => ?_⟩
        · obtain ⟨hm, g⟩ := gy m y hy
          have := r2 (m / 2) (m % 2) (by omega) (by omega)
          rw [if_pos (by omega), show o + m / 2 * 2 + m % 2 = o + m by omega, Nat.add_assoc] at this
          rw [this]
          exact hc _ _ g
        · have hcl : c < 2 := (List.getElem?_eq_some_iff.1 hk).1
          obtain ⟨hm, g⟩ := gy (i * 2 + c) y hy
          rw [show (i * 2 + c) / 2 = i by omega, show (i * 2 + c) % 2 = c by omega] at g
          exact (t1.cell (n - 1 - i) c k y (by omega) hk g).same fun b' hb' => get_rd (hB b' (t1.base y (List.mem_of_getElem? g) b' hb'))
        · obtain ⟨m, hm⟩ := List.mem_iff_getElem?.1 hy
          exact t1.base y (List.mem_of_getElem? (gy m y hm).2) b' hb'
      have v1 : cvs (H.set b ⟨cs', .own⟩) xs' = cvs H xs' := FRow.cvs_same fun b' ⟨y, hy, hb'⟩ => by
        obtain ⟨m, hm⟩ := List.mem_iff_getElem?.1 hy
        exact get_rd (hB b' (t1.base y (List.mem_of_getElem? (gy m y hm).2) b' hb'))
      have v2 : cvs H xs' = rowsV rs.reverse := by
        refine List.ext_getElem? fun m => ?_
        rcases Nat.lt_or_ge m (n * 2) with hm | hm
        · have e1 : (cvs H xs')[m]? = (rowsV rs)[(n - 1 - m / 2) * 2 + m % 2]? := by
            rw [← t2]; simp only [cvs, List.getElem?_map]; rw [gx m hm]
          have hk1 : n - 1 - m / 2 < rs.length := by omega
          have hk2 : m / 2 < rs.reverse.length := by rw [List.length_reverse]; omega
          obtain ⟨f1, f2⟩ := rowsV_get hk1
          obtain ⟨f3, f4⟩ := rowsV_get hk2
          have e2 : rs.reverse[m / 2] = rs[n - 1 - m / 2] := by rw [List.getElem_reverse]; congr 1; omega
          rw [e2] at f3 f4
          rw [e1]
          rcases Nat.mod_two_eq_zero_or_one m with e | e
          · rw [show m / 2 * 2 = m by omega] at f3
            rw [e, Nat.add_zero, f1, f3]
          · rw [show m / 2 * 2 + 1 = m by omega] at f4
            rw [e, f2, f4]
        · rw [List.getElem?_eq_none (by simp [cvs, lx, hm]), List.getElem?_eq_none (by rw [rowsV_len, List.length_reverse]; omega)]
      refine ⟨xs', B, ?_⟩
      have := h.upd (H' := H.set b ⟨cs', .own⟩) (x' := .tab (.slice (some ⟨b, o, none⟩) n 2) [.r, .r] n xs' (rowsV rs.reverse)) 0 rfl (by simp) (fun b' _ hb' => List.getElem?_set_ne (by rintro rfl; exact hb' rfl)) ⟨t3, v1.trans v2⟩ fun b' hb' => .inl hb'
      exact this

def turnR (sa da : List Int) : (List Int × List Int) × Int := if arrOk sa da = true then (if sa.length = 0 then ((sa, da), 0) else joinR (rowsR sa da).reverse sa.tail) else (([], []), 1)
theorem flatD_rev_len {rs : List (List Int × List Int)} : (flatD rs.reverse).length = (flatD rs).length := by
  induction rs with
  | nil => rfl
  | cons r rs ih =>
    unfold flatD at ih ⊢
    rw [List.reverse_cons, List.flatMap_append, List.length_append, ih]
    simp only [List.flatMap_cons, List.flatMap_nil, List.append_nil, List.length_append]
    omega

set_option maxHeartbeats 4000000 in
theorem implTurn_ok {H : AH} {pa qa : Value} {sa da : List Int} (a : AR H pa qa sa da) : CallsA Try.prog 13 #[.agg #[pa, qa]] H fun r H' => Ans1 H H' r (turnR sa da) := by
  have al := a.l1
  have bl := a.l2
  obtain ⟨za, zc, zb, zd, rfl, rfl⟩ := a.o1
  have q := (LX.nil (H := H))
  refine w13 ?_
  unfold k13
  simp -implicitDefEqProofs only [kz, kk0, kk1, kk2, kk3, ↓two_true, ↓two_false, mkv, aggAt, Nat.reduceLeDiff, Nat.reduceSub, Nat.reduceMul, implies_true, Nat.reduceEqDiff, reduceIte, Nat.reduceAdd, Nat.reduceBEq, reduceCtorEq, al26, bd26, fa26_0, ld24, ld26, ln24, sn24, sl24, st26]
  refine st_box q fun H1 q1 => ?_
  simp -implicitDefEqProofs only [kz, kk0, kk1, kk2, kk3, ↓two_true, ↓two_false, mkv, aggAt, Nat.reduceLeDiff, Nat.reduceSub, Nat.reduceMul, implies_true, Nat.reduceEqDiff, reduceIte, Nat.reduceAdd, Nat.reduceBEq, reduceCtorEq, al26, bd26, fa26_0, ld24, ld26, ln24, sn24, sl24, st26, q1.rd 0 rfl]
  refine st_box q1 fun H2 q2 => ?_
  simp -implicitDefEqProofs only [kz, kk0, kk1, kk2, kk3, ↓two_true, ↓two_false, mkv, aggAt, Nat.reduceLeDiff, Nat.reduceSub, Nat.reduceMul, implies_true, Nat.reduceEqDiff, reduceIte, Nat.reduceAdd, Nat.reduceBEq, reduceCtorEq, al26, bd26, fa26_0, ld24, ld26, ln24, sn24, sl24, st26, q2.rd 0 rfl, q2.rd 1 rfl]
  refine (implOk_ar (a.ext q2.ext)).mono ?_
  rintro _ H3 ⟨rfl, he1⟩
  have q3 := q2.extd he1
  simp -implicitDefEqProofs only [kz, kk0, kk1, kk2, kk3, ↓two_true, ↓two_false, mkv, aggAt, Nat.reduceLeDiff, Nat.reduceSub, Nat.reduceMul, implies_true, Nat.reduceEqDiff, reduceIte, Nat.reduceAdd, Nat.reduceBEq, reduceCtorEq, al26, bd26, fa26_0, ld24, ld26, ln24, sn24, sl24, st26, q3.rd 0 rfl, q3.rd 1 rfl]
  refine two_intro (fun u1 => ?_) (fun u1 => ?_)
  ·
    have w1 : arrOk sa da = false := by simpa using u1
    try simp -implicitDefEqProofs only [kz, kk0, kk1, kk2, kk3, ↓two_true, ↓two_false, mkv, aggAt, Nat.reduceLeDiff, Nat.reduceSub, Nat.reduceMul, implies_true, Nat.reduceEqDiff, reduceIte, Nat.reduceAdd, Nat.reduceBEq, reduceCtorEq, al26, bd26, fa26_0, ld24, ld26, ln24, sn24, sl24, st26, q3.rd 0 rfl, q3.rd 1 rfl]
    refine st_set q3 0 rfl fun H4 q4 => ?_
    simp only [List.set_cons_zero, List.set_cons_succ] at q4
    simp -implicitDefEqProofs only [kz, kk0, kk1, kk2, kk3, ↓two_true, ↓two_false, mkv, aggAt, Nat.reduceLeDiff, Nat.reduceSub, Nat.reduceMul, implies_true, Nat.reduceEqDiff, reduceIte, Nat.reduceAdd, Nat.reduceBEq, reduceCtorEq, al26, bd26, fa26_0, ld24, ld26, ln24, sn24, sl24, st26, q4.rd 0 rfl, q4.rd 1 rfl]
    -- end1
    exact q4.err (by unfold turnR; rw [w1]; rfl)
  ·
    have v1 : arrOk sa da = true := by simpa using u1
    have l1a := arrOk_len v1
    try simp -implicitDefEqProofs only [kz, kk0, kk1, kk2, kk3, ↓two_true, ↓two_false, mkv, aggAt, Nat.reduceLeDiff, Nat.reduceSub, Nat.reduceMul, implies_true, Nat.reduceEqDiff, reduceIte, Nat.reduceAdd, Nat.reduceBEq, reduceCtorEq, al26, bd26, fa26_0, ld24, ld26, ln24, sn24, sl24, st26, q3.rd 0 rfl, q3.rd 1 rfl]
    refine two_intro (fun u2 => ?_) (fun u2 => ?_)
    ·
      have h0 : sa.length = 0 := by simpa using u2
      try simp -implicitDefEqProofs only [kz, kk0, kk1, kk2, kk3, ↓two_true, ↓two_false, mkv, aggAt, Nat.reduceLeDiff, Nat.reduceSub, Nat.reduceMul, implies_true, Nat.reduceEqDiff, reduceIte, Nat.reduceAdd, Nat.reduceBEq, reduceCtorEq, al26, bd26, fa26_0, ld24, ld26, ln24, sn24, sl24, st26, q3.rd 0 rfl, q3.rd 1 rfl]
      refine (copyA_ok (a.ext q3.ext)).mono ?_
      rintro _ H5 ⟨p1, p2, rfl, g1⟩
      have q5 := q3.join g1
      simp only [List.map_cons, List.map_nil, List.cons_append, List.nil_append] at q5
      obtain ⟨a1, c1, rfl⟩ := (q5.own 0 rfl).isSlice
      obtain ⟨a2, c2, rfl⟩ := (q5.own 1 rfl).isSlice
      simp -implicitDefEqProofs only [kz, kk0, kk1, kk2, kk3, ↓two_true, ↓two_false, mkv, aggAt, Nat.reduceLeDiff, Nat.reduceSub, Nat.reduceMul, implies_true, Nat.reduceEqDiff, reduceIte, Nat.reduceAdd, Nat.reduceBEq, reduceCtorEq, al26, bd26, fa26_0, ld24, ld26, ln24, sn24, sl24, st26, q5.rd 2 rfl, q5.rd 3 rfl]
      refine st_set q5 2 rfl fun H6 q6 => ?_
      simp only [List.set_cons_zero, List.set_cons_succ] at q6
      simp -implicitDefEqProofs only [kz, kk0, kk1, kk2, kk3, ↓two_true, ↓two_false, mkv, aggAt, Nat.reduceLeDiff, Nat.reduceSub, Nat.reduceMul, implies_true, Nat.reduceEqDiff, reduceIte, Nat.reduceAdd, Nat.reduceBEq, reduceCtorEq, al26, bd26, fa26_0, ld24, ld26, ln24, sn24, sl24, st26, q6.rd 2 rfl, q6.rd 3 rfl]
      -- end2
      exact q6.ans 0 1 (by decide) rfl rfl (by unfold turnR; rw [v1, if_pos rfl, if_pos h0])
    ·
      have hne : sa.length ≠ 0 := by simpa using u2
      obtain ⟨ma1, ma2, ma3⟩ := rowsR_lim v1 hne
      try simp -implicitDefEqProofs only [kz, kk0, kk1, kk2, kk3, ↓two_true, ↓two_false, mkv, aggAt, Nat.reduceLeDiff, Nat.reduceSub, Nat.reduceMul, implies_true, Nat.reduceEqDiff, reduceIte, Nat.reduceAdd, Nat.reduceBEq, reduceCtorEq, al26, bd26, fa26_0, ld24, ld26, ln24, sn24, sl24, st26, q3.rd 0 rfl, q3.rd 1 rfl]
      refine (implRows_ok (a.ext q3.ext)).mono ?_
      rintro rv1 H7 ⟨⟨ys1, nw1, cv1⟩, he2⟩
      rw [show rowsA sa da = (rowsR sa da) by unfold rowsA; rw [v1]; rfl] at nw1 cv1
      have q7 := q3.nrowsO nw1 cv1 he2
      obtain ⟨a3, c3, rfl, -⟩ := (q7.rowsT 0 rfl).1
      simp -implicitDefEqProofs only [kz, kk0, kk1, kk2, kk3, ↓two_true, ↓two_false, mkv, aggAt, Nat.reduceLeDiff, Nat.reduceSub, Nat.reduceMul, implies_true, Nat.reduceEqDiff, reduceIte, Nat.reduceAdd, Nat.reduceBEq, reduceCtorEq, al26, bd26, fa26_0, ld24, ld26, ln24, sn24, sl24, st26, q7.rd 1 rfl, q7.rd 2 rfl]
      refine (LX.turn q7 (by omega)).mono ?_
      rintro _ H8 ⟨ys2, q8⟩
      obtain ⟨a4, c4, ev1, hv1⟩ := IntRow.tl a.os (by omega)
      simp -implicitDefEqProofs only [kz, kk0, kk1, kk2, kk3, ↓two_true, ↓two_false, mkv, aggAt, Nat.reduceLeDiff, Nat.reduceSub, Nat.reduceMul, implies_true, Nat.reduceEqDiff, reduceIte, Nat.reduceAdd, Nat.reduceBEq, reduceCtorEq, al26, bd26, fa26_0, ld24, ld26, ln24, sn24, sl24, st26, ev1, q8.rd 1 rfl, q8.rd 2 rfl]
      refine (joined_ok (q8.rowsT 0 rfl).1 (hv1.ext q8.ext) (by simp; omega) (by simp; omega) (by rw [flatD_rev_len, rows_flat v1 hne]; omega) ).mono ?_
      rintro _ H9 ⟨p3, p4, rfl, g2⟩
      obtain ⟨R1, hR1⟩ : ∃ R, joinR (rowsR sa da).reverse sa.tail = R := ⟨_, rfl⟩
      rw [hR1] at g2 ⊢
      have q9 := q8.join g2
      simp only [List.map_cons, List.map_nil, List.cons_append, List.nil_append] at q9
      obtain ⟨a5, c5, rfl⟩ := (q9.own 0 rfl).isSlice
      obtain ⟨a6, c6, rfl⟩ := (q9.own 1 rfl).isSlice
      simp -implicitDefEqProofs only [kz, kk0, kk1, kk2, kk3, ↓two_true, ↓two_false, mkv, aggAt, Nat.reduceLeDiff, Nat.reduceSub, Nat.reduceMul, implies_true, Nat.reduceEqDiff, reduceIte, Nat.reduceAdd, Nat.reduceBEq, reduceCtorEq, al26, bd26, fa26_0, ld24, ld26, ln24, sn24, sl24, st26, ev1, q9.rd 3 rfl, q9.rd 4 rfl]
      refine st_set q9 3 rfl fun H10 q10 => ?_
      simp only [List.set_cons_zero, List.set_cons_succ] at q10
      simp -implicitDefEqProofs only [kz, kk0, kk1, kk2, kk3, ↓two_true, ↓two_false, mkv, aggAt, Nat.reduceLeDiff, Nat.reduceSub, Nat.reduceMul, implies_true, Nat.reduceEqDiff, reduceIte, Nat.reduceAdd, Nat.reduceBEq, reduceCtorEq, al26, bd26, fa26_0, ld24, ld26, ln24, sn24, sl24, st26, ev1, q10.rd 3 rfl, q10.rd 4 rfl]
      -- end3
      exact q10.ans 0 1 (by decide) rfl rfl (by unfold turnR; rw [v1, if_pos rfl, if_neg hne]; exact hR1)

theorem wrap0W : IntKind.i64.wrap 0 = 0 := by decide
theorem mem_iotaW {n : Nat} {x : Int} (h : x ∈ iotaL n) : 0 ≤ x ∧ x < n := by
  simp [iotaL] at h
  obtain ⟨i, hi, rfl⟩ := h
  omega
theorem arrOk_iotaW {n : Nat} {l : List Int} (h : n ≤ 300) (hl : l.length = n) (hm : ∀ x ∈ l, 0 ≤ x ∧ x < n) : arrOk [(n : Int)] l = true := by
  unfold arrOk
  simp only [Bool.and_eq_true, beq_iff_eq]
  refine ⟨by rw [hl]; exact (sizeI_one (by omega)).symm, List.all_eq_true.2 fun x hx => numOk_iff.2 ?_⟩
  have := hm x hx
  omega
theorem iota_oneW {n : Nat} (h : n ≤ 300) : iotaR [] [(n : Int)] = (([(n : Int)], iotaL n), 0) := by
  unfold iotaR
  rw [if_pos (arrOk_scl (numOk_iff.2 (by omega))), if_neg (by simp), if_neg (by simp only [List.headD_cons]; omega), if_neg (by simp only [List.headD_cons]; omega)]
  simp only [List.headD_cons, Int.toNat_natCast, iotaL_len]
theorem flatD_one : ∀ {l : List Int}, flatD (l.map fun x => (([] : List Int), [x])) = l
  | [] => rfl
  | x :: t => by
    have e := flatD_one (l := t)
    unfold flatD at e ⊢
    rw [List.map_cons, List.flatMap_cons, e]; rfl
theorem turn_iota {n : Nat} (h : n ≤ 300) : turnR [(n : Int)] (iotaL n) = (([(n : Int)], (iotaL n).reverse), 0) := by
  unfold turnR
  rw [if_pos (arrOk_iotaW h iotaL_len fun x hx => mem_iotaW hx), if_neg (by simp), rowsR_vec iotaL_len, ← List.map_reverse]
  unfold joinR
  have hl : ((iotaL n).reverse.map fun x => (([] : List Int), [x])).length = n := by simp [iotaL_len]
  rw [hl, flatD_one]
  show (if arrOk [(n : Int)] (iotaL n).reverse = true then _ else _) = _
  rw [if_pos (arrOk_iotaW h (by simp [iotaL_len]) fun x hx => mem_iotaW (by simpa using hx))]; rfl
theorem rows_pick {rs : List (List Int × List Int)} {n : Nat} (hn : rs.length = n) : ∀ {l : List Int}, (∀ x ∈ l, 0 ≤ x ∧ x < n) → pickD n rs l = flatD (l.map fun x => (rs[x.toNat]?).getD ([], []))
  | [], _ => rfl
  | x :: t, h => by
    have hx := h x (List.mem_cons_self ..)
    have e := rows_pick hn (l := t) fun y hy => h y (List.mem_cons_of_mem _ hy)
    unfold pickD flatD at e ⊢
    rw [List.flatMap_cons, e, List.map_cons, List.flatMap_cons]
    have : idxP n x = x := by unfold idxP; rw [if_neg (by omega)]
    rw [this]
theorem iota_rows {rs : List (List Int × List Int)} {n : Nat} (hn : rs.length = n) : ((iotaL n).map fun x => (rs[x.toNat]?).getD ([], [])) = rs := by
  refine List.ext_getElem (by simp [iotaL_len, hn]) fun k h1 h2 => ?_
  simp only [iotaL, List.getElem_map, List.getElem_range, Int.toNat_natCast]
  rw [List.getElem?_eq_getElem h2, Option.getD_some]
theorem pick_in {sa da l : List Int} {n : Nat} (ha : arrOk sa da = true) (hne : sa.length ≠ 0) (hn : (rowsR sa da).length = n) (hl : l.length = n) (hm : ∀ x ∈ l, 0 ≤ x ∧ x < n) : pickR [(n : Int)] l sa da = ((sa, flatD (l.map fun x => ((rowsR sa da)[x.toNat]?).getD ([], []))), 0) := by
  obtain ⟨m1, m2, m3⟩ := rowsR_lim ha hne
  have hd : sa.headD 0 = (n : Int) := by rw [← m2, hn]
  have hsa : (n : Int) :: sa.tail = sa := by
    rw [← hd]
    cases sa with
    | nil => exact absurd rfl hne
    | cons x tl => rfl
  have h3 := arrOk_size ha
  have hlen := (sizeI_ok (l := sa) (by omega)).1
  unfold pickR
  rw [if_pos (by rw [ha, arrOk_iotaW (by omega) hl hm]; rfl), if_neg (by simp only [List.length_cons, List.length_nil]; omega)]
  rw [if_pos (List.all_eq_true.2 fun x hx => by
    have hx2 := hm x hx
    rw [hd]
    have : idxP n x = x := by unfold idxP; rw [if_neg (by omega)]
    rw [this]; exact inB_true.2 (by omega))]
  have hs : ([(n : Int)] ++ sa.tail) = sa := hsa
  rw [hs, if_neg (by omega), hd, rows_pick hn hm]
theorem pick_iota {sa da : List Int} {n : Nat} (ha : arrOk sa da = true) (hne : sa.length ≠ 0) (hn : (rowsR sa da).length = n) : pickR [(n : Int)] (iotaL n) sa da = ((sa, da), 0) := by
  rw [pick_in ha hne hn iotaL_len fun x hx => mem_iotaW hx, iota_rows hn, rows_flat ha hne]
theorem pick_riota {sa da : List Int} {n : Nat} (ha : arrOk sa da = true) (hne : sa.length ≠ 0) (hn : (rowsR sa da).length = n) : pickR [(n : Int)] (iotaL n).reverse sa da = ((sa, flatD (rowsR sa da).reverse), 0) := by
  rw [pick_in ha hne hn (by simp [iotaL_len]) fun x hx => mem_iotaW (by simpa using hx), List.map_reverse, iota_rows hn]
theorem turn_all {sa da : List Int} (ha : arrOk sa da = true) (hne : sa.length ≠ 0) : turnR sa da = ((sa, flatD (rowsR sa da).reverse), 0) := by
  obtain ⟨m1, m2, m3⟩ := rowsR_lim ha hne
  have hsa : sa.headD 0 :: sa.tail = sa := by
    cases sa with
    | nil => exact absurd rfl hne
    | cons x tl => rfl
  unfold turnR
  rw [if_pos ha, if_neg hne]
  unfold joinR
  rw [List.length_reverse, m2, hsa]
  have h3 := arrOk_size ha
  have hf : (flatD (rowsR sa da).reverse).length = da.length := by rw [flatD_rev_len, rows_flat ha hne]
  have hok : arrOk sa (flatD (rowsR sa da).reverse) = true := by
    have ha2 := ha
    unfold arrOk at ha2 ⊢
    simp only [Bool.and_eq_true, beq_iff_eq] at ha2 ⊢
    refine ⟨by rw [hf]; exact ha2.1, List.all_eq_true.2 fun x hx => ?_⟩
    unfold flatD at hx
    rw [List.mem_flatMap] at hx
    obtain ⟨r, hr, hx⟩ := hx
    exact List.all_eq_true.1 (m3 r (by simpa using hr)).2.2.2.2 x hx
  rw [if_pos hok]
theorem flipR_two {sa da dt : List Int} : (flipR sa da dt).2 = (if arrOk sa da = true then 0 else 1) := by
  unfold flipR; split <;> rfl
theorem flipR_err {sa da dt : List Int} (h : ¬ arrOk sa da = true) : (flipR sa da dt).1.2 = [] := by
  unfold flipR; rw [if_neg h]
theorem flipR_len {sa da dt : List Int} (hs : sa.length ≤ 1048576) (hd : da.length ≤ 1048576) (h : arrOk sa da = true → dt.length = da.length) : (flipR sa da dt).1.1.length ≤ 1048576 ∧ (flipR sa da dt).1.2.length ≤ 1048576 := by
  unfold flipR
  by_cases c : arrOk sa da = true
  · rw [if_pos c]; have := h c; simp; omega
  · rw [if_neg c]; simp

set_option maxHeartbeats 4000000 in
theorem law3 : LawA Try.prog 3 [22] := by
  intro H vs hro h
  obtain ⟨v, vs, rfl, hv, h2⟩ := h.cons
  obtain rfl := h2.nil
  obtain ⟨a0, n0, c0, rfl, hb⟩ := rpBytes hv Try.underlying22 Try.underlying5 (by kernel_rfl)
  clear hv h2 hro
  have q := (LX.nil (H := H))
  refine w3 ?_
  unfold k3
  simp -implicitDefEqProofs only [kz, kk0, kk1, kk2, kk3, ↓two_true, ↓two_false, mkv, aggAt, Nat.reduceLeDiff, Nat.reduceSub, Nat.reduceMul, implies_true, Nat.reduceEqDiff, reduceIte, Nat.reduceAdd, Nat.reduceBEq, reduceCtorEq, al26, fa26_0, fa26_1, ix24, ld3, ld24, ld26, ln24, st26, big_eq, bne_self_eq_false, beq_self_eq_true, Bool.and_self, cast0, Int.add_zero, wrap0W]
  refine two_intro (fun u1 => ?_) (fun u1 => ?_)
  ·
    try simp -implicitDefEqProofs only [kz, kk0, kk1, kk2, kk3, ↓two_true, ↓two_false, mkv, aggAt, Nat.reduceLeDiff, Nat.reduceSub, Nat.reduceMul, implies_true, Nat.reduceEqDiff, reduceIte, Nat.reduceAdd, Nat.reduceBEq, reduceCtorEq, al26, fa26_0, fa26_1, ix24, ld3, ld24, ld26, ln24, st26, big_eq, bne_self_eq_false, beq_self_eq_true, Bool.and_self, cast0, Int.add_zero, wrap0W]
    -- end1
    all_goals trivial
  ·
    have hn0 : n0 ≤ 1048576 := by simp at u1; omega
    try simp -implicitDefEqProofs only [kz, kk0, kk1, kk2, kk3, ↓two_true, ↓two_false, mkv, aggAt, Nat.reduceLeDiff, Nat.reduceSub, Nat.reduceMul, implies_true, Nat.reduceEqDiff, reduceIte, Nat.reduceAdd, Nat.reduceBEq, reduceCtorEq, al26, fa26_0, fa26_1, ix24, ld3, ld24, ld26, ln24, st26, big_eq, bne_self_eq_false, beq_self_eq_true, Bool.and_self, cast0, Int.add_zero, wrap0W]
    refine (DrawFlip_ok (BRv.ext ⟨a0, n0, c0, rfl, hn0, hb⟩ q.ext)).mono ?_
    rintro _ H1 ⟨p1, p2, sa, da, rfl, g1, lsa, lda⟩
    have q1 := q.join g1
    simp only [List.map_cons, List.map_nil, List.cons_append, List.nil_append] at q1
    obtain ⟨a1, c1, rfl⟩ := (q1.own 0 rfl).isSlice
    obtain ⟨a2, c2, rfl⟩ := (q1.own 1 rfl).isSlice
    simp -implicitDefEqProofs only [kz, kk0, kk1, kk2, kk3, ↓two_true, ↓two_false, mkv, aggAt, Nat.reduceLeDiff, Nat.reduceSub, Nat.reduceMul, implies_true, Nat.reduceEqDiff, reduceIte, Nat.reduceAdd, Nat.reduceBEq, reduceCtorEq, al26, fa26_0, fa26_1, ix24, ld3, ld24, ld26, ln24, st26, big_eq, bne_self_eq_false, beq_self_eq_true, Bool.and_self, cast0, Int.add_zero, wrap0W]
    refine st_box q1 fun H2 q2 => ?_
    simp -implicitDefEqProofs only [kz, kk0, kk1, kk2, kk3, ↓two_true, ↓two_false, mkv, aggAt, Nat.reduceLeDiff, Nat.reduceSub, Nat.reduceMul, implies_true, Nat.reduceEqDiff, reduceIte, Nat.reduceAdd, Nat.reduceBEq, reduceCtorEq, al26, fa26_0, fa26_1, ix24, ld3, ld24, ld26, ln24, st26, big_eq, bne_self_eq_false, beq_self_eq_true, Bool.and_self, cast0, Int.add_zero, wrap0W, q2.rd 0 rfl]
    refine st_set q2 0 rfl fun H3 q3 => ?_
    simp only [List.set_cons_zero, List.set_cons_succ] at q3
    obtain ⟨cd, hcd⟩ : ∃ c : Int, (if arrOk sa da = true then (0 : Int) else 1) = c := ⟨_, rfl⟩
    simp -implicitDefEqProofs only [kz, kk0, kk1, kk2, kk3, ↓two_true, ↓two_false, mkv, aggAt, Nat.reduceLeDiff, Nat.reduceSub, Nat.reduceMul, implies_true, Nat.reduceEqDiff, reduceIte, Nat.reduceAdd, Nat.reduceBEq, reduceCtorEq, al26, fa26_0, fa26_1, ix24, ld3, ld24, ld26, ln24, st26, big_eq, bne_self_eq_false, beq_self_eq_true, Bool.and_self, cast0, Int.add_zero, wrap0W, q3.rd 0 rfl]
    refine (implFlip_ok (q3.ar 1 2 rfl rfl (by (try simp only [List.length_cons, List.length_nil, List.length_append, List.length_replicate, List.length_map, List.length_take, List.length_drop]); omega) (by (try simp only [List.length_cons, List.length_nil, List.length_append, List.length_replicate, List.length_map, List.length_take, List.length_drop]); omega))).mono ?_
    rintro _ H4 ⟨dt1, hdt1, p3, p4, rfl, g2⟩
    obtain ⟨hfl1, hfd1⟩ := flipR_len (sa := sa) (by omega) (by omega) hdt1
    have hf21 := flipR_two (sa := sa) (da := da) (dt := dt1)
    obtain ⟨R1, hR1⟩ : ∃ R, flipR sa da dt1 = R := ⟨_, rfl⟩
    rw [hR1] at g2 hfl1 hfd1 hf21 ⊢
    rw [hf21, hcd]
    have q4 := q3.join g2
    simp only [List.map_cons, List.map_nil, List.cons_append, List.nil_append] at q4
    obtain ⟨a3, c3, rfl⟩ := (q4.own 0 rfl).isSlice
    obtain ⟨a4, c4, rfl⟩ := (q4.own 1 rfl).isSlice
    simp -implicitDefEqProofs only [kz, kk0, kk1, kk2, kk3, ↓two_true, ↓two_false, mkv, aggAt, Nat.reduceLeDiff, Nat.reduceSub, Nat.reduceMul, implies_true, Nat.reduceEqDiff, reduceIte, Nat.reduceAdd, Nat.reduceBEq, reduceCtorEq, al26, fa26_0, fa26_1, ix24, ld3, ld24, ld26, ln24, st26, big_eq, bne_self_eq_false, beq_self_eq_true, Bool.and_self, cast0, Int.add_zero, wrap0W, q4.rd 2 rfl]
    refine st_box q4 fun H5 q5 => ?_
    simp -implicitDefEqProofs only [kz, kk0, kk1, kk2, kk3, ↓two_true, ↓two_false, mkv, aggAt, Nat.reduceLeDiff, Nat.reduceSub, Nat.reduceMul, implies_true, Nat.reduceEqDiff, reduceIte, Nat.reduceAdd, Nat.reduceBEq, reduceCtorEq, al26, fa26_0, fa26_1, ix24, ld3, ld24, ld26, ln24, st26, big_eq, bne_self_eq_false, beq_self_eq_true, Bool.and_self, cast0, Int.add_zero, wrap0W, q5.rd 0 rfl, q5.rd 3 rfl]
    refine st_set q5 0 rfl fun H6 q6 => ?_
    simp only [List.set_cons_zero, List.set_cons_succ] at q6
    simp -implicitDefEqProofs only [kz, kk0, kk1, kk2, kk3, ↓two_true, ↓two_false, mkv, aggAt, Nat.reduceLeDiff, Nat.reduceSub, Nat.reduceMul, implies_true, Nat.reduceEqDiff, reduceIte, Nat.reduceAdd, Nat.reduceBEq, reduceCtorEq, al26, fa26_0, fa26_1, ix24, ld3, ld24, ld26, ln24, st26, big_eq, bne_self_eq_false, beq_self_eq_true, Bool.and_self, cast0, Int.add_zero, wrap0W, q6.rd 0 rfl, q6.rd 3 rfl]
    refine (specFlip_ok (q6.ar 4 5 rfl rfl (by (try simp only [List.length_cons, List.length_nil, List.length_append, List.length_replicate, List.length_map, List.length_take, List.length_drop]); omega) (by (try simp only [List.length_cons, List.length_nil, List.length_append, List.length_replicate, List.length_map, List.length_take, List.length_drop]); omega))).mono ?_
    rintro _ H7 ⟨dt2, hdt2, p5, p6, rfl, g3⟩
    obtain ⟨hfl2, hfd2⟩ := flipR_len (sa := sa) (by omega) (by omega) hdt2
    have hf22 := flipR_two (sa := sa) (da := da) (dt := dt2)
    obtain ⟨R2, hR2⟩ : ∃ R, flipR sa da dt2 = R := ⟨_, rfl⟩
    rw [hR2] at g3 hfl2 hfd2 hf22 ⊢
    rw [hf22, hcd]
    have q7 := q6.join g3
    simp only [List.map_cons, List.map_nil, List.cons_append, List.nil_append] at q7
    obtain ⟨a5, c5, rfl⟩ := (q7.own 0 rfl).isSlice
    obtain ⟨a6, c6, rfl⟩ := (q7.own 1 rfl).isSlice
    simp -implicitDefEqProofs only [kz, kk0, kk1, kk2, kk3, ↓two_true, ↓two_false, mkv, aggAt, Nat.reduceLeDiff, Nat.reduceSub, Nat.reduceMul, implies_true, Nat.reduceEqDiff, reduceIte, Nat.reduceAdd, Nat.reduceBEq, reduceCtorEq, al26, fa26_0, fa26_1, ix24, ld3, ld24, ld26, ln24, st26, big_eq, bne_self_eq_false, beq_self_eq_true, Bool.and_self, cast0, Int.add_zero, wrap0W, q7.rd 2 rfl, q7.rd 5 rfl]
    refine st_box q7 fun H8 q8 => ?_
    simp -implicitDefEqProofs only [kz, kk0, kk1, kk2, kk3, ↓two_true, ↓two_false, mkv, aggAt, Nat.reduceLeDiff, Nat.reduceSub, Nat.reduceMul, implies_true, Nat.reduceEqDiff, reduceIte, Nat.reduceAdd, Nat.reduceBEq, reduceCtorEq, al26, fa26_0, fa26_1, ix24, ld3, ld24, ld26, ln24, st26, big_eq, bne_self_eq_false, beq_self_eq_true, Bool.and_self, cast0, Int.add_zero, wrap0W, q8.rd 0 rfl, q8.rd 3 rfl, q8.rd 6 rfl]
    refine st_set q8 0 rfl fun H9 q9 => ?_
    simp only [List.set_cons_zero, List.set_cons_succ] at q9
    simp -implicitDefEqProofs only [kz, kk0, kk1, kk2, kk3, ↓two_true, ↓two_false, mkv, aggAt, Nat.reduceLeDiff, Nat.reduceSub, Nat.reduceMul, implies_true, Nat.reduceEqDiff, reduceIte, Nat.reduceAdd, Nat.reduceBEq, reduceCtorEq, al26, fa26_0, fa26_1, ix24, ld3, ld24, ld26, ln24, st26, big_eq, bne_self_eq_false, beq_self_eq_true, Bool.and_self, cast0, Int.add_zero, wrap0W, q9.rd 0 rfl, q9.rd 3 rfl, q9.rd 6 rfl]
    refine two_intro (fun u2 => ?_) (fun u2 => ?_)
    ·
      have hcn : cd ≠ 0 := by simpa using u2
      have hRn : R1.1.2 = [] := by rw [← hR1]; exact flipR_err (fun hv => hcn (by rw [← hcd, if_pos hv]))
      try simp -implicitDefEqProofs only [kz, kk0, kk1, kk2, kk3, ↓two_true, ↓two_false, mkv, aggAt, Nat.reduceLeDiff, Nat.reduceSub, Nat.reduceMul, implies_true, Nat.reduceEqDiff, reduceIte, Nat.reduceAdd, Nat.reduceBEq, reduceCtorEq, al26, fa26_0, fa26_1, ix24, ld3, ld24, ld26, ln24, st26, big_eq, bne_self_eq_false, beq_self_eq_true, Bool.and_self, cast0, Int.add_zero, wrap0W, q9.rd 0 rfl, q9.rd 3 rfl, q9.rd 6 rfl]
      refine two_intro (fun u3 => ?_) (fun u3 => ?_)
      ·
        try simp -implicitDefEqProofs only [kz, kk0, kk1, kk2, kk3, ↓two_true, ↓two_false, mkv, aggAt, Nat.reduceLeDiff, Nat.reduceSub, Nat.reduceMul, implies_true, Nat.reduceEqDiff, reduceIte, Nat.reduceAdd, Nat.reduceBEq, reduceCtorEq, al26, fa26_0, fa26_1, ix24, ld3, ld24, ld26, ln24, st26, big_eq, bne_self_eq_false, beq_self_eq_true, Bool.and_self, cast0, Int.add_zero, wrap0W, q9.rd 0 rfl, q9.rd 3 rfl, q9.rd 6 rfl]
        -- end2
        all_goals first | trivial | (simp; done) | (simp [hRn]; done) | (simp [hc0]; done) | (subst hc0; exact absurd ‹((0 : Int) == 0) = false› (by decide))
      ·
        try simp -implicitDefEqProofs only [kz, kk0, kk1, kk2, kk3, ↓two_true, ↓two_false, mkv, aggAt, Nat.reduceLeDiff, Nat.reduceSub, Nat.reduceMul, implies_true, Nat.reduceEqDiff, reduceIte, Nat.reduceAdd, Nat.reduceBEq, reduceCtorEq, al26, fa26_0, fa26_1, ix24, ld3, ld24, ld26, ln24, st26, big_eq, bne_self_eq_false, beq_self_eq_true, Bool.and_self, cast0, Int.add_zero, wrap0W, q9.rd 0 rfl, q9.rd 3 rfl, q9.rd 6 rfl]
        -- end3
        all_goals first | trivial | (simp; done) | (simp [hRn]; done) | (simp [hc0]; done) | (subst hc0; exact absurd ‹((0 : Int) == 0) = false› (by decide))
    ·
      have hc0 : cd = 0 := by simpa using u2
      try simp -implicitDefEqProofs only [kz, kk0, kk1, kk2, kk3, ↓two_true, ↓two_false, mkv, aggAt, Nat.reduceLeDiff, Nat.reduceSub, Nat.reduceMul, implies_true, Nat.reduceEqDiff, reduceIte, Nat.reduceAdd, Nat.reduceBEq, reduceCtorEq, al26, fa26_0, fa26_1, ix24, ld3, ld24, ld26, ln24, st26, big_eq, bne_self_eq_false, beq_self_eq_true, Bool.and_self, cast0, Int.add_zero, wrap0W, q9.rd 0 rfl, q9.rd 3 rfl, q9.rd 6 rfl]
      refine two_intro (fun u4 => ?_) (fun u4 => ?_)
      ·
        try simp -implicitDefEqProofs only [kz, kk0, kk1, kk2, kk3, ↓two_true, ↓two_false, mkv, aggAt, Nat.reduceLeDiff, Nat.reduceSub, Nat.reduceMul, implies_true, Nat.reduceEqDiff, reduceIte, Nat.reduceAdd, Nat.reduceBEq, reduceCtorEq, al26, fa26_0, fa26_1, ix24, ld3, ld24, ld26, ln24, st26, big_eq, bne_self_eq_false, beq_self_eq_true, Bool.and_self, cast0, Int.add_zero, wrap0W, q9.rd 0 rfl, q9.rd 3 rfl, q9.rd 6 rfl]
        refine two_intro (fun u5 => ?_) (fun u5 => ?_)
        ·
          try simp -implicitDefEqProofs only [kz, kk0, kk1, kk2, kk3, ↓two_true, ↓two_false, mkv, aggAt, Nat.reduceLeDiff, Nat.reduceSub, Nat.reduceMul, implies_true, Nat.reduceEqDiff, reduceIte, Nat.reduceAdd, Nat.reduceBEq, reduceCtorEq, al26, fa26_0, fa26_1, ix24, ld3, ld24, ld26, ln24, st26, big_eq, bne_self_eq_false, beq_self_eq_true, Bool.and_self, cast0, Int.add_zero, wrap0W, q9.rd 0 rfl, q9.rd 3 rfl, q9.rd 6 rfl]
          -- end4
          all_goals first | trivial | (simp; done) | (simp [hRn]; done) | (simp [hc0]; done) | (subst hc0; exact absurd ‹((0 : Int) == 0) = false› (by decide))
        ·
          try simp -implicitDefEqProofs only [kz, kk0, kk1, kk2, kk3, ↓two_true, ↓two_false, mkv, aggAt, Nat.reduceLeDiff, Nat.reduceSub, Nat.reduceMul, implies_true, Nat.reduceEqDiff, reduceIte, Nat.reduceAdd, Nat.reduceBEq, reduceCtorEq, al26, fa26_0, fa26_1, ix24, ld3, ld24, ld26, ln24, st26, big_eq, bne_self_eq_false, beq_self_eq_true, Bool.and_self, cast0, Int.add_zero, wrap0W, q9.rd 0 rfl, q9.rd 3 rfl, q9.rd 6 rfl]
          -- end5
          all_goals first | trivial | (simp; done) | (simp [hRn]; done) | (simp [hc0]; done) | (subst hc0; exact absurd ‹((0 : Int) == 0) = false› (by decide))
      ·
        have hne : sa.length ≠ 0 := by simpa using u4
        have v1 : arrOk sa da = true := Classical.byContradiction fun hnv => by rw [if_neg hnv] at hcd; omega
        obtain ⟨m1, m2, m3⟩ := rowsR_lim v1 hne
        obtain ⟨n, hn⟩ : ∃ n, (rowsR sa da).length = n := ⟨_, rfl⟩
        have hn3 : n ≤ 300 := by omega
        have hd1 : sa[0] = (n : Int) := by rw [← headD_get (by omega), ← m2, hn]
        have l1a := arrOk_len v1
        have hil : (iotaL n).length ≤ 1048576 := by rw [iotaL_len]; omega
        have hir : (iotaL n).reverse.length ≤ 1048576 := by rw [List.length_reverse]; exact hil
        have hfr : (flatD (rowsR sa da).reverse).length ≤ 1048576 := by rw [flatD_rev_len, rows_flat v1 hne]; omega
        obtain ⟨b1, o1, cs1, ei1, fr1, fc1⟩ := ixI0 (q9.int 7 rfl) (List.getElem?_eq_getElem (show 0 < sa.length by omega))
        try simp -implicitDefEqProofs only [kz, kk0, kk1, kk2, kk3, ↓two_true, ↓two_false, mkv, aggAt, Nat.reduceLeDiff, Nat.reduceSub, Nat.reduceMul, implies_true, Nat.reduceEqDiff, reduceIte, Nat.reduceAdd, Nat.reduceBEq, reduceCtorEq, al26, fa26_0, fa26_1, ix24, ld3, ld24, ld26, ln24, st26, big_eq, bne_self_eq_false, beq_self_eq_true, Bool.and_self, cast0, Int.add_zero, wrap0W, hd1, ei1, fr1, fc1, q9.rd 0 rfl, q9.rd 3 rfl, q9.rd 6 rfl]
        refine (scalarOf_ok (x := (n : Int)) (numOk_iff.2 (by omega))).mono ?_
        rintro _ H10 ⟨sb1, rfl, g4⟩
        have q10 := q9.join g4
        simp only [List.map_cons, List.map_nil, List.cons_append, List.nil_append] at q10
        simp -implicitDefEqProofs only [kz, kk0, kk1, kk2, kk3, ↓two_true, ↓two_false, mkv, aggAt, Nat.reduceLeDiff, Nat.reduceSub, Nat.reduceMul, implies_true, Nat.reduceEqDiff, reduceIte, Nat.reduceAdd, Nat.reduceBEq, reduceCtorEq, al26, fa26_0, fa26_1, ix24, ld3, ld24, ld26, ln24, st26, big_eq, bne_self_eq_false, beq_self_eq_true, Bool.and_self, cast0, Int.add_zero, wrap0W, hd1, q10.rd 1 rfl, q10.rd 4 rfl, q10.rd 7 rfl]
        refine st_box q10 fun H11 q11 => ?_
        simp -implicitDefEqProofs only [kz, kk0, kk1, kk2, kk3, ↓two_true, ↓two_false, mkv, aggAt, Nat.reduceLeDiff, Nat.reduceSub, Nat.reduceMul, implies_true, Nat.reduceEqDiff, reduceIte, Nat.reduceAdd, Nat.reduceBEq, reduceCtorEq, al26, fa26_0, fa26_1, ix24, ld3, ld24, ld26, ln24, st26, big_eq, bne_self_eq_false, beq_self_eq_true, Bool.and_self, cast0, Int.add_zero, wrap0W, hd1, q11.rd 0 rfl, q11.rd 2 rfl, q11.rd 5 rfl, q11.rd 8 rfl]
        refine st_set q11 0 rfl fun H12 q12 => ?_
        simp only [List.set_cons_zero, List.set_cons_succ] at q12
        simp -implicitDefEqProofs only [kz, kk0, kk1, kk2, kk3, ↓two_true, ↓two_false, mkv, aggAt, Nat.reduceLeDiff, Nat.reduceSub, Nat.reduceMul, implies_true, Nat.reduceEqDiff, reduceIte, Nat.reduceAdd, Nat.reduceBEq, reduceCtorEq, al26, fa26_0, fa26_1, ix24, ld3, ld24, ld26, ln24, st26, big_eq, bne_self_eq_false, beq_self_eq_true, Bool.and_self, cast0, Int.add_zero, wrap0W, hd1, q12.rd 0 rfl, q12.rd 2 rfl, q12.rd 5 rfl, q12.rd 8 rfl]
        have hk1 := implIota_ok (AR.mk (OwnRow.nil.int) (q12.int 1 rfl) (by (try simp only [List.length_cons, List.length_nil, List.length_append, List.length_replicate, List.length_map, List.length_take, List.length_drop]); omega) (by (try simp only [List.length_cons, List.length_nil, List.length_append, List.length_replicate, List.length_map, List.length_take, List.length_drop]); omega))
        rw [iota_oneW hn3] at hk1
        refine hk1.mono ?_
        rintro _ H13 ⟨p7, p8, rfl, g5⟩
        have q13 := q12.join g5
        simp only [List.map_cons, List.map_nil, List.cons_append, List.nil_append] at q13
        obtain ⟨a7, c7, rfl⟩ := (q13.own 0 rfl).isSlice
        obtain ⟨a8, c8, rfl⟩ := (q13.own 1 rfl).isSlice
        simp -implicitDefEqProofs only [kz, kk0, kk1, kk2, kk3, ↓two_true, ↓two_false, mkv, aggAt, Nat.reduceLeDiff, Nat.reduceSub, Nat.reduceMul, implies_true, Nat.reduceEqDiff, reduceIte, Nat.reduceAdd, Nat.reduceBEq, reduceCtorEq, al26, fa26_0, fa26_1, ix24, ld3, ld24, ld26, ln24, st26, big_eq, bne_self_eq_false, beq_self_eq_true, Bool.and_self, cast0, Int.add_zero, wrap0W, hd1, q13.rd 2 rfl, q13.rd 4 rfl, q13.rd 7 rfl, q13.rd 10 rfl]
        refine st_box q13 fun H14 q14 => ?_
        simp -implicitDefEqProofs only [kz, kk0, kk1, kk2, kk3, ↓two_true, ↓two_false, mkv, aggAt, Nat.reduceLeDiff, Nat.reduceSub, Nat.reduceMul, implies_true, Nat.reduceEqDiff, reduceIte, Nat.reduceAdd, Nat.reduceBEq, reduceCtorEq, al26, fa26_0, fa26_1, ix24, ld3, ld24, ld26, ln24, st26, big_eq, bne_self_eq_false, beq_self_eq_true, Bool.and_self, cast0, Int.add_zero, wrap0W, hd1, q14.rd 0 rfl, q14.rd 3 rfl, q14.rd 5 rfl, q14.rd 8 rfl, q14.rd 11 rfl]
        refine st_set q14 0 rfl fun H15 q15 => ?_
        simp only [List.set_cons_zero, List.set_cons_succ] at q15
        simp -implicitDefEqProofs only [kz, kk0, kk1, kk2, kk3, ↓two_true, ↓two_false, mkv, aggAt, Nat.reduceLeDiff, Nat.reduceSub, Nat.reduceMul, implies_true, Nat.reduceEqDiff, reduceIte, Nat.reduceAdd, Nat.reduceBEq, reduceCtorEq, al26, fa26_0, fa26_1, ix24, ld3, ld24, ld26, ln24, st26, big_eq, bne_self_eq_false, beq_self_eq_true, Bool.and_self, cast0, Int.add_zero, wrap0W, hd1, q15.rd 0 rfl, q15.rd 3 rfl, q15.rd 5 rfl, q15.rd 8 rfl, q15.rd 11 rfl]
        have hk2 := implTurn_ok (q15.ar 1 2 rfl rfl (by (try simp only [List.length_cons, List.length_nil, List.length_append, List.length_replicate, List.length_map, List.length_take, List.length_drop]); omega) (by (try simp only [List.length_cons, List.length_nil, List.length_append, List.length_replicate, List.length_map, List.length_take, List.length_drop]); omega))
        rw [turn_iota hn3] at hk2
        refine hk2.mono ?_
        rintro _ H16 ⟨p9, p10, rfl, g6⟩
        have q16 := q15.join g6
        simp only [List.map_cons, List.map_nil, List.cons_append, List.nil_append] at q16
        obtain ⟨a9, c9, rfl⟩ := (q16.own 0 rfl).isSlice
        obtain ⟨a10, c10, rfl⟩ := (q16.own 1 rfl).isSlice
        simp -implicitDefEqProofs only [kz, kk0, kk1, kk2, kk3, ↓two_true, ↓two_false, mkv, aggAt, Nat.reduceLeDiff, Nat.reduceSub, Nat.reduceMul, implies_true, Nat.reduceEqDiff, reduceIte, Nat.reduceAdd, Nat.reduceBEq, reduceCtorEq, al26, fa26_0, fa26_1, ix24, ld3, ld24, ld26, ln24, st26, big_eq, bne_self_eq_false, beq_self_eq_true, Bool.and_self, cast0, Int.add_zero, wrap0W, hd1, q16.rd 2 rfl, q16.rd 5 rfl, q16.rd 7 rfl, q16.rd 10 rfl, q16.rd 13 rfl]
        refine st_box q16 fun H17 q17 => ?_
        simp -implicitDefEqProofs only [kz, kk0, kk1, kk2, kk3, ↓two_true, ↓two_false, mkv, aggAt, Nat.reduceLeDiff, Nat.reduceSub, Nat.reduceMul, implies_true, Nat.reduceEqDiff, reduceIte, Nat.reduceAdd, Nat.reduceBEq, reduceCtorEq, al26, fa26_0, fa26_1, ix24, ld3, ld24, ld26, ln24, st26, big_eq, bne_self_eq_false, beq_self_eq_true, Bool.and_self, cast0, Int.add_zero, wrap0W, hd1, q17.rd 0 rfl, q17.rd 3 rfl, q17.rd 6 rfl, q17.rd 8 rfl, q17.rd 11 rfl, q17.rd 14 rfl]
        refine st_set q17 0 rfl fun H18 q18 => ?_
        simp only [List.set_cons_zero, List.set_cons_succ] at q18
        simp -implicitDefEqProofs only [kz, kk0, kk1, kk2, kk3, ↓two_true, ↓two_false, mkv, aggAt, Nat.reduceLeDiff, Nat.reduceSub, Nat.reduceMul, implies_true, Nat.reduceEqDiff, reduceIte, Nat.reduceAdd, Nat.reduceBEq, reduceCtorEq, al26, fa26_0, fa26_1, ix24, ld3, ld24, ld26, ln24, st26, big_eq, bne_self_eq_false, beq_self_eq_true, Bool.and_self, cast0, Int.add_zero, wrap0W, hd1, q18.rd 0 rfl, q18.rd 3 rfl, q18.rd 6 rfl, q18.rd 8 rfl, q18.rd 11 rfl, q18.rd 14 rfl]
        have hk3 := implPick_ok (q18.ar 4 5 rfl rfl (by (try simp only [List.length_cons, List.length_nil, List.length_append, List.length_replicate, List.length_map, List.length_take, List.length_drop]); omega) (by (try simp only [List.length_cons, List.length_nil, List.length_append, List.length_replicate, List.length_map, List.length_take, List.length_drop]); omega)) (q18.ar 15 16 rfl rfl (by (try simp only [List.length_cons, List.length_nil, List.length_append, List.length_replicate, List.length_map, List.length_take, List.length_drop]); omega) (by (try simp only [List.length_cons, List.length_nil, List.length_append, List.length_replicate, List.length_map, List.length_take, List.length_drop]); omega))
        rw [pick_iota v1 hne hn] at hk3
        refine hk3.mono ?_
        rintro _ H19 ⟨p11, p12, rfl, g7⟩
        have q19 := q18.join g7
        simp only [List.map_cons, List.map_nil, List.cons_append, List.nil_append] at q19
        obtain ⟨a11, c11, rfl⟩ := (q19.own 0 rfl).isSlice
        obtain ⟨a12, c12, rfl⟩ := (q19.own 1 rfl).isSlice
        simp -implicitDefEqProofs only [kz, kk0, kk1, kk2, kk3, ↓two_true, ↓two_false, mkv, aggAt, Nat.reduceLeDiff, Nat.reduceSub, Nat.reduceMul, implies_true, Nat.reduceEqDiff, reduceIte, Nat.reduceAdd, Nat.reduceBEq, reduceCtorEq, al26, fa26_0, fa26_1, ix24, ld3, ld24, ld26, ln24, st26, big_eq, bne_self_eq_false, beq_self_eq_true, Bool.and_self, cast0, Int.add_zero, wrap0W, hd1, q19.rd 2 rfl, q19.rd 5 rfl, q19.rd 8 rfl, q19.rd 10 rfl, q19.rd 13 rfl, q19.rd 16 rfl]
        refine st_box q19 fun H20 q20 => ?_
        simp -implicitDefEqProofs only [kz, kk0, kk1, kk2, kk3, ↓two_true, ↓two_false, mkv, aggAt, Nat.reduceLeDiff, Nat.reduceSub, Nat.reduceMul, implies_true, Nat.reduceEqDiff, reduceIte, Nat.reduceAdd, Nat.reduceBEq, reduceCtorEq, al26, fa26_0, fa26_1, ix24, ld3, ld24, ld26, ln24, st26, big_eq, bne_self_eq_false, beq_self_eq_true, Bool.and_self, cast0, Int.add_zero, wrap0W, hd1, q20.rd 0 rfl, q20.rd 3 rfl, q20.rd 6 rfl, q20.rd 9 rfl, q20.rd 11 rfl, q20.rd 14 rfl, q20.rd 17 rfl]
        refine st_set q20 0 rfl fun H21 q21 => ?_
        simp only [List.set_cons_zero, List.set_cons_succ] at q21
        simp -implicitDefEqProofs only [kz, kk0, kk1, kk2, kk3, ↓two_true, ↓two_false, mkv, aggAt, Nat.reduceLeDiff, Nat.reduceSub, Nat.reduceMul, implies_true, Nat.reduceEqDiff, reduceIte, Nat.reduceAdd, Nat.reduceBEq, reduceCtorEq, al26, fa26_0, fa26_1, ix24, ld3, ld24, ld26, ln24, st26, big_eq, bne_self_eq_false, beq_self_eq_true, Bool.and_self, cast0, Int.add_zero, wrap0W, hd1, q21.rd 0 rfl, q21.rd 3 rfl, q21.rd 6 rfl, q21.rd 9 rfl, q21.rd 11 rfl, q21.rd 14 rfl, q21.rd 17 rfl]
        have hk4 := implPick_ok (q21.ar 4 5 rfl rfl (by (try simp only [List.length_cons, List.length_nil, List.length_append, List.length_replicate, List.length_map, List.length_take, List.length_drop]); omega) (by (try simp only [List.length_cons, List.length_nil, List.length_append, List.length_replicate, List.length_map, List.length_take, List.length_drop]); omega)) (q21.ar 18 19 rfl rfl (by (try simp only [List.length_cons, List.length_nil, List.length_append, List.length_replicate, List.length_map, List.length_take, List.length_drop]); omega) (by (try simp only [List.length_cons, List.length_nil, List.length_append, List.length_replicate, List.length_map, List.length_take, List.length_drop]); omega))
        rw [pick_riota v1 hne hn] at hk4
        refine hk4.mono ?_
        rintro _ H22 ⟨p13, p14, rfl, g8⟩
        have q22 := q21.join g8
        simp only [List.map_cons, List.map_nil, List.cons_append, List.nil_append] at q22
        obtain ⟨a13, c13, rfl⟩ := (q22.own 0 rfl).isSlice
        obtain ⟨a14, c14, rfl⟩ := (q22.own 1 rfl).isSlice
        simp -implicitDefEqProofs only [kz, kk0, kk1, kk2, kk3, ↓two_true, ↓two_false, mkv, aggAt, Nat.reduceLeDiff, Nat.reduceSub, Nat.reduceMul, implies_true, Nat.reduceEqDiff, reduceIte, Nat.reduceAdd, Nat.reduceBEq, reduceCtorEq, al26, fa26_0, fa26_1, ix24, ld3, ld24, ld26, ln24, st26, big_eq, bne_self_eq_false, beq_self_eq_true, Bool.and_self, cast0, Int.add_zero, wrap0W, hd1, q22.rd 2 rfl, q22.rd 5 rfl, q22.rd 8 rfl, q22.rd 11 rfl, q22.rd 13 rfl, q22.rd 16 rfl, q22.rd 19 rfl]
        refine st_box q22 fun H23 q23 => ?_
        simp -implicitDefEqProofs only [kz, kk0, kk1, kk2, kk3, ↓two_true, ↓two_false, mkv, aggAt, Nat.reduceLeDiff, Nat.reduceSub, Nat.reduceMul, implies_true, Nat.reduceEqDiff, reduceIte, Nat.reduceAdd, Nat.reduceBEq, reduceCtorEq, al26, fa26_0, fa26_1, ix24, ld3, ld24, ld26, ln24, st26, big_eq, bne_self_eq_false, beq_self_eq_true, Bool.and_self, cast0, Int.add_zero, wrap0W, hd1, q23.rd 0 rfl, q23.rd 3 rfl, q23.rd 6 rfl, q23.rd 9 rfl, q23.rd 12 rfl, q23.rd 14 rfl, q23.rd 17 rfl, q23.rd 20 rfl]
        refine st_set q23 0 rfl fun H24 q24 => ?_
        simp only [List.set_cons_zero, List.set_cons_succ] at q24
        simp -implicitDefEqProofs only [kz, kk0, kk1, kk2, kk3, ↓two_true, ↓two_false, mkv, aggAt, Nat.reduceLeDiff, Nat.reduceSub, Nat.reduceMul, implies_true, Nat.reduceEqDiff, reduceIte, Nat.reduceAdd, Nat.reduceBEq, reduceCtorEq, al26, fa26_0, fa26_1, ix24, ld3, ld24, ld26, ln24, st26, big_eq, bne_self_eq_false, beq_self_eq_true, Bool.and_self, cast0, Int.add_zero, wrap0W, hd1, q24.rd 0 rfl, q24.rd 3 rfl, q24.rd 6 rfl, q24.rd 9 rfl, q24.rd 12 rfl, q24.rd 14 rfl, q24.rd 17 rfl, q24.rd 20 rfl]
        have hk5 := implTurn_ok (q24.ar 21 22 rfl rfl (by (try simp only [List.length_cons, List.length_nil, List.length_append, List.length_replicate, List.length_map, List.length_take, List.length_drop]); omega) (by (try simp only [List.length_cons, List.length_nil, List.length_append, List.length_replicate, List.length_map, List.length_take, List.length_drop]); omega))
        rw [turn_all v1 hne] at hk5
        refine hk5.mono ?_
        rintro _ H25 ⟨p15, p16, rfl, g9⟩
        have q25 := q24.join g9
        simp only [List.map_cons, List.map_nil, List.cons_append, List.nil_append] at q25
        obtain ⟨a15, c15, rfl⟩ := (q25.own 0 rfl).isSlice
        obtain ⟨a16, c16, rfl⟩ := (q25.own 1 rfl).isSlice
        simp -implicitDefEqProofs only [kz, kk0, kk1, kk2, kk3, ↓two_true, ↓two_false, mkv, aggAt, Nat.reduceLeDiff, Nat.reduceSub, Nat.reduceMul, implies_true, Nat.reduceEqDiff, reduceIte, Nat.reduceAdd, Nat.reduceBEq, reduceCtorEq, al26, fa26_0, fa26_1, ix24, ld3, ld24, ld26, ln24, st26, big_eq, bne_self_eq_false, beq_self_eq_true, Bool.and_self, cast0, Int.add_zero, wrap0W, hd1, q25.rd 2 rfl, q25.rd 5 rfl, q25.rd 8 rfl, q25.rd 11 rfl, q25.rd 14 rfl, q25.rd 16 rfl, q25.rd 19 rfl, q25.rd 22 rfl]
        refine st_box q25 fun H26 q26 => ?_
        simp -implicitDefEqProofs only [kz, kk0, kk1, kk2, kk3, ↓two_true, ↓two_false, mkv, aggAt, Nat.reduceLeDiff, Nat.reduceSub, Nat.reduceMul, implies_true, Nat.reduceEqDiff, reduceIte, Nat.reduceAdd, Nat.reduceBEq, reduceCtorEq, al26, fa26_0, fa26_1, ix24, ld3, ld24, ld26, ln24, st26, big_eq, bne_self_eq_false, beq_self_eq_true, Bool.and_self, cast0, Int.add_zero, wrap0W, hd1, q26.rd 0 rfl, q26.rd 3 rfl, q26.rd 6 rfl, q26.rd 9 rfl, q26.rd 12 rfl, q26.rd 15 rfl, q26.rd 17 rfl, q26.rd 20 rfl, q26.rd 23 rfl]
        refine st_set q26 0 rfl fun H27 q27 => ?_
        simp only [List.set_cons_zero, List.set_cons_succ] at q27
        simp -implicitDefEqProofs only [kz, kk0, kk1, kk2, kk3, ↓two_true, ↓two_false, mkv, aggAt, Nat.reduceLeDiff, Nat.reduceSub, Nat.reduceMul, implies_true, Nat.reduceEqDiff, reduceIte, Nat.reduceAdd, Nat.reduceBEq, reduceCtorEq, al26, fa26_0, fa26_1, ix24, ld3, ld24, ld26, ln24, st26, big_eq, bne_self_eq_false, beq_self_eq_true, Bool.and_self, cast0, Int.add_zero, wrap0W, hd1, q27.rd 0 rfl, q27.rd 3 rfl, q27.rd 6 rfl, q27.rd 9 rfl, q27.rd 12 rfl, q27.rd 15 rfl, q27.rd 17 rfl, q27.rd 20 rfl, q27.rd 23 rfl]
        refine (sameArray_ok (q27.ar 7 8 rfl rfl (by (try simp only [List.length_cons, List.length_nil, List.length_append, List.length_replicate, List.length_map, List.length_take, List.length_drop]); omega) (by (try simp only [List.length_cons, List.length_nil, List.length_append, List.length_replicate, List.length_map, List.length_take, List.length_drop]); omega)) (q27.ar 24 25 rfl rfl (by (try simp only [List.length_cons, List.length_nil, List.length_append, List.length_replicate, List.length_map, List.length_take, List.length_drop]); omega) (by (try simp only [List.length_cons, List.length_nil, List.length_append, List.length_replicate, List.length_map, List.length_take, List.length_drop]); omega))).mono ?_
        rintro _ H28 ⟨rfl, he1⟩
        have q28 := q27.extd he1
        simp -implicitDefEqProofs only [kz, kk0, kk1, kk2, kk3, ↓two_true, ↓two_false, mkv, aggAt, Nat.reduceLeDiff, Nat.reduceSub, Nat.reduceMul, implies_true, Nat.reduceEqDiff, reduceIte, Nat.reduceAdd, Nat.reduceBEq, reduceCtorEq, al26, fa26_0, fa26_1, ix24, ld3, ld24, ld26, ln24, st26, big_eq, bne_self_eq_false, beq_self_eq_true, Bool.and_self, cast0, Int.add_zero, wrap0W, hd1, q28.rd 0 rfl, q28.rd 3 rfl, q28.rd 6 rfl, q28.rd 9 rfl, q28.rd 12 rfl, q28.rd 15 rfl, q28.rd 17 rfl, q28.rd 20 rfl, q28.rd 23 rfl]
        refine (sameArray_ok (q28.ar 4 5 rfl rfl (by (try simp only [List.length_cons, List.length_nil, List.length_append, List.length_replicate, List.length_map, List.length_take, List.length_drop]); omega) (by (try simp only [List.length_cons, List.length_nil, List.length_append, List.length_replicate, List.length_map, List.length_take, List.length_drop]); omega)) (q28.ar 1 2 rfl rfl (by (try simp only [List.length_cons, List.length_nil, List.length_append, List.length_replicate, List.length_map, List.length_take, List.length_drop]); omega) (by (try simp only [List.length_cons, List.length_nil, List.length_append, List.length_replicate, List.length_map, List.length_take, List.length_drop]); omega))).mono ?_
        rintro _ H29 ⟨rfl, he2⟩
        have q29 := q28.extd he2
        simp -implicitDefEqProofs only [kz, kk0, kk1, kk2, kk3, ↓two_true, ↓two_false, mkv, aggAt, Nat.reduceLeDiff, Nat.reduceSub, Nat.reduceMul, implies_true, Nat.reduceEqDiff, reduceIte, Nat.reduceAdd, Nat.reduceBEq, reduceCtorEq, al26, fa26_0, fa26_1, ix24, ld3, ld24, ld26, ln24, st26, big_eq, bne_self_eq_false, beq_self_eq_true, Bool.and_self, cast0, Int.add_zero, wrap0W, hd1, q29.rd 0 rfl, q29.rd 3 rfl, q29.rd 6 rfl, q29.rd 9 rfl, q29.rd 12 rfl, q29.rd 15 rfl, q29.rd 17 rfl, q29.rd 20 rfl, q29.rd 23 rfl]
        -- end6
        all_goals first | trivial | (simp; done) | (simp [hRn]; done) | (simp [hc0]; done) | (subst hc0; exact absurd ‹((0 : Int) == 0) = false› (by decide))

end Go.Proofs.Ytpclegiocblpmaa.AM
