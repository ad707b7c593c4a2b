/- What the functions answer, part 6. -/
import Derived.Test.YtdagncfnkenbfaaP5
set_option linter.unusedVariables false
set_option linter.unusedSimpArgs false
set_option linter.defProp false
set_option maxRecDepth 100000
/- What the functions answer, part 6. -/
namespace Go.Proofs.Ytdagncfnkenbfaa.AM
open Go Go.Proofs.Ytdagncfnkenbfaa Go.Proofs
set_option maxHeartbeats 4000000 in
theorem drawCodeRead_ok {H : AH} {v : Value} (hv : BRv H v) : CallsA Try.prog 31 #[v] H fun r H' => ∃ l, ByRow H' r l ∧ byOk l ∧ l.length ≤ 1048576 := by
  refine w31 ?_
  unfold k31
  simp -implicitDefEqProofs only [kz, kk0, kk1, kk2, kk3, ↓two_true, ↓two_false, mkv, aggAt, Nat.reduceLeDiff, Nat.reduceSub, Nat.reduceMul, implies_true, Nat.reduceEqDiff, reduceIte, Nat.reduceAdd, Nat.reduceBEq, reduceCtorEq, ap22_22, bs22_1, bs64_6, cv3_5, ix22, ln22, sn22, sl22, st5]
  refine (l1New_ok hv).mono ?_
  rintro _ H2 ⟨cb, rfl, hc, hle, hK⟩
  have q2 := (LX.nil (H := H)).cursor hK hc hle
  simp -implicitDefEqProofs only [kz, kk0, kk1, kk2, kk3, ↓two_true, ↓two_false, mkv, aggAt, Nat.reduceLeDiff, Nat.reduceSub, Nat.reduceMul, implies_true, Nat.reduceEqDiff, reduceIte, Nat.reduceAdd, Nat.reduceBEq, reduceCtorEq, ap22_22, bs22_1, bs64_6, cv3_5, ix22, ln22, sn22, sl22, st5]
  refine (l11DrawRight_ok q2).mono ?_
  rintro _ H3 ⟨a, m, c, ys, V, rfl, q3, hm0, hm, -⟩
  simp -implicitDefEqProofs only [kz, kk0, kk1, kk2, kk3, ↓two_true, ↓two_false, mkv, aggAt, Nat.reduceLeDiff, Nat.reduceSub, Nat.reduceMul, implies_true, Nat.reduceEqDiff, reduceIte, Nat.reduceAdd, Nat.reduceBEq, reduceCtorEq, ap22_22, bs22_1, bs64_6, cv3_5, ix22, ln22, sn22, sl22, st5]
  refine (specPack_ok (q3.cm 0 rfl).1 (by omega)).mono ?_
  rintro _ H4 ⟨⟨w, rfl, bw⟩, hK4⟩
  have hpl := pkA_len (l := insL (cvs H3 ys) m)
  have hby := byOk_pkA (l := insL (cvs H3 ys) m)
  simp -implicitDefEqProofs only [kz, kk0, kk1, kk2, kk3, ↓two_true, ↓two_false, mkv, aggAt, Nat.reduceLeDiff, Nat.reduceSub, Nat.reduceMul, implies_true, Nat.reduceEqDiff, reduceIte, Nat.reduceAdd, Nat.reduceBEq, reduceCtorEq, ap22_22, bs22_1, bs64_6, cv3_5, ix22, ln22, sn22, sl22, st5]
  cases hk : cdOk (insL (cvs H3 ys) m) with
  | false =>
    simp -implicitDefEqProofs only [kz, kk0, kk1, kk2, kk3, ↓two_true, ↓two_false, mkv, aggAt, Nat.reduceLeDiff, Nat.reduceSub, Nat.reduceMul, implies_true, Nat.reduceEqDiff, reduceIte, Nat.reduceAdd, Nat.reduceBEq, reduceCtorEq, ap22_22, bs22_1, bs64_6, cv3_5, ix22, ln22, sn22, sl22, st5, Bool.not_false]
    exact ⟨_, bw.row, hby, by omega⟩
  | true =>
    have hne : pkA (insL (cvs H3 ys) m) ≠ [] := by unfold pkA pkG; rw [if_pos hk]; simp
    generalize pkA (insL (cvs H3 ys) m) = l at *
    obtain ⟨b, rfl, q4⟩ := q3.newB bw hne hK4
    have hpos : 0 < l.length := by cases l with
      | nil => exact absurd rfl hne
      | cons x t => simp
    have w1 : IntKind.i64.wrap ((l.length : Int) + 1) = (l.length : Int) + 1 := IntWalk.i64_in _ (by omega)
    simp -implicitDefEqProofs only [kz, kk0, kk1, kk2, kk3, ↓two_true, ↓two_false, mkv, aggAt, Nat.reduceLeDiff, Nat.reduceSub, Nat.reduceMul, implies_true, Nat.reduceEqDiff, reduceIte, Nat.reduceAdd, Nat.reduceBEq, reduceCtorEq, ap22_22, bs22_1, bs64_6, cv3_5, ix22, ln22, sn22, sl22, st5, Bool.not_true]
    refine (l1Below_ok q4.curr).mono ?_
    rintro _ H5 ⟨⟨k, rfl, -, -⟩, hf⟩
    have q5 := q4.call hf
    simp -implicitDefEqProofs only [kz, kk0, kk1, kk2, kk3, ↓two_true, ↓two_false, mkv, aggAt, Nat.reduceLeDiff, Nat.reduceSub, Nat.reduceMul, implies_true, Nat.reduceEqDiff, reduceIte, Nat.reduceAdd, Nat.reduceBEq, reduceCtorEq, ap22_22, bs22_1, bs64_6, cv3_5, ix22, ln22, sn22, sl22, st5, w1]
    refine two_intro (fun _ => ?_) (fun _ => two_intro (fun _ => ?_) (fun _ => two_intro (fun _ => ?_) (fun _ => ?_)))
    · refine (l1Below_ok q5.curr).mono ?_
      rintro _ H6 ⟨⟨j, rfl, -, hj⟩, hf⟩
      have hj := hj (by omega)
      obtain ⟨j, rfl⟩ : ∃ n : Nat, j = n := ⟨j.toNat, by omega⟩
      have q6 := q5.call hf
      simp -implicitDefEqProofs only [kz, kk0, kk1, kk2, kk3, ↓two_true, ↓two_false, mkv, aggAt, Nat.reduceLeDiff, Nat.reduceSub, Nat.reduceMul, implies_true, Nat.reduceEqDiff, reduceIte, Nat.reduceAdd, Nat.reduceBEq, reduceCtorEq, ap22_22, bs22_1, bs64_6, cv3_5, ix22, ln22, sn22, sl22, st5]
      refine st_lit [0, 1, 2, 5, 43, 255] rfl rfl q6 fun H7 q7 => ?_
      simp -implicitDefEqProofs only [kz, kk0, kk1, kk2, kk3, ↓two_true, ↓two_false, mkv, aggAt, Nat.reduceLeDiff, Nat.reduceSub, Nat.reduceMul, implies_true, Nat.reduceEqDiff, reduceIte, Nat.reduceAdd, Nat.reduceBEq, reduceCtorEq, ap22_22, bs22_1, bs64_6, cv3_5, ix22, ln22, sn22, sl22, st5]
      refine (l1PickInt_ok q7.curr (q7.own 0 rfl) (q7.ncr 0 rfl) (by decide)).mono ?_
      rintro _ H8 ⟨⟨x, rfl, -⟩, hf⟩
      have q8 := (q7.call hf).tail
      have g1 : (0 : Int) ≤ (j : Int) ∧ (j : Int) < (l.length : Int) := by omega
      simp -implicitDefEqProofs only [kz, kk0, kk1, kk2, kk3, ↓two_true, ↓two_false, mkv, aggAt, Nat.reduceLeDiff, Nat.reduceSub, Nat.reduceMul, implies_true, Nat.reduceEqDiff, reduceIte, Nat.reduceAdd, Nat.reduceBEq, reduceCtorEq, ap22_22, bs22_1, bs64_6, cv3_5, ix22, ln22, sn22, sl22, st5, if_pos g1, Int.toNat_natCast, Nat.mul_one, q8.rd 0 rfl, bts_len, bts_set]
      have hb := (q8.set 0 rfl (bts (l.set j (IntKind.u8.wrap x)))).byRow 0 rfl l.length (by simp)
      rw [List.take_of_length_le (by simp)] at hb
      exact ⟨by omega, _, hb, byOk_set hby byOk_pkA_u, by simp; omega⟩
    · refine (l1Below_ok q5.curr).mono ?_
      rintro _ H6 ⟨⟨j, rfl, -, hj⟩, hf⟩
      have hj := hj (by omega)
      obtain ⟨j, rfl⟩ : ∃ n : Nat, j = n := ⟨j.toNat, by omega⟩
      have q6 := q5.call hf
      have z0 : Int.toNat 0 = 0 := rfl
      have g2 : (0 : Int) ≤ 0 ∧ (0 : Int) ≤ (j : Int) ∧ (j : Int) ≤ (l.length : Int) := by omega
      simp -implicitDefEqProofs only [kz, kk0, kk1, kk2, kk3, ↓two_true, ↓two_false, mkv, aggAt, Nat.reduceLeDiff, Nat.reduceSub, Nat.reduceMul, implies_true, Nat.reduceEqDiff, reduceIte, Nat.reduceAdd, Nat.reduceBEq, reduceCtorEq, ap22_22, bs22_1, bs64_6, cv3_5, ix22, ln22, sn22, sl22, st5, z0, Int.toNat_natCast, Nat.zero_mul, Nat.sub_zero]
      refine ⟨g2, _, q6.byRow 0 rfl j (by omega), fun x hx => hby x (List.mem_of_mem_take hx), by simp; omega⟩
    · refine st_cells q5 fun H6 q6 => ?_
      simp -implicitDefEqProofs only [kz, kk0, kk1, kk2, kk3, ↓two_true, ↓two_false, mkv, aggAt, Nat.reduceLeDiff, Nat.reduceSub, Nat.reduceMul, implies_true, Nat.reduceEqDiff, reduceIte, Nat.reduceAdd, Nat.reduceBEq, reduceCtorEq, ap22_22, bs22_1, bs64_6, cv3_5, ix22, ln22, sn22, sl22, st5]
      refine st_appB q6 1 0 rfl rfl bts_len.symm rfl rfl (by decide) (by omega) fun H7 q7 => ?_
      simp only [List.set_cons_zero, List.set_cons_succ] at q7
      simp -implicitDefEqProofs only [kz, kk0, kk1, kk2, kk3, ↓two_true, ↓two_false, mkv, aggAt, Nat.reduceLeDiff, Nat.reduceSub, Nat.reduceMul, implies_true, Nat.reduceEqDiff, reduceIte, Nat.reduceAdd, Nat.reduceBEq, reduceCtorEq, ap22_22, bs22_1, bs64_6, cv3_5, ix22, ln22, sn22, sl22, st5]
      have e : (bts l ++ [.int .u8 0] : List Value) = bts (l ++ [0]) := by unfold bts; simp
      rw [e] at q7
      have hb := q7.byRow 1 rfl (l.length + 1) (by simp)
      refine ⟨_, hb, fun x hx => ?_, by simp; omega⟩
      rcases List.mem_append.1 (List.mem_of_mem_take hx) with h | h
      · exact hby x h
      · have : x = 0 := by simpa using h
        omega
    · try simp -implicitDefEqProofs only [kz, kk0, kk1, kk2, kk3, ↓two_true, ↓two_false, mkv, aggAt, Nat.reduceLeDiff, Nat.reduceSub, Nat.reduceMul, implies_true, Nat.reduceEqDiff, reduceIte, Nat.reduceAdd, Nat.reduceBEq, reduceCtorEq, ap22_22, bs22_1, bs64_6, cv3_5, ix22, ln22, sn22, sl22, st5]
      have hb := q5.byRow 0 rfl l.length (Nat.le_refl _)
      rw [List.take_length] at hb
      exact ⟨l, hb, hby, by omega⟩

theorem rdS_some {l : List Int} {V : List CV} (hb : byOk l) (h : rdS l = some V) : ∃ K, V.length = 6 * K ∧ cdOk (insL V K) = true ∧ pkA (insL V K) = l := by
  cases l with
  | nil => cases h
  | cons x t =>
    simp only [rdS] at h
    cases hi : rdAll nfS x.toNat t with
    | none => rw [hi] at h; cases h
    | some z =>
      obtain ⟨W, r⟩ := z
      rw [hi] at h
      simp only at h
      split at h
      · rename_i hc
        cases h
        exact ⟨x.toNat, (rdAll_len hb.tail hi).1, hc.1, hc.2⟩
      · cases h

set_option maxHeartbeats 4000000 in
theorem law6 : LawA Try.prog 6 [22] := by
  intro H vs hro h
  obtain ⟨v, vs, rfl, hv, h2⟩ := h.cons
  obtain rfl := h2.nil
  obtain ⟨a0, n0, c0, rfl, hb⟩ := rpBytes hv Try.underlying22 Try.underlying5 (by kernel_rfl)
  clear hv h2 hro
  refine w6 ?_
  unfold k6
  simp -implicitDefEqProofs only [kz, kk0, kk1, kk2, kk3, ↓two_true, ↓two_false, oS_some, oM_some, mkv, aggAt, Nat.reduceLeDiff, Nat.reduceSub, Nat.reduceMul, implies_true, Nat.reduceEqDiff, reduceIte, Nat.reduceAdd, Nat.reduceBEq, reduceCtorEq, ln29, (bin_bool_eql ub4), (bin_bool_neq ub4), big_eq]
  refine two_intro (fun h => trivial) (fun h => ?_)
  have hn0 : n0 ≤ 1048576 := by simp at h; omega
  have hv : BRv H (.slice a0 n0 c0) := ⟨a0, n0, c0, rfl, hn0, hb⟩
  clear hb h hn0
  refine (drawCodePack_ok hv).mono ?_
  rintro _ H1 ⟨ga, gm, gc, gys, rfl, f, hm, e1⟩
  simp -implicitDefEqProofs only [kz, kk0, kk1, kk2, kk3, ↓two_true, ↓two_false, oS_some, oM_some, mkv, aggAt, Nat.reduceLeDiff, Nat.reduceSub, Nat.reduceMul, implies_true, Nat.reduceEqDiff, reduceIte, Nat.reduceAdd, Nat.reduceBEq, reduceCtorEq, ln29, (bin_bool_eql ub4), (bin_bool_neq ub4)]
  refine (implPack_ok f (by omega)).mono ?_
  rintro _ H2 ⟨⟨w, rfl, bw⟩, hK2⟩
  have e2 := ext_trans e1 hK2
  obtain ⟨f2, v2⟩ := f.ext2 hK2
  simp -implicitDefEqProofs only [kz, kk0, kk1, kk2, kk3, ↓two_true, ↓two_false, oS_some, oM_some, mkv, aggAt, Nat.reduceLeDiff, Nat.reduceSub, Nat.reduceMul, implies_true, Nat.reduceEqDiff, reduceIte, Nat.reduceAdd, Nat.reduceBEq, reduceCtorEq, ln29, (bin_bool_eql ub4), (bin_bool_neq ub4)]
  have ho := specCodeOk_ok f2 (by omega)
  rw [v2] at ho
  refine ho.mono ?_
  rintro _ H3 ⟨rfl, hK3⟩
  have e3 := ext_trans e2 hK3
  obtain ⟨f3, v3⟩ := f2.ext2 hK3
  rw [v2] at v3
  simp -implicitDefEqProofs only [kz, kk0, kk1, kk2, kk3, ↓two_true, ↓two_false, oS_some, oM_some, mkv, aggAt, Nat.reduceLeDiff, Nat.reduceSub, Nat.reduceMul, implies_true, Nat.reduceEqDiff, reduceIte, Nat.reduceAdd, Nat.reduceBEq, reduceCtorEq, ln29, (bin_bool_eql ub4), (bin_bool_neq ub4), bne_self_eq_false]
  have ho := implCodeOk_ok f3 (by omega)
  rw [v3] at ho
  refine ho.mono ?_
  rintro _ H4 ⟨rfl, hK4⟩
  have e4 := ext_trans e3 hK4
  obtain ⟨f4, v4⟩ := f3.ext2 hK4
  rw [v3] at v4
  have bw4 := (bw.ext hK3).ext hK4
  simp -implicitDefEqProofs only [kz, kk0, kk1, kk2, kk3, ↓two_true, ↓two_false, oS_some, oM_some, mkv, aggAt, Nat.reduceLeDiff, Nat.reduceSub, Nat.reduceMul, implies_true, Nat.reduceEqDiff, reduceIte, Nat.reduceAdd, Nat.reduceBEq, reduceCtorEq, ln29, (bin_bool_eql ub4), (bin_bool_neq ub4), bne_self_eq_false]
  clear ho f2 v2 f3 v3 bw
  have hiv := f.insV
  have hpl := pkA_len (l := insL (cvs H1 gys) gm)
  cases hcd : cdOk (insL (cvs H1 gys) gm) with
  | false =>
    simp -implicitDefEqProofs only [kz, kk0, kk1, kk2, kk3, ↓two_true, ↓two_false, oS_some, oM_some, mkv, aggAt, Nat.reduceLeDiff, Nat.reduceSub, Nat.reduceMul, implies_true, Nat.reduceEqDiff, reduceIte, Nat.reduceAdd, Nat.reduceBEq, reduceCtorEq, ln29, (bin_bool_eql ub4), (bin_bool_neq ub4)]
    have eT := e4
    refine (drawCodeRead_ok (hv.ext eT)).mono ?_
    rintro raw Ha ⟨l, hr, hy, hl⟩
    obtain ⟨ra, rc, rfl, -⟩ := hr.op
    simp -implicitDefEqProofs only [kz, kk0, kk1, kk2, kk3, ↓two_true, ↓two_false, oS_some, oM_some, mkv, aggAt, Nat.reduceLeDiff, Nat.reduceSub, Nat.reduceMul, implies_true, Nat.reduceEqDiff, reduceIte, Nat.reduceAdd, Nat.reduceBEq, reduceCtorEq, ln29, (bin_bool_eql ub4), (bin_bool_neq ub4)]
    refine (implRead_ok hr hy hl).mono ?_
    rintro _ Hb ⟨⟨x, xm, xys, rfl, nx, hxV, hxm⟩, hKb⟩
    simp -implicitDefEqProofs only [kz, kk0, kk1, kk2, kk3, ↓two_true, ↓two_false, oS_some, oM_some, mkv, aggAt, Nat.reduceLeDiff, Nat.reduceSub, Nat.reduceMul, implies_true, Nat.reduceEqDiff, reduceIte, Nat.reduceAdd, Nat.reduceBEq, reduceCtorEq, ln29, (bin_bool_eql ub4), (bin_bool_neq ub4)]
    refine (specRead_ok (hr.ext hKb) hy hl).mono ?_
    rintro _ Hc ⟨⟨y, ym, yys, rfl, -, -, -⟩, hKc⟩
    rw [rdS_eq hy]
    simp -implicitDefEqProofs only [kz, kk0, kk1, kk2, kk3, ↓two_true, ↓two_false, oS_some, oM_some, mkv, aggAt, Nat.reduceLeDiff, Nat.reduceSub, Nat.reduceMul, implies_true, Nat.reduceEqDiff, reduceIte, Nat.reduceAdd, Nat.reduceBEq, reduceCtorEq, ln29, (bin_bool_eql ub4), (bin_bool_neq ub4), bne_self_eq_false]
    obtain ⟨fx, vx⟩ := nx.ot.frow.ext2 hKc
    have hp := implPack_ok fx (by omega)
    rw [vx, hxV] at hp
    refine hp.mono ?_
    rintro _ Hd ⟨⟨w2, rfl, bw2⟩, hKd⟩
    obtain ⟨xa, xc, rfl, -⟩ := fx.op
    have hxl : xys.length = xm * 6 := nx.ot.frow.len
    have hcl : (cvs Hb xys).length = xm * 6 := by simp [cvs, hxl]
    rw [hxV] at hcl
    simp -implicitDefEqProofs only [kz, kk0, kk1, kk2, kk3, ↓two_true, ↓two_false, oS_some, oM_some, mkv, aggAt, Nat.reduceLeDiff, Nat.reduceSub, Nat.reduceMul, implies_true, Nat.reduceEqDiff, reduceIte, Nat.reduceAdd, Nat.reduceBEq, reduceCtorEq, ln29, (bin_bool_eql ub4), (bin_bool_neq ub4)]
    cases hR : rdR l with
    | none =>
      rw [hR] at hcl
      have hx0 : xm = 0 := by simp at hcl; omega
      subst hx0
      simp -implicitDefEqProofs only [kz, kk0, kk1, kk2, kk3, ↓two_true, ↓two_false, oS_some, oM_some, mkv, aggAt, Nat.reduceLeDiff, Nat.reduceSub, Nat.reduceMul, implies_true, Nat.reduceEqDiff, reduceIte, Nat.reduceAdd, Nat.reduceBEq, reduceCtorEq, ln29, (bin_bool_eql ub4), (bin_bool_neq ub4), Option.isSome_none, Bool.not_false]
      exact two_intro (fun _ => trivial) (fun h => absurd h (by decide))
    | some V =>
      rw [hR] at hcl bw2
      simp only [Option.getD_some] at hcl bw2 ⊢
      obtain ⟨K, k1, k2, k3⟩ := rdS_some hy (by rw [rdS_eq hy]; exact hR)
      have hKx : xm = K := by omega
      subst hKx
      rw [k3] at bw2
      have c1 := bw2.row.str (P := Try.prog) (s := 22) (d := 9) (e := 5) (by kernel_rfl) (by kernel_rfl) (by kernel_rfl)
      have c2 := (hr.ext (ext_trans hKb (ext_trans hKc hKd))).str (P := Try.prog) (s := 22) (d := 9) (e := 5) (by kernel_rfl) (by kernel_rfl) (by kernel_rfl)
      have bn := fun (x y : Operand) => bin_str_eql (P := Try.prog) (t := 9) (x := x) (y := y) (p := strOf l) (q := strOf l)
      rw [str_beq hy hy, decide_eq_true rfl] at bn
      simp -implicitDefEqProofs only [kz, kk0, kk1, kk2, kk3, ↓two_true, ↓two_false, oS_some, oM_some, mkv, aggAt, Nat.reduceLeDiff, Nat.reduceSub, Nat.reduceMul, implies_true, Nat.reduceEqDiff, reduceIte, Nat.reduceAdd, Nat.reduceBEq, reduceCtorEq, ln29, (bin_bool_eql ub4), (bin_bool_neq ub4), Option.isSome_some, Bool.not_true, k2, c1, c2, bn]
  | true =>
    simp -implicitDefEqProofs only [kz, kk0, kk1, kk2, kk3, ↓two_true, ↓two_false, oS_some, oM_some, mkv, aggAt, Nat.reduceLeDiff, Nat.reduceSub, Nat.reduceMul, implies_true, Nat.reduceEqDiff, reduceIte, Nat.reduceAdd, Nat.reduceBEq, reduceCtorEq, ln29, (bin_bool_eql ub4), (bin_bool_neq ub4)]
    refine (implRead_ok bw4.row byOk_pkA (by omega)).mono ?_
    rw [rdR_pk hcd]
    rintro _ H6 ⟨⟨bk, bm, bys, rfl, nb, hbV, hbm⟩, hK6⟩
    have e6 := ext_trans e4 hK6
    obtain ⟨f6, v6⟩ := f4.ext2 hK6
    rw [v4] at v6
    rw [Option.getD_some, ← hiv] at hbV
    have hbn : bm = gm := by
      have h1 : bys.length = bm * 6 := nb.ot.frow.len
      have h2 : gys.length = gm * 6 := f.len
      have h3 := congrArg List.length hbV
      simp only [cvs, List.length_map] at h3
      omega
    subst hbn
    simp -implicitDefEqProofs only [kz, kk0, kk1, kk2, kk3, ↓two_true, ↓two_false, oS_some, oM_some, mkv, aggAt, Nat.reduceLeDiff, Nat.reduceSub, Nat.reduceMul, implies_true, Nat.reduceEqDiff, reduceIte, Nat.reduceAdd, Nat.reduceBEq, reduceCtorEq, ln29, (bin_bool_eql ub4), (bin_bool_neq ub4), Option.isSome_some, Bool.not_true]
    refine (sameCode_ok nb.ot.frow f6 (by omega) (by rw [hbV, v6])).mono ?_
    rintro _ _ ⟨rfl, rfl⟩
    simp -implicitDefEqProofs only [kz, kk0, kk1, kk2, kk3, ↓two_true, ↓two_false, oS_some, oM_some, mkv, aggAt, Nat.reduceLeDiff, Nat.reduceSub, Nat.reduceMul, implies_true, Nat.reduceEqDiff, reduceIte, Nat.reduceAdd, Nat.reduceBEq, reduceCtorEq, ln29, (bin_bool_eql ub4), (bin_bool_neq ub4), Bool.not_true]
    have eT := e6
    refine (drawCodeRead_ok (hv.ext eT)).mono ?_
    rintro raw Ha ⟨l, hr, hy, hl⟩
    obtain ⟨ra, rc, rfl, -⟩ := hr.op
    simp -implicitDefEqProofs only [kz, kk0, kk1, kk2, kk3, ↓two_true, ↓two_false, oS_some, oM_some, mkv, aggAt, Nat.reduceLeDiff, Nat.reduceSub, Nat.reduceMul, implies_true, Nat.reduceEqDiff, reduceIte, Nat.reduceAdd, Nat.reduceBEq, reduceCtorEq, ln29, (bin_bool_eql ub4), (bin_bool_neq ub4)]
    refine (implRead_ok hr hy hl).mono ?_
    rintro _ Hb ⟨⟨x, xm, xys, rfl, nx, hxV, hxm⟩, hKb⟩
    simp -implicitDefEqProofs only [kz, kk0, kk1, kk2, kk3, ↓two_true, ↓two_false, oS_some, oM_some, mkv, aggAt, Nat.reduceLeDiff, Nat.reduceSub, Nat.reduceMul, implies_true, Nat.reduceEqDiff, reduceIte, Nat.reduceAdd, Nat.reduceBEq, reduceCtorEq, ln29, (bin_bool_eql ub4), (bin_bool_neq ub4)]
    refine (specRead_ok (hr.ext hKb) hy hl).mono ?_
    rintro _ Hc ⟨⟨y, ym, yys, rfl, -, -, -⟩, hKc⟩
    rw [rdS_eq hy]
    simp -implicitDefEqProofs only [kz, kk0, kk1, kk2, kk3, ↓two_true, ↓two_false, oS_some, oM_some, mkv, aggAt, Nat.reduceLeDiff, Nat.reduceSub, Nat.reduceMul, implies_true, Nat.reduceEqDiff, reduceIte, Nat.reduceAdd, Nat.reduceBEq, reduceCtorEq, ln29, (bin_bool_eql ub4), (bin_bool_neq ub4), bne_self_eq_false]
    obtain ⟨fx, vx⟩ := nx.ot.frow.ext2 hKc
    have hp := implPack_ok fx (by omega)
    rw [vx, hxV] at hp
    refine hp.mono ?_
    rintro _ Hd ⟨⟨w2, rfl, bw2⟩, hKd⟩
    obtain ⟨xa, xc, rfl, -⟩ := fx.op
    have hxl : xys.length = xm * 6 := nx.ot.frow.len
    have hcl : (cvs Hb xys).length = xm * 6 := by simp [cvs, hxl]
    rw [hxV] at hcl
    simp -implicitDefEqProofs only [kz, kk0, kk1, kk2, kk3, ↓two_true, ↓two_false, oS_some, oM_some, mkv, aggAt, Nat.reduceLeDiff, Nat.reduceSub, Nat.reduceMul, implies_true, Nat.reduceEqDiff, reduceIte, Nat.reduceAdd, Nat.reduceBEq, reduceCtorEq, ln29, (bin_bool_eql ub4), (bin_bool_neq ub4)]
    cases hR : rdR l with
    | none =>
      rw [hR] at hcl
      have hx0 : xm = 0 := by simp at hcl; omega
      subst hx0
      simp -implicitDefEqProofs only [kz, kk0, kk1, kk2, kk3, ↓two_true, ↓two_false, oS_some, oM_some, mkv, aggAt, Nat.reduceLeDiff, Nat.reduceSub, Nat.reduceMul, implies_true, Nat.reduceEqDiff, reduceIte, Nat.reduceAdd, Nat.reduceBEq, reduceCtorEq, ln29, (bin_bool_eql ub4), (bin_bool_neq ub4), Option.isSome_none, Bool.not_false]
      exact two_intro (fun _ => trivial) (fun h => absurd h (by decide))
    | some V =>
      rw [hR] at hcl bw2
      simp only [Option.getD_some] at hcl bw2 ⊢
      obtain ⟨K, k1, k2, k3⟩ := rdS_some hy (by rw [rdS_eq hy]; exact hR)
      have hKx : xm = K := by omega
      subst hKx
      rw [k3] at bw2
      have c1 := bw2.row.str (P := Try.prog) (s := 22) (d := 9) (e := 5) (by kernel_rfl) (by kernel_rfl) (by kernel_rfl)
      have c2 := (hr.ext (ext_trans hKb (ext_trans hKc hKd))).str (P := Try.prog) (s := 22) (d := 9) (e := 5) (by kernel_rfl) (by kernel_rfl) (by kernel_rfl)
      have bn := fun (x y : Operand) => bin_str_eql (P := Try.prog) (t := 9) (x := x) (y := y) (p := strOf l) (q := strOf l)
      rw [str_beq hy hy, decide_eq_true rfl] at bn
      simp -implicitDefEqProofs only [kz, kk0, kk1, kk2, kk3, ↓two_true, ↓two_false, oS_some, oM_some, mkv, aggAt, Nat.reduceLeDiff, Nat.reduceSub, Nat.reduceMul, implies_true, Nat.reduceEqDiff, reduceIte, Nat.reduceAdd, Nat.reduceBEq, reduceCtorEq, ln29, (bin_bool_eql ub4), (bin_bool_neq ub4), Option.isSome_some, Bool.not_true, k2, c1, c2, bn]

end Go.Proofs.Ytdagncfnkenbfaa.AM
