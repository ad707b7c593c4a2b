/- What the functions answer, part 5. -/
import Derived.Test.YtmlimgdpcoloiaaP4
set_option linter.unusedVariables false
set_option linter.unusedSimpArgs false
set_option linter.defProp false
set_option maxRecDepth 100000
/- What the functions answer, part 5. -/
namespace Go.Proofs.Ytmlimgdpcoloiaa.AM
open Go Go.Proofs.Ytmlimgdpcoloiaa Go.Proofs
set_option maxHeartbeats 4000000 in
theorem law4 : LawA Try.prog 4 [3, 3, 24, 24] := by
  intro H vs hro h
  obtain ⟨v0, vs0, rfl, hv0, g0⟩ := h.cons
  obtain ⟨v1, vs1, rfl, hv1, g1⟩ := g0.cons
  obtain ⟨v2, vs2, rfl, hv2, g2⟩ := g1.cons
  obtain ⟨v3, vs3, rfl, hv3, g3⟩ := g2.cons
  obtain rfl := g3.nil
  obtain ⟨k0, us0, hr0, rfl⟩ := hv0
  obtain ⟨s0, rfl, _⟩ := hr0.int Try.underlying3
  obtain ⟨k1, us1, hr1, rfl⟩ := hv1
  obtain ⟨s1, rfl, _⟩ := hr1.int Try.underlying3
  obtain ⟨k2, us2, hr2, rfl⟩ := hv2
  obtain ⟨p2, q2, sh2, dt2, rfl, oa2, ob2, na2, nb2, _⟩ := hr2.arr
  obtain ⟨k3, us3, hr3, rfl⟩ := hv3
  obtain ⟨p3, q3, sh3, dt3, rfl, oa3, ob3, na3, nb3, _⟩ := hr3.arr
  simp only [mkV, Try.underlying3, Try.underlying24]
  obtain ⟨a2a, a2c, rfl, _⟩ := oa2.op
  obtain ⟨a2b, a2d, rfl, _⟩ := ob2.op
  obtain ⟨a3a, a3c, rfl, _⟩ := oa3.op
  obtain ⟨a3b, a3d, rfl, _⟩ := ob3.op
  refine w4 ?_
  unfold k4
  simp -implicitDefEqProofs only [kz, kk0, kk1, kk2, kk3, ↓two_true, ↓two_false, oS_some, oM_some, mkv, aggAt, Nat.reduceLeDiff, Nat.reduceSub, Nat.reduceMul, implies_true, Nat.reduceEqDiff, reduceIte, Nat.reduceAdd, Nat.reduceBEq, reduceCtorEq, al26, ld24, ld26, st26]
  have bx2 : (H ++ [⟨[.slice a2a sh2.length a2c, .slice a2b dt2.length a2d], .own⟩, ⟨[.slice a3a sh3.length a3c, .slice a3b dt3.length a3d], .own⟩] : AH)[H.length]? = some ⟨[.slice a2a sh2.length a2c, .slice a2b dt2.length a2d], .own⟩ := by rw [gt0]; rfl
  have ia2 := oa2.mono (L := [⟨[.slice a2a sh2.length a2c, .slice a2b dt2.length a2d], .own⟩, ⟨[.slice a3a sh3.length a3c, .slice a3b dt3.length a3d], .own⟩])
  have ib2 := ob2.mono (L := [⟨[.slice a2a sh2.length a2c, .slice a2b dt2.length a2d], .own⟩, ⟨[.slice a3a sh3.length a3c, .slice a3b dt3.length a3d], .own⟩])
  have bx3 : (H ++ [⟨[.slice a2a sh2.length a2c, .slice a2b dt2.length a2d], .own⟩, ⟨[.slice a3a sh3.length a3c, .slice a3b dt3.length a3d], .own⟩] : AH)[(H.length + 1)]? = some ⟨[.slice a3a sh3.length a3c, .slice a3b dt3.length a3d], .own⟩ := by rw [gti]; rfl
  have ia3 := oa3.mono (L := [⟨[.slice a2a sh2.length a2c, .slice a2b dt2.length a2d], .own⟩, ⟨[.slice a3a sh3.length a3c, .slice a3b dt3.length a3d], .own⟩])
  have ib3 := ob3.mono (L := [⟨[.slice a2a sh2.length a2c, .slice a2b dt2.length a2d], .own⟩, ⟨[.slice a3a sh3.length a3c, .slice a3b dt3.length a3d], .own⟩])
  have L0 : (H ++ [⟨[.slice a2a sh2.length a2c, .slice a2b dt2.length a2d], .own⟩, ⟨[.slice a3a sh3.length a3c, .slice a3b dt3.length a3d], .own⟩] : AH).length = H.length + 2 := by simp
  generalize hH0 : (H ++ [⟨[.slice a2a sh2.length a2c, .slice a2b dt2.length a2d], .own⟩, ⟨[.slice a3a sh3.length a3c, .slice a3b dt3.length a3d], .own⟩] : AH) = H0 at *
  refine (szArray_u ia2 ib2 na2 nb2 (by omega)).mono ?_
  rintro _ H1 ⟨rfl, hK1⟩
  have L1 := ext_len hK1
  have ia2 := ia2.ext hK1
  have ib2 := ib2.ext hK1
  have bx2 := get_ext bx2 hK1
  have ia3 := ia3.ext hK1
  have ib3 := ib3.ext hK1
  have bx3 := get_ext bx3 hK1
  simp -implicitDefEqProofs only [kz, kk0, kk1, kk2, kk3, ↓two_true, ↓two_false, oS_some, oM_some, mkv, aggAt, Nat.reduceLeDiff, Nat.reduceSub, Nat.reduceMul, implies_true, Nat.reduceEqDiff, reduceIte, Nat.reduceAdd, Nat.reduceBEq, reduceCtorEq, al26, ld24, ld26, st26, rd_own bx2, rd_own bx3]
  refine two_intro (fun h => trivial) (fun h => ?_)
  obtain ⟨hsv2, hsz2⟩ := szI_pos (by simpa using h)
  rw [hsv2]
  clear h
  refine (szArray_u ia3 ib3 na3 nb3 (by omega)).mono ?_
  rintro _ H2 ⟨rfl, hK2⟩
  have L2 := ext_len hK2
  have ia2 := ia2.ext hK2
  have ib2 := ib2.ext hK2
  have bx2 := get_ext bx2 hK2
  have ia3 := ia3.ext hK2
  have ib3 := ib3.ext hK2
  have bx3 := get_ext bx3 hK2
  simp -implicitDefEqProofs only [kz, kk0, kk1, kk2, kk3, ↓two_true, ↓two_false, oS_some, oM_some, mkv, aggAt, Nat.reduceLeDiff, Nat.reduceSub, Nat.reduceMul, implies_true, Nat.reduceEqDiff, reduceIte, Nat.reduceAdd, Nat.reduceBEq, reduceCtorEq, al26, ld24, ld26, st26, rd_own bx2, rd_own bx3]
  refine two_intro (fun h => trivial) (fun h => ?_)
  obtain ⟨hsv3, hsz3⟩ := szI_pos (by simpa using h)
  clear h
  have hs2 : sh2.length + dt2.length ≤ 1048576 := by omega
  have f_a2 := arr_rd ia2 ib2 hs2
  have r_a2 : LI.rg 0 H.length (.rd (arrL (.slice a2a (sh2).length a2c) (.slice a2b (dt2).length a2d)) (arrV (sh2) (dt2))) := fun b hb => ⟨Nat.zero_le _, (arr_rd oa2 ob2 hs2).lt b hb⟩
  have b_a2_H2 : LI.ok H2 (.blk H.length ⟨[.slice a2a sh2.length a2c, .slice a2b dt2.length a2d], .own⟩) := bx2
  have rb_a2 : LI.rg H.length (H.length + 1) (.blk H.length ⟨[.slice a2a sh2.length a2c, .slice a2b dt2.length a2d], .own⟩) := fun b hb => by cases hb; omega
  have hs3 : sh3.length + dt3.length ≤ 1048576 := by omega
  have f_a3 := arr_rd ia3 ib3 hs3
  have r_a3 : LI.rg 0 H.length (.rd (arrL (.slice a3a (sh3).length a3c) (.slice a3b (dt3).length a3d)) (arrV (sh3) (dt3))) := fun b hb => ⟨Nat.zero_le _, (arr_rd oa3 ob3 hs3).lt b hb⟩
  have b_a3_H2 : LI.ok H2 (.blk (H.length + 1) ⟨[.slice a3a sh3.length a3c, .slice a3b dt3.length a3d], .own⟩) := bx3
  have rb_a3 : LI.rg (H.length + 1) ((H.length + 1) + 1) (.blk (H.length + 1) ⟨[.slice a3a sh3.length a3c, .slice a3b dt3.length a3d], .own⟩) := fun b hb => by cases hb; omega
  clear ia2 ib2 bx2 oa2 ob2 ia3 ib3 bx3 oa3 ob3
  obtain ⟨R, hR⟩ : ∃ R, innR s0 s1 sh2 dt2 sh3 dt3 = R := ⟨_, rfl⟩
  have hRl : R.1.1.length ≤ 1048576 ∧ R.1.2.length ≤ 1048576 := by rw [← hR]; exact innR_lim
  refine (toArray_th f_a2 hs2).mono ?_
  rintro _ H3 ⟨⟨t2a, t2c, t2b, t2d, rfl, nl⟩, hK3⟩
  have L3 := ext_len hK3
  have f_a2 := f_a2.ext hK3
  have f_a3 := f_a3.ext hK3
  have b_a2_H3 := (b_a2_H2).ext hK3
  have b_a3_H3 := (b_a3_H2).ext hK3
  have f_t2 := (nl).ok.1
  have r_t2 := (nl).ok.2
  simp -implicitDefEqProofs only [kz, kk0, kk1, kk2, kk3, ↓two_true, ↓two_false, oS_some, oM_some, mkv, aggAt, Nat.reduceLeDiff, Nat.reduceSub, Nat.reduceMul, implies_true, Nat.reduceEqDiff, reduceIte, Nat.reduceAdd, Nat.reduceBEq, reduceCtorEq, al26, ld24, ld26, st26, rd_own b_a2_H2, rd_own b_a2_H3, rd_own b_a3_H2, rd_own b_a3_H3]
  refine (toArray_th f_a3 hs3).mono ?_
  rintro _ H4 ⟨⟨t3a, t3c, t3b, t3d, rfl, nl⟩, hK4⟩
  have L4 := ext_len hK4
  have f_a2 := f_a2.ext hK4
  have f_a3 := f_a3.ext hK4
  have f_t2 := f_t2.ext hK4
  have b_a2_H4 := (b_a2_H3).ext hK4
  have b_a3_H4 := (b_a3_H3).ext hK4
  have f_t3 := (nl).ok.1
  have r_t3 := (nl).ok.2
  simp -implicitDefEqProofs only [kz, kk0, kk1, kk2, kk3, ↓two_true, ↓two_false, oS_some, oM_some, mkv, aggAt, Nat.reduceLeDiff, Nat.reduceSub, Nat.reduceMul, implies_true, Nat.reduceEqDiff, reduceIte, Nat.reduceAdd, Nat.reduceBEq, reduceCtorEq, al26, ld24, ld26, st26, rd_own b_a2_H2, rd_own b_a2_H3, rd_own b_a2_H4, rd_own b_a3_H2, rd_own b_a3_H3, rd_own b_a3_H4]
  refine (specInner_u hR f_t2.rd f_t3.rd (by omega) (by omega)).mono ?_
  rintro _ H5 ⟨⟨wa, wc, wb, wd, rfl, nl⟩, hK5⟩
  have L5 := ext_len hK5
  have f_a2 := f_a2.ext hK5
  have f_a3 := f_a3.ext hK5
  have f_t2 := f_t2.ext hK5
  have f_t3 := f_t3.ext hK5
  have b_a2_H5 := (b_a2_H4).ext hK5
  have b_a3_H5 := (b_a3_H4).ext hK5
  have f_w := (nl).ok.1
  have r_w := (nl).ok.2
  simp -implicitDefEqProofs only [kz, kk0, kk1, kk2, kk3, ↓two_true, ↓two_false, oS_some, oM_some, mkv, aggAt, Nat.reduceLeDiff, Nat.reduceSub, Nat.reduceMul, implies_true, Nat.reduceEqDiff, reduceIte, Nat.reduceAdd, Nat.reduceBEq, reduceCtorEq, al26, ld24, ld26, st26, rd_own b_a2_H2, rd_own b_a2_H3, rd_own b_a2_H4, rd_own b_a2_H5, rd_own b_a3_H2, rd_own b_a3_H3, rd_own b_a3_H4, rd_own b_a3_H5]
  have b_w_H6 := LI.ok.box (H := H5) (cs := [.slice wa R.1.1.length wc, .slice wb R.1.2.length wd])
  have L6 : (H5 ++ [⟨[.slice wa R.1.1.length wc, .slice wb R.1.2.length wd], .own⟩] : AH).length = H5.length + 1 := by simp
  have rb_w : LI.rg H5.length (H5.length + 1) (.blk H5.length ⟨[.slice wa R.1.1.length wc, .slice wb R.1.2.length wd], .own⟩) := fun b hb => by cases hb; omega
  have hX6 : ∃ K, (H5 ++ [⟨[.slice wa R.1.1.length wc, .slice wb R.1.2.length wd], .own⟩] : AH) = H5 ++ K := ⟨_, rfl⟩
  have f_a2 := f_a2.ext hX6
  have f_a3 := f_a3.ext hX6
  have f_w := f_w.ext hX6
  have b_a2_H6 := (b_a2_H5).ext hX6
  have b_a3_H6 := (b_a3_H5).ext hX6
  clear hX6
  generalize (H5 ++ [⟨[.slice wa R.1.1.length wc, .slice wb R.1.2.length wd], .own⟩] : AH) = H6 at *
  try simp -implicitDefEqProofs only [kz, kk0, kk1, kk2, kk3, ↓two_true, ↓two_false, oS_some, oM_some, mkv, aggAt, Nat.reduceLeDiff, Nat.reduceSub, Nat.reduceMul, implies_true, Nat.reduceEqDiff, reduceIte, Nat.reduceAdd, Nat.reduceBEq, reduceCtorEq, al26, ld24, ld26, st26, rd_own b_a2_H2, rd_own b_a2_H3, rd_own b_a2_H4, rd_own b_a2_H5, rd_own b_a2_H6, rd_own b_a3_H2, rd_own b_a3_H3, rd_own b_a3_H4, rd_own b_a3_H5, rd_own b_a3_H6, rd_own b_w_H6]
  refine (toArray_th f_a2 hs2).mono ?_
  rintro _ H7 ⟨⟨x2a, x2c, x2b, x2d, rfl, nl⟩, hK7⟩
  have L7 := ext_len hK7
  have f_a2 := f_a2.ext hK7
  have f_a3 := f_a3.ext hK7
  have f_w := f_w.ext hK7
  have b_a2_H7 := (b_a2_H6).ext hK7
  have b_a3_H7 := (b_a3_H6).ext hK7
  have b_w_H7 := (b_w_H6).ext hK7
  have f_x2 := (nl).ok.1
  have r_x2 := (nl).ok.2
  simp -implicitDefEqProofs only [kz, kk0, kk1, kk2, kk3, ↓two_true, ↓two_false, oS_some, oM_some, mkv, aggAt, Nat.reduceLeDiff, Nat.reduceSub, Nat.reduceMul, implies_true, Nat.reduceEqDiff, reduceIte, Nat.reduceAdd, Nat.reduceBEq, reduceCtorEq, al26, ld24, ld26, st26, rd_own b_a2_H3, rd_own b_a2_H4, rd_own b_a2_H5, rd_own b_a2_H6, rd_own b_a2_H7, rd_own b_a3_H3, rd_own b_a3_H4, rd_own b_a3_H5, rd_own b_a3_H6, rd_own b_a3_H7, rd_own b_w_H6, rd_own b_w_H7]
  have b_x2_H8 := LI.ok.box (H := H7) (cs := [.slice x2a sh2.length x2c, .slice x2b dt2.length x2d])
  have L8 : (H7 ++ [⟨[.slice x2a sh2.length x2c, .slice x2b dt2.length x2d], .own⟩] : AH).length = H7.length + 1 := by simp
  have rb_x2 : LI.rg H7.length (H7.length + 1) (.blk H7.length ⟨[.slice x2a sh2.length x2c, .slice x2b dt2.length x2d], .own⟩) := fun b hb => by cases hb; omega
  have hX8 : ∃ K, (H7 ++ [⟨[.slice x2a sh2.length x2c, .slice x2b dt2.length x2d], .own⟩] : AH) = H7 ++ K := ⟨_, rfl⟩
  have f_a2 := f_a2.ext hX8
  have f_a3 := f_a3.ext hX8
  have f_w := f_w.ext hX8
  have f_x2 := f_x2.ext hX8
  have b_a2_H8 := (b_a2_H7).ext hX8
  have b_a3_H8 := (b_a3_H7).ext hX8
  have b_w_H8 := (b_w_H7).ext hX8
  clear hX8
  generalize (H7 ++ [⟨[.slice x2a sh2.length x2c, .slice x2b dt2.length x2d], .own⟩] : AH) = H8 at *
  try simp -implicitDefEqProofs only [kz, kk0, kk1, kk2, kk3, ↓two_true, ↓two_false, oS_some, oM_some, mkv, aggAt, Nat.reduceLeDiff, Nat.reduceSub, Nat.reduceMul, implies_true, Nat.reduceEqDiff, reduceIte, Nat.reduceAdd, Nat.reduceBEq, reduceCtorEq, al26, ld24, ld26, st26, rd_own b_a2_H4, rd_own b_a2_H5, rd_own b_a2_H6, rd_own b_a2_H7, rd_own b_a2_H8, rd_own b_a3_H4, rd_own b_a3_H5, rd_own b_a3_H6, rd_own b_a3_H7, rd_own b_a3_H8, rd_own b_w_H6, rd_own b_w_H7, rd_own b_w_H8, rd_own b_x2_H8]
  refine (toArray_th f_a3 hs3).mono ?_
  rintro _ H9 ⟨⟨x3a, x3c, x3b, x3d, rfl, nl⟩, hK9⟩
  have L9 := ext_len hK9
  have f_a2 := f_a2.ext hK9
  have f_a3 := f_a3.ext hK9
  have f_w := f_w.ext hK9
  have f_x2 := f_x2.ext hK9
  have b_a2_H9 := (b_a2_H8).ext hK9
  have b_a3_H9 := (b_a3_H8).ext hK9
  have b_w_H9 := (b_w_H8).ext hK9
  have b_x2_H9 := (b_x2_H8).ext hK9
  have f_x3 := (nl).ok.1
  have r_x3 := (nl).ok.2
  simp -implicitDefEqProofs only [kz, kk0, kk1, kk2, kk3, ↓two_true, ↓two_false, oS_some, oM_some, mkv, aggAt, Nat.reduceLeDiff, Nat.reduceSub, Nat.reduceMul, implies_true, Nat.reduceEqDiff, reduceIte, Nat.reduceAdd, Nat.reduceBEq, reduceCtorEq, al26, ld24, ld26, st26, rd_own b_a2_H5, rd_own b_a2_H6, rd_own b_a2_H7, rd_own b_a2_H8, rd_own b_a2_H9, rd_own b_a3_H5, rd_own b_a3_H6, rd_own b_a3_H7, rd_own b_a3_H8, rd_own b_a3_H9, rd_own b_w_H6, rd_own b_w_H7, rd_own b_w_H8, rd_own b_w_H9, rd_own b_x2_H8, rd_own b_x2_H9]
  have b_x3_H10 := LI.ok.box (H := H9) (cs := [.slice x3a sh3.length x3c, .slice x3b dt3.length x3d])
  have L10 : (H9 ++ [⟨[.slice x3a sh3.length x3c, .slice x3b dt3.length x3d], .own⟩] : AH).length = H9.length + 1 := by simp
  have rb_x3 : LI.rg H9.length (H9.length + 1) (.blk H9.length ⟨[.slice x3a sh3.length x3c, .slice x3b dt3.length x3d], .own⟩) := fun b hb => by cases hb; omega
  have hX10 : ∃ K, (H9 ++ [⟨[.slice x3a sh3.length x3c, .slice x3b dt3.length x3d], .own⟩] : AH) = H9 ++ K := ⟨_, rfl⟩
  have f_a2 := f_a2.ext hX10
  have f_a3 := f_a3.ext hX10
  have f_w := f_w.ext hX10
  have f_x2 := f_x2.ext hX10
  have f_x3 := f_x3.ext hX10
  have b_a2_H10 := (b_a2_H9).ext hX10
  have b_a3_H10 := (b_a3_H9).ext hX10
  have b_w_H10 := (b_w_H9).ext hX10
  have b_x2_H10 := (b_x2_H9).ext hX10
  clear hX10
  generalize (H9 ++ [⟨[.slice x3a sh3.length x3c, .slice x3b dt3.length x3d], .own⟩] : AH) = H10 at *
  try simp -implicitDefEqProofs only [kz, kk0, kk1, kk2, kk3, ↓two_true, ↓two_false, oS_some, oM_some, mkv, aggAt, Nat.reduceLeDiff, Nat.reduceSub, Nat.reduceMul, implies_true, Nat.reduceEqDiff, reduceIte, Nat.reduceAdd, Nat.reduceBEq, reduceCtorEq, al26, ld24, ld26, st26, rd_own b_a2_H6, rd_own b_a2_H7, rd_own b_a2_H8, rd_own b_a2_H9, rd_own b_a2_H10, rd_own b_a3_H6, rd_own b_a3_H7, rd_own b_a3_H8, rd_own b_a3_H9, rd_own b_a3_H10, rd_own b_w_H6, rd_own b_w_H7, rd_own b_w_H8, rd_own b_w_H9, rd_own b_w_H10, rd_own b_x2_H8, rd_own b_x2_H9, rd_own b_x2_H10, rd_own b_x3_H10]
  refine (implInner_u hR f_x2.rd f_x3.rd (by omega) (by omega)).mono ?_
  rintro _ H11 ⟨⟨ga, gc, gb, gd, rfl, nl⟩, hK11⟩
  have L11 := ext_len hK11
  have f_a2 := f_a2.ext hK11
  have f_a3 := f_a3.ext hK11
  have f_w := f_w.ext hK11
  have f_x2 := f_x2.ext hK11
  have f_x3 := f_x3.ext hK11
  have b_a2_H11 := (b_a2_H10).ext hK11
  have b_a3_H11 := (b_a3_H10).ext hK11
  have b_w_H11 := (b_w_H10).ext hK11
  have b_x2_H11 := (b_x2_H10).ext hK11
  have b_x3_H11 := (b_x3_H10).ext hK11
  have f_g := (nl).ok.1
  have r_g := (nl).ok.2
  simp -implicitDefEqProofs only [kz, kk0, kk1, kk2, kk3, ↓two_true, ↓two_false, oS_some, oM_some, mkv, aggAt, Nat.reduceLeDiff, Nat.reduceSub, Nat.reduceMul, implies_true, Nat.reduceEqDiff, reduceIte, Nat.reduceAdd, Nat.reduceBEq, reduceCtorEq, al26, ld24, ld26, st26, rd_own b_a2_H7, rd_own b_a2_H8, rd_own b_a2_H9, rd_own b_a2_H10, rd_own b_a2_H11, rd_own b_a3_H7, rd_own b_a3_H8, rd_own b_a3_H9, rd_own b_a3_H10, rd_own b_a3_H11, rd_own b_w_H7, rd_own b_w_H8, rd_own b_w_H9, rd_own b_w_H10, rd_own b_w_H11, rd_own b_x2_H8, rd_own b_x2_H9, rd_own b_x2_H10, rd_own b_x2_H11, rd_own b_x3_H10, rd_own b_x3_H11]
  have b_g_H12 := LI.ok.box (H := H11) (cs := [.slice ga R.1.1.length gc, .slice gb R.1.2.length gd])
  have L12 : (H11 ++ [⟨[.slice ga R.1.1.length gc, .slice gb R.1.2.length gd], .own⟩] : AH).length = H11.length + 1 := by simp
  have rb_g : LI.rg H11.length (H11.length + 1) (.blk H11.length ⟨[.slice ga R.1.1.length gc, .slice gb R.1.2.length gd], .own⟩) := fun b hb => by cases hb; omega
  have hX12 : ∃ K, (H11 ++ [⟨[.slice ga R.1.1.length gc, .slice gb R.1.2.length gd], .own⟩] : AH) = H11 ++ K := ⟨_, rfl⟩
  have f_a2 := f_a2.ext hX12
  have f_a3 := f_a3.ext hX12
  have f_w := f_w.ext hX12
  have f_x2 := f_x2.ext hX12
  have f_x3 := f_x3.ext hX12
  have f_g := f_g.ext hX12
  have b_a2_H12 := (b_a2_H11).ext hX12
  have b_a3_H12 := (b_a3_H11).ext hX12
  have b_w_H12 := (b_w_H11).ext hX12
  have b_x2_H12 := (b_x2_H11).ext hX12
  have b_x3_H12 := (b_x3_H11).ext hX12
  clear hX12
  generalize (H11 ++ [⟨[.slice ga R.1.1.length gc, .slice gb R.1.2.length gd], .own⟩] : AH) = H12 at *
  try simp -implicitDefEqProofs only [kz, kk0, kk1, kk2, kk3, ↓two_true, ↓two_false, oS_some, oM_some, mkv, aggAt, Nat.reduceLeDiff, Nat.reduceSub, Nat.reduceMul, implies_true, Nat.reduceEqDiff, reduceIte, Nat.reduceAdd, Nat.reduceBEq, reduceCtorEq, al26, ld24, ld26, st26, rd_own b_a2_H8, rd_own b_a2_H9, rd_own b_a2_H10, rd_own b_a2_H11, rd_own b_a2_H12, rd_own b_a3_H8, rd_own b_a3_H9, rd_own b_a3_H10, rd_own b_a3_H11, rd_own b_a3_H12, rd_own b_w_H8, rd_own b_w_H9, rd_own b_w_H10, rd_own b_w_H11, rd_own b_w_H12, rd_own b_x2_H8, rd_own b_x2_H9, rd_own b_x2_H10, rd_own b_x2_H11, rd_own b_x2_H12, rd_own b_x3_H10, rd_own b_x3_H11, rd_own b_x3_H12, rd_own b_g_H12]
  refine (eqArray_th f_g.rd f_w.rd).mono ?_
  rintro _ H13 ⟨rfl, hK13⟩
  have L13 := ext_len hK13
  have f_a2 := f_a2.ext hK13
  have f_a3 := f_a3.ext hK13
  have f_w := f_w.ext hK13
  have f_x2 := f_x2.ext hK13
  have f_x3 := f_x3.ext hK13
  have f_g := f_g.ext hK13
  have b_a2_H13 := (b_a2_H12).ext hK13
  have b_a3_H13 := (b_a3_H12).ext hK13
  have b_w_H13 := (b_w_H12).ext hK13
  have b_x2_H13 := (b_x2_H12).ext hK13
  have b_x3_H13 := (b_x3_H12).ext hK13
  have b_g_H13 := (b_g_H12).ext hK13
  simp -implicitDefEqProofs only [kz, kk0, kk1, kk2, kk3, ↓two_true, ↓two_false, oS_some, oM_some, mkv, aggAt, Nat.reduceLeDiff, Nat.reduceSub, Nat.reduceMul, implies_true, Nat.reduceEqDiff, reduceIte, Nat.reduceAdd, Nat.reduceBEq, reduceCtorEq, al26, ld24, ld26, st26, rd_own b_a2_H9, rd_own b_a2_H10, rd_own b_a2_H11, rd_own b_a2_H12, rd_own b_a2_H13, rd_own b_a3_H9, rd_own b_a3_H10, rd_own b_a3_H11, rd_own b_a3_H12, rd_own b_a3_H13, rd_own b_w_H9, rd_own b_w_H10, rd_own b_w_H11, rd_own b_w_H12, rd_own b_w_H13, rd_own b_x2_H9, rd_own b_x2_H10, rd_own b_x2_H11, rd_own b_x2_H12, rd_own b_x2_H13, rd_own b_x3_H10, rd_own b_x3_H11, rd_own b_x3_H12, rd_own b_x3_H13, rd_own b_g_H12, rd_own b_g_H13, beq_self_eq_true, Bool.and_self, Bool.not_true, bne_self_eq_false]
  refine (toArray_th f_a2 hs2).mono ?_
  rintro _ H14 ⟨⟨y2a, y2c, y2b, y2d, rfl, nl⟩, hK14⟩
  have L14 := ext_len hK14
  have f_a2 := f_a2.ext hK14
  have f_a3 := f_a3.ext hK14
  have f_w := f_w.ext hK14
  have f_x2 := f_x2.ext hK14
  have f_x3 := f_x3.ext hK14
  have f_g := f_g.ext hK14
  have b_a2_H14 := (b_a2_H13).ext hK14
  have b_a3_H14 := (b_a3_H13).ext hK14
  have b_w_H14 := (b_w_H13).ext hK14
  have b_x2_H14 := (b_x2_H13).ext hK14
  have b_x3_H14 := (b_x3_H13).ext hK14
  have b_g_H14 := (b_g_H13).ext hK14
  have f_y2 := (nl).ok.1
  have r_y2 := (nl).ok.2
  simp -implicitDefEqProofs only [kz, kk0, kk1, kk2, kk3, ↓two_true, ↓two_false, oS_some, oM_some, mkv, aggAt, Nat.reduceLeDiff, Nat.reduceSub, Nat.reduceMul, implies_true, Nat.reduceEqDiff, reduceIte, Nat.reduceAdd, Nat.reduceBEq, reduceCtorEq, al26, ld24, ld26, st26, rd_own b_a2_H10, rd_own b_a2_H11, rd_own b_a2_H12, rd_own b_a2_H13, rd_own b_a2_H14, rd_own b_a3_H10, rd_own b_a3_H11, rd_own b_a3_H12, rd_own b_a3_H13, rd_own b_a3_H14, rd_own b_w_H10, rd_own b_w_H11, rd_own b_w_H12, rd_own b_w_H13, rd_own b_w_H14, rd_own b_x2_H10, rd_own b_x2_H11, rd_own b_x2_H12, rd_own b_x2_H13, rd_own b_x2_H14, rd_own b_x3_H10, rd_own b_x3_H11, rd_own b_x3_H12, rd_own b_x3_H13, rd_own b_x3_H14, rd_own b_g_H12, rd_own b_g_H13, rd_own b_g_H14]
  refine (eqArray_th f_x2.rd f_y2.rd).mono ?_
  rintro _ H15 ⟨rfl, hK15⟩
  have L15 := ext_len hK15
  have f_a2 := f_a2.ext hK15
  have f_a3 := f_a3.ext hK15
  have f_w := f_w.ext hK15
  have f_x2 := f_x2.ext hK15
  have f_x3 := f_x3.ext hK15
  have f_g := f_g.ext hK15
  have f_y2 := f_y2.ext hK15
  have b_a2_H15 := (b_a2_H14).ext hK15
  have b_a3_H15 := (b_a3_H14).ext hK15
  have b_w_H15 := (b_w_H14).ext hK15
  have b_x2_H15 := (b_x2_H14).ext hK15
  have b_x3_H15 := (b_x3_H14).ext hK15
  have b_g_H15 := (b_g_H14).ext hK15
  simp -implicitDefEqProofs only [kz, kk0, kk1, kk2, kk3, ↓two_true, ↓two_false, oS_some, oM_some, mkv, aggAt, Nat.reduceLeDiff, Nat.reduceSub, Nat.reduceMul, implies_true, Nat.reduceEqDiff, reduceIte, Nat.reduceAdd, Nat.reduceBEq, reduceCtorEq, al26, ld24, ld26, st26, rd_own b_a2_H11, rd_own b_a2_H12, rd_own b_a2_H13, rd_own b_a2_H14, rd_own b_a2_H15, rd_own b_a3_H11, rd_own b_a3_H12, rd_own b_a3_H13, rd_own b_a3_H14, rd_own b_a3_H15, rd_own b_w_H11, rd_own b_w_H12, rd_own b_w_H13, rd_own b_w_H14, rd_own b_w_H15, rd_own b_x2_H11, rd_own b_x2_H12, rd_own b_x2_H13, rd_own b_x2_H14, rd_own b_x2_H15, rd_own b_x3_H11, rd_own b_x3_H12, rd_own b_x3_H13, rd_own b_x3_H14, rd_own b_x3_H15, rd_own b_g_H12, rd_own b_g_H13, rd_own b_g_H14, rd_own b_g_H15, beq_self_eq_true, Bool.and_self, Bool.not_true, bne_self_eq_false]
  refine (toArray_th f_a3 hs3).mono ?_
  rintro _ H16 ⟨⟨y3a, y3c, y3b, y3d, rfl, nl⟩, hK16⟩
  have L16 := ext_len hK16
  have f_a2 := f_a2.ext hK16
  have f_a3 := f_a3.ext hK16
  have f_w := f_w.ext hK16
  have f_x2 := f_x2.ext hK16
  have f_x3 := f_x3.ext hK16
  have f_g := f_g.ext hK16
  have b_a2_H16 := (b_a2_H15).ext hK16
  have b_a3_H16 := (b_a3_H15).ext hK16
  have b_w_H16 := (b_w_H15).ext hK16
  have b_x2_H16 := (b_x2_H15).ext hK16
  have b_x3_H16 := (b_x3_H15).ext hK16
  have b_g_H16 := (b_g_H15).ext hK16
  have f_y3 := (nl).ok.1
  have r_y3 := (nl).ok.2
  simp -implicitDefEqProofs only [kz, kk0, kk1, kk2, kk3, ↓two_true, ↓two_false, oS_some, oM_some, mkv, aggAt, Nat.reduceLeDiff, Nat.reduceSub, Nat.reduceMul, implies_true, Nat.reduceEqDiff, reduceIte, Nat.reduceAdd, Nat.reduceBEq, reduceCtorEq, al26, ld24, ld26, st26, rd_own b_a2_H12, rd_own b_a2_H13, rd_own b_a2_H14, rd_own b_a2_H15, rd_own b_a2_H16, rd_own b_a3_H12, rd_own b_a3_H13, rd_own b_a3_H14, rd_own b_a3_H15, rd_own b_a3_H16, rd_own b_w_H12, rd_own b_w_H13, rd_own b_w_H14, rd_own b_w_H15, rd_own b_w_H16, rd_own b_x2_H12, rd_own b_x2_H13, rd_own b_x2_H14, rd_own b_x2_H15, rd_own b_x2_H16, rd_own b_x3_H12, rd_own b_x3_H13, rd_own b_x3_H14, rd_own b_x3_H15, rd_own b_x3_H16, rd_own b_g_H12, rd_own b_g_H13, rd_own b_g_H14, rd_own b_g_H15, rd_own b_g_H16]
  refine (eqArray_th f_x3.rd f_y3.rd).mono ?_
  rintro _ H17 ⟨rfl, hK17⟩
  have L17 := ext_len hK17
  have f_a2 := f_a2.ext hK17
  have f_a3 := f_a3.ext hK17
  have f_w := f_w.ext hK17
  have f_x2 := f_x2.ext hK17
  have f_x3 := f_x3.ext hK17
  have f_g := f_g.ext hK17
  have f_y3 := f_y3.ext hK17
  have b_a2_H17 := (b_a2_H16).ext hK17
  have b_a3_H17 := (b_a3_H16).ext hK17
  have b_w_H17 := (b_w_H16).ext hK17
  have b_x2_H17 := (b_x2_H16).ext hK17
  have b_x3_H17 := (b_x3_H16).ext hK17
  have b_g_H17 := (b_g_H16).ext hK17
  simp -implicitDefEqProofs only [kz, kk0, kk1, kk2, kk3, ↓two_true, ↓two_false, oS_some, oM_some, mkv, aggAt, Nat.reduceLeDiff, Nat.reduceSub, Nat.reduceMul, implies_true, Nat.reduceEqDiff, reduceIte, Nat.reduceAdd, Nat.reduceBEq, reduceCtorEq, al26, ld24, ld26, st26, rd_own b_a2_H13, rd_own b_a2_H14, rd_own b_a2_H15, rd_own b_a2_H16, rd_own b_a2_H17, rd_own b_a3_H13, rd_own b_a3_H14, rd_own b_a3_H15, rd_own b_a3_H16, rd_own b_a3_H17, rd_own b_w_H13, rd_own b_w_H14, rd_own b_w_H15, rd_own b_w_H16, rd_own b_w_H17, rd_own b_x2_H13, rd_own b_x2_H14, rd_own b_x2_H15, rd_own b_x2_H16, rd_own b_x2_H17, rd_own b_x3_H13, rd_own b_x3_H14, rd_own b_x3_H15, rd_own b_x3_H16, rd_own b_x3_H17, rd_own b_g_H13, rd_own b_g_H14, rd_own b_g_H15, rd_own b_g_H16, rd_own b_g_H17, beq_self_eq_true, Bool.and_self, Bool.not_true, bne_self_eq_false]
  have hc2 := arrV_cnt (sh := sh2) (dt := dt2)
  refine (markArray_u f_x2 (by rw [hc2]; omega)).mono ?_
  rintro _ H18 ⟨rfl, hm, fm, vm⟩
  have L18 := hm.len
  have hfr := (hm.ok r_x2).2
  have f_a2 := f_a2.frame hfr (r_a2.off (by omega))
  have f_a3 := f_a3.frame hfr (r_a3.off (by omega))
  have f_w := f_w.frame hfr (r_w.off (by omega))
  have f_x3 := f_x3.frame hfr (r_x3.off (by omega))
  have f_g := f_g.frame hfr (r_g.off (by omega))
  have b_a2_H18 := (b_a2_H17).frame hfr (rb_a2.off (by omega))
  have b_a3_H18 := (b_a3_H17).frame hfr (rb_a3.off (by omega))
  have b_w_H18 := (b_w_H17).frame hfr (rb_w.off (by omega))
  have b_x2_H18 := (b_x2_H17).frame hfr (rb_x2.off (by omega))
  have b_x3_H18 := (b_x3_H17).frame hfr (rb_x3.off (by omega))
  have b_g_H18 := (b_g_H17).frame hfr (rb_g.off (by omega))
  clear f_x2 fm vm hm hfr
  rw [hc2]
  simp -implicitDefEqProofs only [kz, kk0, kk1, kk2, kk3, ↓two_true, ↓two_false, oS_some, oM_some, mkv, aggAt, Nat.reduceLeDiff, Nat.reduceSub, Nat.reduceMul, implies_true, Nat.reduceEqDiff, reduceIte, Nat.reduceAdd, Nat.reduceBEq, reduceCtorEq, al26, ld24, ld26, st26, rd_own b_a2_H14, rd_own b_a2_H15, rd_own b_a2_H16, rd_own b_a2_H17, rd_own b_a2_H18, rd_own b_a3_H14, rd_own b_a3_H15, rd_own b_a3_H16, rd_own b_a3_H17, rd_own b_a3_H18, rd_own b_w_H14, rd_own b_w_H15, rd_own b_w_H16, rd_own b_w_H17, rd_own b_w_H18, rd_own b_x2_H14, rd_own b_x2_H15, rd_own b_x2_H16, rd_own b_x2_H17, rd_own b_x2_H18, rd_own b_x3_H14, rd_own b_x3_H15, rd_own b_x3_H16, rd_own b_x3_H17, rd_own b_x3_H18, rd_own b_g_H14, rd_own b_g_H15, rd_own b_g_H16, rd_own b_g_H17, rd_own b_g_H18]
  have hc3 := arrV_cnt (sh := sh3) (dt := dt3)
  refine (markArray_u f_x3 (by rw [hc3]; omega)).mono ?_
  rintro _ H19 ⟨rfl, hm, fm, vm⟩
  have L19 := hm.len
  have hfr := (hm.ok r_x3).2
  have f_a2 := f_a2.frame hfr (r_a2.off (by omega))
  have f_a3 := f_a3.frame hfr (r_a3.off (by omega))
  have f_w := f_w.frame hfr (r_w.off (by omega))
  have f_g := f_g.frame hfr (r_g.off (by omega))
  have b_a2_H19 := (b_a2_H18).frame hfr (rb_a2.off (by omega))
  have b_a3_H19 := (b_a3_H18).frame hfr (rb_a3.off (by omega))
  have b_w_H19 := (b_w_H18).frame hfr (rb_w.off (by omega))
  have b_x2_H19 := (b_x2_H18).frame hfr (rb_x2.off (by omega))
  have b_x3_H19 := (b_x3_H18).frame hfr (rb_x3.off (by omega))
  have b_g_H19 := (b_g_H18).frame hfr (rb_g.off (by omega))
  clear f_x3 fm vm hm hfr
  rw [hc3]
  have d1 : decide ((((1 : Int) + ((sh2.length + dt2.length : Nat) : Int)) + ((sh3.length + dt3.length : Nat) : Int)) < 0) = false := by simp; omega
  simp -implicitDefEqProofs only [kz, kk0, kk1, kk2, kk3, ↓two_true, ↓two_false, oS_some, oM_some, mkv, aggAt, Nat.reduceLeDiff, Nat.reduceSub, Nat.reduceMul, implies_true, Nat.reduceEqDiff, reduceIte, Nat.reduceAdd, Nat.reduceBEq, reduceCtorEq, al26, ld24, ld26, st26, rd_own b_a2_H15, rd_own b_a2_H16, rd_own b_a2_H17, rd_own b_a2_H18, rd_own b_a2_H19, rd_own b_a3_H15, rd_own b_a3_H16, rd_own b_a3_H17, rd_own b_a3_H18, rd_own b_a3_H19, rd_own b_w_H15, rd_own b_w_H16, rd_own b_w_H17, rd_own b_w_H18, rd_own b_w_H19, rd_own b_x2_H15, rd_own b_x2_H16, rd_own b_x2_H17, rd_own b_x2_H18, rd_own b_x2_H19, rd_own b_x3_H15, rd_own b_x3_H16, rd_own b_x3_H17, rd_own b_x3_H18, rd_own b_x3_H19, rd_own b_g_H15, rd_own b_g_H16, rd_own b_g_H17, rd_own b_g_H18, rd_own b_g_H19, d1]
  refine (eqArray_th f_g.rd f_w.rd).mono ?_
  rintro _ H20 ⟨rfl, hK20⟩
  have L20 := ext_len hK20
  have f_a2 := f_a2.ext hK20
  have f_a3 := f_a3.ext hK20
  have f_w := f_w.ext hK20
  have f_g := f_g.ext hK20
  have b_a2_H20 := (b_a2_H19).ext hK20
  have b_a3_H20 := (b_a3_H19).ext hK20
  have b_w_H20 := (b_w_H19).ext hK20
  have b_x2_H20 := (b_x2_H19).ext hK20
  have b_x3_H20 := (b_x3_H19).ext hK20
  have b_g_H20 := (b_g_H19).ext hK20
  simp -implicitDefEqProofs only [kz, kk0, kk1, kk2, kk3, ↓two_true, ↓two_false, oS_some, oM_some, mkv, aggAt, Nat.reduceLeDiff, Nat.reduceSub, Nat.reduceMul, implies_true, Nat.reduceEqDiff, reduceIte, Nat.reduceAdd, Nat.reduceBEq, reduceCtorEq, al26, ld24, ld26, st26, rd_own b_a2_H16, rd_own b_a2_H17, rd_own b_a2_H18, rd_own b_a2_H19, rd_own b_a2_H20, rd_own b_a3_H16, rd_own b_a3_H17, rd_own b_a3_H18, rd_own b_a3_H19, rd_own b_a3_H20, rd_own b_w_H16, rd_own b_w_H17, rd_own b_w_H18, rd_own b_w_H19, rd_own b_w_H20, rd_own b_x2_H16, rd_own b_x2_H17, rd_own b_x2_H18, rd_own b_x2_H19, rd_own b_x2_H20, rd_own b_x3_H16, rd_own b_x3_H17, rd_own b_x3_H18, rd_own b_x3_H19, rd_own b_x3_H20, rd_own b_g_H16, rd_own b_g_H17, rd_own b_g_H18, rd_own b_g_H19, rd_own b_g_H20, beq_self_eq_true, Bool.and_self, Bool.not_true, bne_self_eq_false]
  have hcg := arrV_cnt (sh := R.1.1) (dt := R.1.2)
  refine (markArray_u f_g (by rw [hcg]; omega)).mono ?_
  rintro _ H21 ⟨rfl, hm, fm, vm⟩
  have L21 := hm.len
  have hfr := (hm.ok r_g).2
  have f_a2 := f_a2.frame hfr (r_a2.off (by omega))
  have f_a3 := f_a3.frame hfr (r_a3.off (by omega))
  have f_w := f_w.frame hfr (r_w.off (by omega))
  have b_a2_H21 := (b_a2_H20).frame hfr (rb_a2.off (by omega))
  have b_a3_H21 := (b_a3_H20).frame hfr (rb_a3.off (by omega))
  have b_w_H21 := (b_w_H20).frame hfr (rb_w.off (by omega))
  have b_x2_H21 := (b_x2_H20).frame hfr (rb_x2.off (by omega))
  have b_x3_H21 := (b_x3_H20).frame hfr (rb_x3.off (by omega))
  have b_g_H21 := (b_g_H20).frame hfr (rb_g.off (by omega))
  have f_g := fm
  have r_g : LI.rg _ _ (.own (arrL (.slice ga R.1.1.length gc) (.slice gb R.1.2.length gd)) (arrV (mks 1 R.1.1.length) (mks (1 + R.1.1.length) R.1.2.length))) := fun b hb => r_g b hb
  have hc3 : cntF (arrV (mks 1 R.1.1.length) (mks (1 + R.1.1.length) R.1.2.length)).flatten = R.1.1.length + R.1.2.length := by rw [vm, cntF_mark, hcg]
  have hh : heldF (arrV (mks 1 R.1.1.length) (mks (1 + R.1.1.length) R.1.2.length)).flatten 1 = 1 + ((R.1.1.length + R.1.2.length : Nat) : Int) := by rw [vm, heldF_mark _ _ (by decide), hcg]
  rw [hcg]
  clear hm fm vm hfr
  have d2 : decide ((1 : Int) + ((R.1.1.length + R.1.2.length : Nat) : Int) < 0) = false := by simp; omega
  simp -implicitDefEqProofs only [kz, kk0, kk1, kk2, kk3, ↓two_true, ↓two_false, oS_some, oM_some, mkv, aggAt, Nat.reduceLeDiff, Nat.reduceSub, Nat.reduceMul, implies_true, Nat.reduceEqDiff, reduceIte, Nat.reduceAdd, Nat.reduceBEq, reduceCtorEq, al26, ld24, ld26, st26, rd_own b_a2_H17, rd_own b_a2_H18, rd_own b_a2_H19, rd_own b_a2_H20, rd_own b_a2_H21, rd_own b_a3_H17, rd_own b_a3_H18, rd_own b_a3_H19, rd_own b_a3_H20, rd_own b_a3_H21, rd_own b_w_H17, rd_own b_w_H18, rd_own b_w_H19, rd_own b_w_H20, rd_own b_w_H21, rd_own b_x2_H17, rd_own b_x2_H18, rd_own b_x2_H19, rd_own b_x2_H20, rd_own b_x2_H21, rd_own b_x3_H17, rd_own b_x3_H18, rd_own b_x3_H19, rd_own b_x3_H20, rd_own b_x3_H21, rd_own b_g_H17, rd_own b_g_H18, rd_own b_g_H19, rd_own b_g_H20, rd_own b_g_H21]
  refine (heldArray_u f_g (by rw [hc3]; omega)).mono ?_
  rintro _ H22 ⟨rfl, hK22⟩
  have L22 := ext_len hK22
  have f_a2 := f_a2.ext hK22
  have f_a3 := f_a3.ext hK22
  have f_w := f_w.ext hK22
  have f_g := f_g.ext hK22
  have b_a2_H22 := (b_a2_H21).ext hK22
  have b_a3_H22 := (b_a3_H21).ext hK22
  have b_w_H22 := (b_w_H21).ext hK22
  have b_x2_H22 := (b_x2_H21).ext hK22
  have b_x3_H22 := (b_x3_H21).ext hK22
  have b_g_H22 := (b_g_H21).ext hK22
  rw [hh]
  simp -implicitDefEqProofs only [kz, kk0, kk1, kk2, kk3, ↓two_true, ↓two_false, oS_some, oM_some, mkv, aggAt, Nat.reduceLeDiff, Nat.reduceSub, Nat.reduceMul, implies_true, Nat.reduceEqDiff, reduceIte, Nat.reduceAdd, Nat.reduceBEq, reduceCtorEq, al26, ld24, ld26, st26, rd_own b_a2_H18, rd_own b_a2_H19, rd_own b_a2_H20, rd_own b_a2_H21, rd_own b_a2_H22, rd_own b_a3_H18, rd_own b_a3_H19, rd_own b_a3_H20, rd_own b_a3_H21, rd_own b_a3_H22, rd_own b_w_H18, rd_own b_w_H19, rd_own b_w_H20, rd_own b_w_H21, rd_own b_w_H22, rd_own b_x2_H18, rd_own b_x2_H19, rd_own b_x2_H20, rd_own b_x2_H21, rd_own b_x2_H22, rd_own b_x3_H18, rd_own b_x3_H19, rd_own b_x3_H20, rd_own b_x3_H21, rd_own b_x3_H22, rd_own b_g_H18, rd_own b_g_H19, rd_own b_g_H20, rd_own b_g_H21, rd_own b_g_H22, d2, bne_self_eq_false]
  refine (toArray_th f_a2 hs2).mono ?_
  rintro _ H23 ⟨⟨z2a, z2c, z2b, z2d, rfl, nl⟩, hK23⟩
  have L23 := ext_len hK23
  have f_a2 := f_a2.ext hK23
  have f_a3 := f_a3.ext hK23
  have f_w := f_w.ext hK23
  have f_g := f_g.ext hK23
  have b_a2_H23 := (b_a2_H22).ext hK23
  have b_a3_H23 := (b_a3_H22).ext hK23
  have b_w_H23 := (b_w_H22).ext hK23
  have b_x2_H23 := (b_x2_H22).ext hK23
  have b_x3_H23 := (b_x3_H22).ext hK23
  have b_g_H23 := (b_g_H22).ext hK23
  have f_z2 := (nl).ok.1
  have r_z2 := (nl).ok.2
  simp -implicitDefEqProofs only [kz, kk0, kk1, kk2, kk3, ↓two_true, ↓two_false, oS_some, oM_some, mkv, aggAt, Nat.reduceLeDiff, Nat.reduceSub, Nat.reduceMul, implies_true, Nat.reduceEqDiff, reduceIte, Nat.reduceAdd, Nat.reduceBEq, reduceCtorEq, al26, ld24, ld26, st26, rd_own b_a2_H19, rd_own b_a2_H20, rd_own b_a2_H21, rd_own b_a2_H22, rd_own b_a2_H23, rd_own b_a3_H19, rd_own b_a3_H20, rd_own b_a3_H21, rd_own b_a3_H22, rd_own b_a3_H23, rd_own b_w_H19, rd_own b_w_H20, rd_own b_w_H21, rd_own b_w_H22, rd_own b_w_H23, rd_own b_x2_H19, rd_own b_x2_H20, rd_own b_x2_H21, rd_own b_x2_H22, rd_own b_x2_H23, rd_own b_x3_H19, rd_own b_x3_H20, rd_own b_x3_H21, rd_own b_x3_H22, rd_own b_x3_H23, rd_own b_g_H19, rd_own b_g_H20, rd_own b_g_H21, rd_own b_g_H22, rd_own b_g_H23]
  refine (toArray_th f_a3 hs3).mono ?_
  rintro _ H24 ⟨⟨z3a, z3c, z3b, z3d, rfl, nl⟩, hK24⟩
  have L24 := ext_len hK24
  have f_a2 := f_a2.ext hK24
  have f_a3 := f_a3.ext hK24
  have f_w := f_w.ext hK24
  have f_g := f_g.ext hK24
  have f_z2 := f_z2.ext hK24
  have b_a2_H24 := (b_a2_H23).ext hK24
  have b_a3_H24 := (b_a3_H23).ext hK24
  have b_w_H24 := (b_w_H23).ext hK24
  have b_x2_H24 := (b_x2_H23).ext hK24
  have b_x3_H24 := (b_x3_H23).ext hK24
  have b_g_H24 := (b_g_H23).ext hK24
  have f_z3 := (nl).ok.1
  have r_z3 := (nl).ok.2
  simp -implicitDefEqProofs only [kz, kk0, kk1, kk2, kk3, ↓two_true, ↓two_false, oS_some, oM_some, mkv, aggAt, Nat.reduceLeDiff, Nat.reduceSub, Nat.reduceMul, implies_true, Nat.reduceEqDiff, reduceIte, Nat.reduceAdd, Nat.reduceBEq, reduceCtorEq, al26, ld24, ld26, st26, rd_own b_a2_H20, rd_own b_a2_H21, rd_own b_a2_H22, rd_own b_a2_H23, rd_own b_a2_H24, rd_own b_a3_H20, rd_own b_a3_H21, rd_own b_a3_H22, rd_own b_a3_H23, rd_own b_a3_H24, rd_own b_w_H20, rd_own b_w_H21, rd_own b_w_H22, rd_own b_w_H23, rd_own b_w_H24, rd_own b_x2_H20, rd_own b_x2_H21, rd_own b_x2_H22, rd_own b_x2_H23, rd_own b_x2_H24, rd_own b_x3_H20, rd_own b_x3_H21, rd_own b_x3_H22, rd_own b_x3_H23, rd_own b_x3_H24, rd_own b_g_H20, rd_own b_g_H21, rd_own b_g_H22, rd_own b_g_H23, rd_own b_g_H24]
  refine (implInner_u hR f_z2.rd f_z3.rd (by omega) (by omega)).mono ?_
  rintro _ H25 ⟨⟨ha, hc, hb, hd, rfl, nl⟩, hK25⟩
  have L25 := ext_len hK25
  have f_a2 := f_a2.ext hK25
  have f_a3 := f_a3.ext hK25
  have f_w := f_w.ext hK25
  have f_g := f_g.ext hK25
  have f_z2 := f_z2.ext hK25
  have f_z3 := f_z3.ext hK25
  have b_a2_H25 := (b_a2_H24).ext hK25
  have b_a3_H25 := (b_a3_H24).ext hK25
  have b_w_H25 := (b_w_H24).ext hK25
  have b_x2_H25 := (b_x2_H24).ext hK25
  have b_x3_H25 := (b_x3_H24).ext hK25
  have b_g_H25 := (b_g_H24).ext hK25
  have f_h := (nl).ok.1
  have r_h := (nl).ok.2
  simp -implicitDefEqProofs only [kz, kk0, kk1, kk2, kk3, ↓two_true, ↓two_false, oS_some, oM_some, mkv, aggAt, Nat.reduceLeDiff, Nat.reduceSub, Nat.reduceMul, implies_true, Nat.reduceEqDiff, reduceIte, Nat.reduceAdd, Nat.reduceBEq, reduceCtorEq, al26, ld24, ld26, st26, rd_own b_a2_H21, rd_own b_a2_H22, rd_own b_a2_H23, rd_own b_a2_H24, rd_own b_a2_H25, rd_own b_a3_H21, rd_own b_a3_H22, rd_own b_a3_H23, rd_own b_a3_H24, rd_own b_a3_H25, rd_own b_w_H21, rd_own b_w_H22, rd_own b_w_H23, rd_own b_w_H24, rd_own b_w_H25, rd_own b_x2_H21, rd_own b_x2_H22, rd_own b_x2_H23, rd_own b_x2_H24, rd_own b_x2_H25, rd_own b_x3_H21, rd_own b_x3_H22, rd_own b_x3_H23, rd_own b_x3_H24, rd_own b_x3_H25, rd_own b_g_H21, rd_own b_g_H22, rd_own b_g_H23, rd_own b_g_H24, rd_own b_g_H25]
  have b_h_H26 := LI.ok.box (H := H25) (cs := [.slice ha R.1.1.length hc, .slice hb R.1.2.length hd])
  have L26 : (H25 ++ [⟨[.slice ha R.1.1.length hc, .slice hb R.1.2.length hd], .own⟩] : AH).length = H25.length + 1 := by simp
  have rb_h : LI.rg H25.length (H25.length + 1) (.blk H25.length ⟨[.slice ha R.1.1.length hc, .slice hb R.1.2.length hd], .own⟩) := fun b hb => by cases hb; omega
  have hX26 : ∃ K, (H25 ++ [⟨[.slice ha R.1.1.length hc, .slice hb R.1.2.length hd], .own⟩] : AH) = H25 ++ K := ⟨_, rfl⟩
  have f_a2 := f_a2.ext hX26
  have f_a3 := f_a3.ext hX26
  have f_w := f_w.ext hX26
  have f_g := f_g.ext hX26
  have f_z2 := f_z2.ext hX26
  have f_z3 := f_z3.ext hX26
  have f_h := f_h.ext hX26
  have b_a2_H26 := (b_a2_H25).ext hX26
  have b_a3_H26 := (b_a3_H25).ext hX26
  have b_w_H26 := (b_w_H25).ext hX26
  have b_x2_H26 := (b_x2_H25).ext hX26
  have b_x3_H26 := (b_x3_H25).ext hX26
  have b_g_H26 := (b_g_H25).ext hX26
  clear hX26
  generalize (H25 ++ [⟨[.slice ha R.1.1.length hc, .slice hb R.1.2.length hd], .own⟩] : AH) = H26 at *
  try simp -implicitDefEqProofs only [kz, kk0, kk1, kk2, kk3, ↓two_true, ↓two_false, oS_some, oM_some, mkv, aggAt, Nat.reduceLeDiff, Nat.reduceSub, Nat.reduceMul, implies_true, Nat.reduceEqDiff, reduceIte, Nat.reduceAdd, Nat.reduceBEq, reduceCtorEq, al26, ld24, ld26, st26, rd_own b_a2_H22, rd_own b_a2_H23, rd_own b_a2_H24, rd_own b_a2_H25, rd_own b_a2_H26, rd_own b_a3_H22, rd_own b_a3_H23, rd_own b_a3_H24, rd_own b_a3_H25, rd_own b_a3_H26, rd_own b_w_H22, rd_own b_w_H23, rd_own b_w_H24, rd_own b_w_H25, rd_own b_w_H26, rd_own b_x2_H22, rd_own b_x2_H23, rd_own b_x2_H24, rd_own b_x2_H25, rd_own b_x2_H26, rd_own b_x3_H22, rd_own b_x3_H23, rd_own b_x3_H24, rd_own b_x3_H25, rd_own b_x3_H26, rd_own b_g_H22, rd_own b_g_H23, rd_own b_g_H24, rd_own b_g_H25, rd_own b_g_H26, rd_own b_h_H26]
  refine (eqArray_th f_h.rd f_w.rd).mono ?_
  rintro _ H27 ⟨rfl, hK27⟩
  have L27 := ext_len hK27
  have f_a2 := f_a2.ext hK27
  have f_a3 := f_a3.ext hK27
  have f_w := f_w.ext hK27
  have f_g := f_g.ext hK27
  have f_z2 := f_z2.ext hK27
  have f_z3 := f_z3.ext hK27
  have f_h := f_h.ext hK27
  have b_a2_H27 := (b_a2_H26).ext hK27
  have b_a3_H27 := (b_a3_H26).ext hK27
  have b_w_H27 := (b_w_H26).ext hK27
  have b_x2_H27 := (b_x2_H26).ext hK27
  have b_x3_H27 := (b_x3_H26).ext hK27
  have b_g_H27 := (b_g_H26).ext hK27
  have b_h_H27 := (b_h_H26).ext hK27
  simp -implicitDefEqProofs only [kz, kk0, kk1, kk2, kk3, ↓two_true, ↓two_false, oS_some, oM_some, mkv, aggAt, Nat.reduceLeDiff, Nat.reduceSub, Nat.reduceMul, implies_true, Nat.reduceEqDiff, reduceIte, Nat.reduceAdd, Nat.reduceBEq, reduceCtorEq, al26, ld24, ld26, st26, rd_own b_a2_H23, rd_own b_a2_H24, rd_own b_a2_H25, rd_own b_a2_H26, rd_own b_a2_H27, rd_own b_a3_H23, rd_own b_a3_H24, rd_own b_a3_H25, rd_own b_a3_H26, rd_own b_a3_H27, rd_own b_w_H23, rd_own b_w_H24, rd_own b_w_H25, rd_own b_w_H26, rd_own b_w_H27, rd_own b_x2_H23, rd_own b_x2_H24, rd_own b_x2_H25, rd_own b_x2_H26, rd_own b_x2_H27, rd_own b_x3_H23, rd_own b_x3_H24, rd_own b_x3_H25, rd_own b_x3_H26, rd_own b_x3_H27, rd_own b_g_H23, rd_own b_g_H24, rd_own b_g_H25, rd_own b_g_H26, rd_own b_g_H27, rd_own b_h_H26, rd_own b_h_H27, beq_self_eq_true, Bool.and_self, Bool.not_true, bne_self_eq_false]
  refine (heldArray_u f_g (by rw [hc3]; omega)).mono ?_
  rintro _ H28 ⟨rfl, hK28⟩
  have L28 := ext_len hK28
  have f_a2 := f_a2.ext hK28
  have f_a3 := f_a3.ext hK28
  have f_w := f_w.ext hK28
  have f_g := f_g.ext hK28
  have f_z2 := f_z2.ext hK28
  have f_z3 := f_z3.ext hK28
  have f_h := f_h.ext hK28
  have b_a2_H28 := (b_a2_H27).ext hK28
  have b_a3_H28 := (b_a3_H27).ext hK28
  have b_w_H28 := (b_w_H27).ext hK28
  have b_x2_H28 := (b_x2_H27).ext hK28
  have b_x3_H28 := (b_x3_H27).ext hK28
  have b_g_H28 := (b_g_H27).ext hK28
  have b_h_H28 := (b_h_H27).ext hK28
  rw [hh]
  simp -implicitDefEqProofs only [kz, kk0, kk1, kk2, kk3, ↓two_true, ↓two_false, oS_some, oM_some, mkv, aggAt, Nat.reduceLeDiff, Nat.reduceSub, Nat.reduceMul, implies_true, Nat.reduceEqDiff, reduceIte, Nat.reduceAdd, Nat.reduceBEq, reduceCtorEq, al26, ld24, ld26, st26, rd_own b_a2_H24, rd_own b_a2_H25, rd_own b_a2_H26, rd_own b_a2_H27, rd_own b_a2_H28, rd_own b_a3_H24, rd_own b_a3_H25, rd_own b_a3_H26, rd_own b_a3_H27, rd_own b_a3_H28, rd_own b_w_H24, rd_own b_w_H25, rd_own b_w_H26, rd_own b_w_H27, rd_own b_w_H28, rd_own b_x2_H24, rd_own b_x2_H25, rd_own b_x2_H26, rd_own b_x2_H27, rd_own b_x2_H28, rd_own b_x3_H24, rd_own b_x3_H25, rd_own b_x3_H26, rd_own b_x3_H27, rd_own b_x3_H28, rd_own b_g_H24, rd_own b_g_H25, rd_own b_g_H26, rd_own b_g_H27, rd_own b_g_H28, rd_own b_h_H26, rd_own b_h_H27, rd_own b_h_H28, d2, bne_self_eq_false]

end Go.Proofs.Ytmlimgdpcoloiaa.AM
