/- What the functions answer, part 3. -/
import Derived.Test.YtdagncfnkenbfaaP2
set_option linter.unusedVariables false
set_option linter.unusedSimpArgs false
set_option linter.defProp false
set_option maxRecDepth 100000
/- What the functions answer, part 3. -/
namespace Go.Proofs.Ytdagncfnkenbfaa.AM
open Go Go.Proofs.Ytdagncfnkenbfaa Go.Proofs
set_option maxHeartbeats 4000000 in
theorem specPack_ok {H : AH} {v : Value} {n : Nat} {xs : List Value} (hv : FRow H v kInstr n xs) (hl : n ≤ 1048576) :
    CallsA Try.prog 42 #[v] H fun r H' => (∃ w, r = .tuple #[w, .bool (cdOk (insL (cvs H xs) n))] ∧ ByNew H H' w (pkA (insL (cvs H xs) n))) ∧ ∃ K, H' = H ++ K := by
  have hc := specCodeOk_ok hv hl
  obtain ⟨a, c, rfl, gv⟩ := hv.opn 6 rfl
  generalize hL : insL (cvs H xs) n = l at *
  have hll : l.length = n := by rw [← hL, insL_len]
  have q := (LX.nil (H := H))
  refine w42 ?_
  unfold k42
  simp -implicitDefEqProofs only [kz, kk0, kk1, kk2, kk3, ↓two_true, ↓two_false, mkv, aggAt, Nat.reduceLeDiff, Nat.reduceSub, Nat.reduceMul, implies_true, Nat.reduceEqDiff, reduceIte, Nat.reduceAdd, Nat.reduceBEq, reduceCtorEq, al66, ap22_22, bs22_0, bs22_1, bs22_2, bs22_5, cv3_5, fa63_0, fa63_1, fa63_2, fa66_0, fa66_1, fa66_2, fa66_3, ix29, ix64, ld3, ld64, ld66, ln29, ln64, st66]
  refine hc.mono ?_
  rintro _ H1 ⟨rfl, hK1⟩
  have q1 := q.extd hK1
  simp -implicitDefEqProofs only [kz, kk0, kk1, kk2, kk3, ↓two_true, ↓two_false, mkv, aggAt, Nat.reduceLeDiff, Nat.reduceSub, Nat.reduceMul, implies_true, Nat.reduceEqDiff, reduceIte, Nat.reduceAdd, Nat.reduceBEq, reduceCtorEq, al66, ap22_22, bs22_0, bs22_1, bs22_2, bs22_5, cv3_5, fa63_0, fa63_1, fa63_2, fa66_0, fa66_1, fa66_2, fa66_3, ix29, ix64, ld3, ld64, ld66, ln29, ln64, st66]
  refine two_intro (fun u1 => ?_) (fun u1 => ?_)
  · have hk : cdOk l = false := by simpa using u1
    rw [hk]
    refine st_cells q1 fun H2 q2 => ?_
    try simp -implicitDefEqProofs only [kz, kk0, kk1, kk2, kk3, ↓two_true, ↓two_false, mkv, aggAt, Nat.reduceLeDiff, Nat.reduceSub, Nat.reduceMul, implies_true, Nat.reduceEqDiff, reduceIte, Nat.reduceAdd, Nat.reduceBEq, reduceCtorEq, al66, ap22_22, bs22_0, bs22_1, bs22_2, bs22_5, cv3_5, fa63_0, fa63_1, fa63_2, fa66_0, fa66_1, fa66_2, fa66_3, ix29, ix64, ld3, ld64, ld66, ln29, ln64, st66]
    have hA : pkA l = [] := by unfold pkA; rw [if_neg (by rw [hk]; decide)]
    rw [hA]
    exact ⟨⟨_, rfl, .inr ⟨_, rfl, ext_len hK1, q2.bx 0 rfl⟩⟩, q2.ext⟩
  · have hk : cdOk l = true := by simpa using u1
    have hk' := hk
    unfold cdOk at hk'
    simp only [Bool.and_eq_true] at hk'
    have hb2 : 1 ≤ n ∧ n ≤ 60 := by have := hk'.1; rw [hll] at this; simp [inB] at this; omega
    have hok := hk'.2.1
    clear hk'
    try simp -implicitDefEqProofs only [kz, kk0, kk1, kk2, kk3, ↓two_true, ↓two_false, mkv, aggAt, Nat.reduceLeDiff, Nat.reduceSub, Nat.reduceMul, implies_true, Nat.reduceEqDiff, reduceIte, Nat.reduceAdd, Nat.reduceBEq, reduceCtorEq, al66, ap22_22, bs22_0, bs22_1, bs22_2, bs22_5, cv3_5, fa63_0, fa63_1, fa63_2, fa66_0, fa66_1, fa66_2, fa66_3, ix29, ix64, ld3, ld64, ld66, ln29, ln64, st66]
    refine st_cells q1 fun H2 q2 => ?_
    simp -implicitDefEqProofs only [kz, kk0, kk1, kk2, kk3, ↓two_true, ↓two_false, mkv, aggAt, Nat.reduceLeDiff, Nat.reduceSub, Nat.reduceMul, implies_true, Nat.reduceEqDiff, reduceIte, Nat.reduceAdd, Nat.reduceBEq, reduceCtorEq, al66, ap22_22, bs22_0, bs22_1, bs22_2, bs22_5, cv3_5, fa63_0, fa63_1, fa63_2, fa66_0, fa66_1, fa66_2, fa66_3, ix29, ix64, ld3, ld64, ld66, ln29, ln64, st66]
    have e0 : [Value.int .u8 (IntKind.u8.wrap (n : Int))] = bts (pkT l 0) := by rw [← hll]; rfl
    rw [e0] at q2
    refine rW_loopQ (σ := Nat × Nat) q2 [0] (fun x tm => tm 4 = .slice (some ⟨x.2, 0, none⟩) (pkT l x.1).length 1 ∧ tm 5 = .int .i64 x.1 ∧ x.1 ≤ n) (fun x L => [.own (.box x.2 (bts (pkT l x.1)))]) (fun x => n - x.1) (0, H1.length) ⟨rfl, rfl, Nat.zero_le _⟩ rfl ?_
    rintro ⟨i, bo⟩ tm1 H3 ⟨lv1, -⟩ ⟨k4, ki, hi⟩ q3
    simp -implicitDefEqProofs only [kz, kk0, kk1, kk2, kk3, ↓two_true, ↓two_false, mkv, aggAt, Nat.reduceLeDiff, Nat.reduceSub, Nat.reduceMul, implies_true, Nat.reduceEqDiff, reduceIte, Nat.reduceAdd, Nat.reduceBEq, reduceCtorEq, al66, ap22_22, bs22_0, bs22_1, bs22_2, bs22_5, cv3_5, fa63_0, fa63_1, fa63_2, fa66_0, fa66_1, fa66_2, fa66_3, ix29, ix64, ld3, ld64, ld66, ln29, ln64, st66] at lv1
    simp only at k4 ki hi
    simp -implicitDefEqProofs only [kz, kk0, kk1, kk2, kk3, ↓two_true, ↓two_false, mkv, aggAt, Nat.reduceLeDiff, Nat.reduceSub, Nat.reduceMul, implies_true, Nat.reduceEqDiff, reduceIte, Nat.reduceAdd, Nat.reduceBEq, reduceCtorEq, al66, ap22_22, bs22_0, bs22_1, bs22_2, bs22_5, cv3_5, fa63_0, fa63_1, fa63_2, fa66_0, fa66_1, fa66_2, fa66_3, ix29, ix64, ld3, ld64, ld66, ln29, ln64, st66, lv1, ki, k4]
    refine two_intro (fun u2 => ?_) (fun u2 => ?_)
    · have hlt : i < n := by have h5 := of_decide_eq_true u2; omega
      obtain ⟨b, o, cs, rfl, rfl, hrd, hle, hcell⟩ := gv (by omega)
      have x1 := hv.elemn 6 rfl hlt
      have hin : l[i]? = some (insOf ((elm 6 xs i).map (cv H))) := by rw [← hL]; exact insL_get hlt
      have hpk := pkT_succ hin
      have hio : insOk (insOf ((elm 6 xs i).map (cv H))) = true := (List.all_eq_true.1 hok) _ (List.mem_of_getElem? hin)
      have g1 := rd_ext hrd q3.ext
      have l1 : ld Try.prog 66 (o + i * 6) cs = some (.agg (elm 6 xs i).toArray) := by rw [ld66]; exact (hcell _ hlt).1
      obtain ⟨op, ia, is, io, iw, y, ex, ky, ei⟩ := all2_instr x1
      rw [ei] at hpk hio
      clear hin
      generalize elm 6 xs i = x at *
      subst ex
      obtain ⟨a5, c5, e5⟩ := ky.1.slice
      have hr : IntRow H y (rowI H y) := ky.1
      have hrl := ky.2
      generalize rowI H y = m at *
      subst e5
      have wi : IntKind.i64.wrap ((i : Int) + 1) = ((i + 1 : Nat) : Int) := IntWalk.i64_in ((i : Int) + 1) (by omega)
      have hTl := pkT_len hok (i := i)
      simp -implicitDefEqProofs only [kz, kk0, kk1, kk2, kk3, ↓two_true, ↓two_false, mkv, aggAt, Nat.reduceLeDiff, Nat.reduceSub, Nat.reduceMul, implies_true, Nat.reduceEqDiff, reduceIte, Nat.reduceAdd, Nat.reduceBEq, reduceCtorEq, al66, ap22_22, bs22_0, bs22_1, bs22_2, bs22_5, cv3_5, fa63_0, fa63_1, fa63_2, fa66_0, fa66_1, fa66_2, fa66_3, ix29, ix64, ld3, ld64, ld66, ln29, ln64, st66, lv1, ki, k4, Int.toNat_natCast, Nat.mul_one, g1, l1]
      refine ⟨by omega, ?_⟩
      refine st_box q3 fun H4 q4 => ?_
      simp -implicitDefEqProofs only [kz, kk0, kk1, kk2, kk3, ↓two_true, ↓two_false, mkv, aggAt, Nat.reduceLeDiff, Nat.reduceSub, Nat.reduceMul, implies_true, Nat.reduceEqDiff, reduceIte, Nat.reduceAdd, Nat.reduceBEq, reduceCtorEq, al66, ap22_22, bs22_0, bs22_1, bs22_2, bs22_5, cv3_5, fa63_0, fa63_1, fa63_2, fa66_0, fa66_1, fa66_2, fa66_3, ix29, ix64, ld3, ld64, ld66, ln29, ln64, st66, lv1, ki, k4, q4.rd 0 rfl]
      refine st_set q4 0 rfl fun H5 q5 => ?_
      simp only [List.set_cons_zero, List.set_cons_succ] at q5
      simp -implicitDefEqProofs only [kz, kk0, kk1, kk2, kk3, ↓two_true, ↓two_false, mkv, aggAt, Nat.reduceLeDiff, Nat.reduceSub, Nat.reduceMul, implies_true, Nat.reduceEqDiff, reduceIte, Nat.reduceAdd, Nat.reduceBEq, reduceCtorEq, al66, ap22_22, bs22_0, bs22_1, bs22_2, bs22_5, cv3_5, fa63_0, fa63_1, fa63_2, fa66_0, fa66_1, fa66_2, fa66_3, ix29, ix64, ld3, ld64, ld66, ln29, ln64, st66, lv1, ki, k4, q5.rd 0 rfl]
      refine st_cells q5 fun H6 q6 => ?_
      simp -implicitDefEqProofs only [kz, kk0, kk1, kk2, kk3, ↓two_true, ↓two_false, mkv, aggAt, Nat.reduceLeDiff, Nat.reduceSub, Nat.reduceMul, implies_true, Nat.reduceEqDiff, reduceIte, Nat.reduceAdd, Nat.reduceBEq, reduceCtorEq, al66, ap22_22, bs22_0, bs22_1, bs22_2, bs22_5, cv3_5, fa63_0, fa63_1, fa63_2, fa66_0, fa66_1, fa66_2, fa66_3, ix29, ix64, ld3, ld64, ld66, ln29, ln64, st66, lv1, ki, k4, q6.rd 1 rfl]
      refine st_appB q6 2 0 rfl rfl (bts_len.symm) rfl rfl (by decide) (by omega) fun H7 q7 => ?_
      simp only [List.set_cons_zero, List.set_cons_succ] at q7
      simp -implicitDefEqProofs only [kz, kk0, kk1, kk2, kk3, ↓two_true, ↓two_false, mkv, aggAt, Nat.reduceLeDiff, Nat.reduceSub, Nat.reduceMul, implies_true, Nat.reduceEqDiff, reduceIte, Nat.reduceAdd, Nat.reduceBEq, reduceCtorEq, al66, ap22_22, bs22_0, bs22_1, bs22_2, bs22_5, cv3_5, fa63_0, fa63_1, fa63_2, fa66_0, fa66_1, fa66_2, fa66_3, ix29, ix64, ld3, ld64, ld66, ln29, ln64, st66, lv1, ki, k4, q7.rd 1 rfl]
      have e5 : bts (pkT l i) ++ [Value.int .u8 (IntKind.u8.wrap op), .int .u8 (IntKind.u8.wrap ia), .int .u8 (IntKind.u8.wrap is), .int .u8 (IntKind.u8.wrap io), .int .u8 (IntKind.u8.wrap iw)] = bts (pkT l i ++ [op, ia, is, io, iw].map IntKind.u8.wrap) := by rw [← bts_app]; rfl
      rw [e5] at q7
      have hWl : (pkT l i ++ [op, ia, is, io, iw].map IntKind.u8.wrap).length = (pkT l i).length + 5 := by simp
      by_cases hop : op = 1
      · subst hop
        have hnm := insOk_nums hio rfl
        simp only [numsOk, inB, Bool.and_eq_true, decide_eq_true_eq] at hnm
        obtain ⟨⟨hm1, hm2⟩, hnum⟩ := hnm
        try simp only at hm1 hm2 hnum
        have hrm : (m.length : Int).tmod 256 = (m.length : Int) % 256 := Int.tmod_eq_emod_of_nonneg (by omega)
        have hqu : IntKind.i64.wrap ((m.length : Int).tdiv 256) = (m.length : Int) / 256 := by rw [Int.tdiv_eq_ediv_of_nonneg (by omega), IntWalk.i64_in _ (by omega)]
        have n1 : ((1 : Int) != 1) = false := by decide
        simp -implicitDefEqProofs only [kz, kk0, kk1, kk2, kk3, ↓two_true, ↓two_false, mkv, aggAt, Nat.reduceLeDiff, Nat.reduceSub, Nat.reduceMul, implies_true, Nat.reduceEqDiff, reduceIte, Nat.reduceAdd, Nat.reduceBEq, reduceCtorEq, al66, ap22_22, bs22_0, bs22_1, bs22_2, bs22_5, cv3_5, fa63_0, fa63_1, fa63_2, fa66_0, fa66_1, fa66_2, fa66_3, ix29, ix64, ld3, ld64, ld66, ln29, ln64, st66, lv1, ki, k4, q7.rd 1 rfl, n1, bin_rem (show (256 : Int) ≠ 0 by decide), bin_quo (show (256 : Int) ≠ 0 by decide), hrm, hqu]
        refine st_cells q7 fun H8 q8 => ?_
        simp -implicitDefEqProofs only [kz, kk0, kk1, kk2, kk3, ↓two_true, ↓two_false, mkv, aggAt, Nat.reduceLeDiff, Nat.reduceSub, Nat.reduceMul, implies_true, Nat.reduceEqDiff, reduceIte, Nat.reduceAdd, Nat.reduceBEq, reduceCtorEq, al66, ap22_22, bs22_0, bs22_1, bs22_2, bs22_5, cv3_5, fa63_0, fa63_1, fa63_2, fa66_0, fa66_1, fa66_2, fa66_3, ix29, ix64, ld3, ld64, ld66, ln29, ln64, st66, lv1, ki, k4, q8.rd 2 rfl]
        refine st_appB q8 3 0 rfl rfl (by rw [bts_len, hWl]) rfl rfl (by decide) (by omega) fun H9 q9 => ?_
        simp only [List.set_cons_zero, List.set_cons_succ] at q9
        simp -implicitDefEqProofs only [kz, kk0, kk1, kk2, kk3, ↓two_true, ↓two_false, mkv, aggAt, Nat.reduceLeDiff, Nat.reduceSub, Nat.reduceMul, implies_true, Nat.reduceEqDiff, reduceIte, Nat.reduceAdd, Nat.reduceBEq, reduceCtorEq, al66, ap22_22, bs22_0, bs22_1, bs22_2, bs22_5, cv3_5, fa63_0, fa63_1, fa63_2, fa66_0, fa66_1, fa66_2, fa66_3, ix29, ix64, ld3, ld64, ld66, ln29, ln64, st66, lv1, ki, k4, q9.rd 2 rfl]
        have wmod : IntKind.u8.wrap ((m.length : Int) % 256) = IntKind.u8.wrap (m.length : Int) := by
          simp only [IntKind.wrap]
          rw [show (m.length : Int) % 256 % 2 ^ IntKind.u8.bits = (m.length : Int) % 2 ^ IntKind.u8.bits from (by show (m.length : Int) % 256 % 256 = (m.length : Int) % 256; omega)]
        have e7 : bts (pkT l i ++ [1, ia, is, io, iw].map IntKind.u8.wrap) ++ [Value.int .u8 (IntKind.u8.wrap ((m.length : Int) % 256)), .int .u8 (IntKind.u8.wrap ((m.length : Int) / 256))] = bts (pkT l i ++ [1, ia, is, io, iw].map IntKind.u8.wrap ++ [IntKind.u8.wrap (m.length : Int), IntKind.u8.wrap ((m.length : Int) / 256)]) := by
          rw [wmod]
          simp only [← bts_app]
          rfl
        rw [e7] at q9
        have hpI : pkI ⟨1, ia, is, io, iw, m⟩ = [1, ia, is, io, iw].map IntKind.u8.wrap ++ [IntKind.u8.wrap (m.length : Int), IntKind.u8.wrap ((m.length : Int) / 256)] ++ m.flatMap (fun n => le8 (n + 1000000000000)) := by
          unfold pkI; rw [if_pos rfl, List.append_assoc]
        rw [hpI] at hpk
        rw [← List.append_assoc, ← List.append_assoc] at hpk
        generalize hW : pkT l i ++ [1, ia, is, io, iw].map IntKind.u8.wrap ++ [IntKind.u8.wrap (m.length : Int), IntKind.u8.wrap ((m.length : Int) / 256)] = W at *
        have hW2 : W.length = (pkT l i).length + 5 + 2 := by rw [← hW]; simp
        clear hW e7 e5 hpI wmod hqu hrm
        refine rW_loopQ (σ := Nat × Nat) q9 [0, 5, 6] (fun x tm => tm 4 = .slice (some ⟨x.2, 0, none⟩) (W.length + x.1 * 8) 1 ∧ tm 7 = .int .i64 x.1 ∧ x.1 ≤ m.length) (fun x L => L.set 3 (.own (.box x.2 (bts (W ++ (m.take x.1).flatMap fun n => le8 (n + 1000000000000)))))) (fun x => m.length - x.1) (0, H8.length) ⟨by rw [hW2]; rfl, rfl, Nat.zero_le _⟩ (by simp only [List.take_zero, List.flatMap_nil, List.append_nil]; rfl) ?_
        rintro ⟨k, b2⟩ tm2 H10 ⟨mv1, mv2, mv3, -⟩ ⟨n4, nk, hkm⟩ q10
        simp -implicitDefEqProofs only [kz, kk0, kk1, kk2, kk3, ↓two_true, ↓two_false, mkv, aggAt, Nat.reduceLeDiff, Nat.reduceSub, Nat.reduceMul, implies_true, Nat.reduceEqDiff, reduceIte, Nat.reduceAdd, Nat.reduceBEq, reduceCtorEq, al66, ap22_22, bs22_0, bs22_1, bs22_2, bs22_5, cv3_5, fa63_0, fa63_1, fa63_2, fa66_0, fa66_1, fa66_2, fa66_3, ix29, ix64, ld3, ld64, ld66, ln29, ln64, st66, lv1, ki] at mv1 mv2 mv3
        simp only at n4 nk hkm
        simp only [List.set_cons_zero, List.set_cons_succ] at q10
        simp -implicitDefEqProofs only [kz, kk0, kk1, kk2, kk3, ↓two_true, ↓two_false, mkv, aggAt, Nat.reduceLeDiff, Nat.reduceSub, Nat.reduceMul, implies_true, Nat.reduceEqDiff, reduceIte, Nat.reduceAdd, Nat.reduceBEq, reduceCtorEq, al66, ap22_22, bs22_0, bs22_1, bs22_2, bs22_5, cv3_5, fa63_0, fa63_1, fa63_2, fa66_0, fa66_1, fa66_2, fa66_3, ix29, ix64, ld3, ld64, ld66, ln29, ln64, st66, mv1, mv2, mv3, n4, nk, q10.rd 2 rfl]
        refine two_intro (fun u3 => ?_) (fun u3 => ?_)
        · have hk2 : k < m.length := by have h5 := of_decide_eq_true u3; omega
          have wk : IntKind.i64.wrap ((k : Int) + 1) = ((k + 1 : Nat) : Int) := IntWalk.i64_in ((k : Int) + 1) (by omega)
          obtain ⟨a3, c3, e3, g3⟩ := (hr.ext q10.ext).op
          obtain ⟨b3, o3, cs3, rfl, rfl, fr3, -, fc3⟩ := g3 (by omega)
          simp only [Value.slice.injEq, true_and] at e3
          obtain ⟨rfl, rfl⟩ := e3
          have fc3 := fc3 k hk2
          have hnk := numOk_iff.1 (List.all_eq_true.1 hnum _ (List.getElem_mem hk2))
          have wx : IntKind.i64.wrap (m[k] + 1000000000000) = m[k] + 1000000000000 := IntWalk.i64_in _ (by omega)
          simp -implicitDefEqProofs only [kz, kk0, kk1, kk2, kk3, ↓two_true, ↓two_false, mkv, aggAt, Nat.reduceLeDiff, Nat.reduceSub, Nat.reduceMul, implies_true, Nat.reduceEqDiff, reduceIte, Nat.reduceAdd, Nat.reduceBEq, reduceCtorEq, al66, ap22_22, bs22_0, bs22_1, bs22_2, bs22_5, cv3_5, fa63_0, fa63_1, fa63_2, fa66_0, fa66_1, fa66_2, fa66_3, ix29, ix64, ld3, ld64, ld66, ln29, ln64, st66, mv1, mv2, mv3, n4, nk, q10.rd 2 rfl, Int.toNat_natCast, Nat.mul_one, fr3, fc3, wx]
          refine ⟨by omega, ?_⟩
          generalize hU : (W ++ (m.take k).flatMap fun n => le8 (n + 1000000000000)) = U at *
          have hlU : U.length = W.length + k * 8 := by rw [← hU, List.length_append, le8s_len, List.length_take, Nat.min_eq_left (by omega)]
          refine rW_loopQ (σ := Nat × Nat) q10 [0, 5, 6, 7, 8] (fun x tm => tm 4 = .slice (some ⟨x.2, 0, none⟩) (W.length + k * 8 + x.1) 1 ∧ tm 9 = .int .i64 x.1 ∧ x.1 ≤ 8) (fun x L => L.set 3 (.own (.box x.2 (bts (U ++ (le8 (m[k] + 1000000000000)).take x.1))))) (fun x => 8 - x.1) (0, b2) ⟨by first | rfl | exact n4, rfl, Nat.zero_le _⟩ (by simp only [List.take_zero, List.append_nil]; rfl) ?_
          rintro ⟨j, b4⟩ tm3 H11 ⟨ov1, ov2, ov3, ov4, ov5, -⟩ ⟨p4, pj, hj⟩ q11
          simp -implicitDefEqProofs only [kz, kk0, kk1, kk2, kk3, ↓two_true, ↓two_false, mkv, aggAt, Nat.reduceLeDiff, Nat.reduceSub, Nat.reduceMul, implies_true, Nat.reduceEqDiff, reduceIte, Nat.reduceAdd, Nat.reduceBEq, reduceCtorEq, al66, ap22_22, bs22_0, bs22_1, bs22_2, bs22_5, cv3_5, fa63_0, fa63_1, fa63_2, fa66_0, fa66_1, fa66_2, fa66_3, ix29, ix64, ld3, ld64, ld66, ln29, ln64, st66, mv1, mv2, mv3, nk] at ov1 ov2 ov3 ov4 ov5
          simp only at p4 pj hj
          simp only [List.set_cons_zero, List.set_cons_succ] at q11
          simp -implicitDefEqProofs only [kz, kk0, kk1, kk2, kk3, ↓two_true, ↓two_false, mkv, aggAt, Nat.reduceLeDiff, Nat.reduceSub, Nat.reduceMul, implies_true, Nat.reduceEqDiff, reduceIte, Nat.reduceAdd, Nat.reduceBEq, reduceCtorEq, al66, ap22_22, bs22_0, bs22_1, bs22_2, bs22_5, cv3_5, fa63_0, fa63_1, fa63_2, fa66_0, fa66_1, fa66_2, fa66_3, ix29, ix64, ld3, ld64, ld66, ln29, ln64, st66, ov1, ov2, ov3, ov4, ov5, p4, pj]
          refine two_intro (fun u4 => ?_) (fun u4 => ?_)
          · have hj2 : j < 8 := by have h5 := of_decide_eq_true u4; omega
            have wj : IntKind.i64.wrap ((j : Int) + 1) = ((j + 1 : Nat) : Int) := IntWalk.i64_in ((j : Int) + 1) (by omega)
            have w8 : IntKind.i64.wrap ((8 : Int) * (j : Int)) = (8 : Int) * (j : Int) := IntWalk.i64_in _ (by omega)
            have hsh := fun (t : TypeId) (p q : Operand) => bin_shr (P := Try.prog) (t := t) (x := p) (y := q) (k := .i64) (k' := .i64) (a := m[k] + 1000000000000) (b := (8 : Int) * (j : Int)) (by omega)
            simp only [shr8 hj2] at hsh
            simp -implicitDefEqProofs only [kz, kk0, kk1, kk2, kk3, ↓two_true, ↓two_false, mkv, aggAt, Nat.reduceLeDiff, Nat.reduceSub, Nat.reduceMul, implies_true, Nat.reduceEqDiff, reduceIte, Nat.reduceAdd, Nat.reduceBEq, reduceCtorEq, al66, ap22_22, bs22_0, bs22_1, bs22_2, bs22_5, cv3_5, fa63_0, fa63_1, fa63_2, fa66_0, fa66_1, fa66_2, fa66_3, ix29, ix64, ld3, ld64, ld66, ln29, ln64, st66, ov1, ov2, ov3, ov4, ov5, p4, pj, wj, w8, hsh]
            refine st_cells q11 fun H12 q12 => ?_
            simp -implicitDefEqProofs only [kz, kk0, kk1, kk2, kk3, ↓two_true, ↓two_false, mkv, aggAt, Nat.reduceLeDiff, Nat.reduceSub, Nat.reduceMul, implies_true, Nat.reduceEqDiff, reduceIte, Nat.reduceAdd, Nat.reduceBEq, reduceCtorEq, al66, ap22_22, bs22_0, bs22_1, bs22_2, bs22_5, cv3_5, fa63_0, fa63_1, fa63_2, fa66_0, fa66_1, fa66_2, fa66_3, ix29, ix64, ld3, ld64, ld66, ln29, ln64, st66, ov1, ov2, ov3, ov4, ov5, p4, pj]
            refine st_appB q12 4 0 rfl rfl (by rw [bts_len, List.length_append, List.length_take, le8_len, hlU]; omega) rfl rfl (by decide) (by omega) fun H13 q13 => ?_
            simp only [List.set_cons_zero, List.set_cons_succ] at q13
            simp -implicitDefEqProofs only [kz, kk0, kk1, kk2, kk3, ↓two_true, ↓two_false, mkv, aggAt, Nat.reduceLeDiff, Nat.reduceSub, Nat.reduceMul, implies_true, Nat.reduceEqDiff, reduceIte, Nat.reduceAdd, Nat.reduceBEq, reduceCtorEq, al66, ap22_22, bs22_0, bs22_1, bs22_2, bs22_5, cv3_5, fa63_0, fa63_1, fa63_2, fa66_0, fa66_1, fa66_2, fa66_3, ix29, ix64, ld3, ld64, ld66, ln29, ln64, st66, ov1, ov2, ov3, ov4, ov5, p4, pj, wj]
            refine ⟨(j + 1, H12.length), by simp only; omega, ⟨rfl, rfl, rfl, rfl, rfl, trivial⟩, ⟨rfl, rfl, hj2⟩, ?_⟩
            simp only [List.set_cons_zero, List.set_cons_succ]
            have e9 : bts (U ++ (le8 (m[k] + 1000000000000)).take j) ++ [Value.int .u8 (IntKind.u8.wrap ((m[k] + 1000000000000).fdiv (2 ^ (8 * j))))] = bts (U ++ (le8 (m[k] + 1000000000000)).take (j + 1)) := by
              rw [le8_take hj2, ← List.append_assoc]
              simp only [← bts_app]
              rfl
            rw [e9] at q13
            exact q13.pick [1, 2, 3, 4] _ rfl (by decide)
          · have hj2 : j = 8 := by have h5 := of_decide_eq_false u4; omega
            subst hj2
            rw [List.take_of_length_le (by rw [le8_len]; exact Nat.le_refl _)] at q11
            simp -implicitDefEqProofs only [kz, kk0, kk1, kk2, kk3, ↓two_true, ↓two_false, mkv, aggAt, Nat.reduceLeDiff, Nat.reduceSub, Nat.reduceMul, implies_true, Nat.reduceEqDiff, reduceIte, Nat.reduceAdd, Nat.reduceBEq, reduceCtorEq, al66, ap22_22, bs22_0, bs22_1, bs22_2, bs22_5, cv3_5, fa63_0, fa63_1, fa63_2, fa66_0, fa66_1, fa66_2, fa66_3, ix29, ix64, ld3, ld64, ld66, ln29, ln64, st66, ov1, ov2, ov3, ov4, ov5, p4, pj, wk]
            refine ⟨(k + 1, b4), by simp only; omega, ⟨?_, ?_, ?_, trivial⟩, ⟨?_, rfl, hk2⟩, ?_⟩
            · first | rfl | exact ov1.trans mv1.symm
            · first | rfl | exact ov2.trans mv2.symm
            · first | rfl | exact ov3.trans mv3.symm
            · simp only [Nat.add_mul, Nat.one_mul]; rfl
            · simp only [List.set_cons_zero, List.set_cons_succ]
              rw [List.take_succ_eq_append_getElem hk2, List.flatMap_append, List.flatMap_cons, List.flatMap_nil, List.append_nil, ← List.append_assoc, hU]
              exact q11
        · have hkl : k = m.length := by have h5 := of_decide_eq_false u3; omega
          subst hkl
          rw [List.take_length] at q10
          have hlW : (W ++ m.flatMap fun n => le8 (n + 1000000000000)).length = W.length + m.length * 8 := by rw [List.length_append, le8s_len]
          simp -implicitDefEqProofs only [kz, kk0, kk1, kk2, kk3, ↓two_true, ↓two_false, mkv, aggAt, Nat.reduceLeDiff, Nat.reduceSub, Nat.reduceMul, implies_true, Nat.reduceEqDiff, reduceIte, Nat.reduceAdd, Nat.reduceBEq, reduceCtorEq, al66, ap22_22, bs22_0, bs22_1, bs22_2, bs22_5, cv3_5, fa63_0, fa63_1, fa63_2, fa66_0, fa66_1, fa66_2, fa66_3, ix29, ix64, ld3, ld64, ld66, ln29, ln64, st66, mv1, mv2, mv3, n4, nk, wi]
          refine ⟨(i + 1, b2), by simp only; omega, ⟨?_, trivial⟩, ⟨?_, rfl, hlt⟩, ?_⟩
          · first | rfl | exact mv1.trans lv1.symm
          · rw [hpk, hlW]
          · simp only
            rw [hpk]
            exact q10.pick [3] _ rfl (by decide)
      · have ho1 : (op != 1) = true := bne_iff_ne.2 hop
        simp -implicitDefEqProofs only [kz, kk0, kk1, kk2, kk3, ↓two_true, ↓two_false, mkv, aggAt, Nat.reduceLeDiff, Nat.reduceSub, Nat.reduceMul, implies_true, Nat.reduceEqDiff, reduceIte, Nat.reduceAdd, Nat.reduceBEq, reduceCtorEq, al66, ap22_22, bs22_0, bs22_1, bs22_2, bs22_5, cv3_5, fa63_0, fa63_1, fa63_2, fa66_0, fa66_1, fa66_2, fa66_3, ix29, ix64, ld3, ld64, ld66, ln29, ln64, st66, lv1, ki, k4, ho1, wi]
        have hpI : pkI ⟨op, ia, is, io, iw, m⟩ = [op, ia, is, io, iw].map IntKind.u8.wrap := by unfold pkI; rw [if_neg hop, List.append_nil]
        refine ⟨(i + 1, H6.length), by simp only; omega, ⟨rfl, trivial⟩, ⟨?_, rfl, hlt⟩, ?_⟩
        · rw [hpk, hpI, hWl]
        · simp only
          rw [hpk, hpI]
          exact q7.pick [2] _ rfl (by decide)
    · have hil : i = n := by have h5 := of_decide_eq_false u2; omega
      subst hil
      have hpg : pkT l l.length = pkG l := by unfold pkT pkG; rw [List.take_length]
      rw [hll] at hpg
      rw [hpg] at q3
      try simp -implicitDefEqProofs only [kz, kk0, kk1, kk2, kk3, ↓two_true, ↓two_false, mkv, aggAt, Nat.reduceLeDiff, Nat.reduceSub, Nat.reduceMul, implies_true, Nat.reduceEqDiff, reduceIte, Nat.reduceAdd, Nat.reduceBEq, reduceCtorEq, al66, ap22_22, bs22_0, bs22_1, bs22_2, bs22_5, cv3_5, fa63_0, fa63_1, fa63_2, fa66_0, fa66_1, fa66_2, fa66_3, ix29, ix64, ld3, ld64, ld66, ln29, ln64, st66, lv1, ki, k4]
      rw [hk, hpg]
      have hA : pkA l = pkG l := by unfold pkA; rw [if_pos hk]
      rw [hA]
      exact ⟨⟨_, rfl, .inr ⟨bo, rfl, q3.bxlt 0 rfl, q3.bx 0 rfl⟩⟩, q3.ext⟩

theorem pkA_len {l : List Ins} : (pkA l).length ≤ 144421 := by
  unfold pkA
  split
  · rename_i h
    unfold cdOk at h
    simp only [Bool.and_eq_true, inB, decide_eq_true_eq] at h
    have h1 := pkT_len h.2.1 (i := l.length)
    have : pkT l l.length = pkG l := by unfold pkT pkG; rw [List.take_length]
    rw [this] at h1
    omega
  · simp

def orI (k : IntKind) (a b : Int) : Int := k.wrap ((BitVec.ofInt k.bits a ||| BitVec.ofInt k.bits b).toNat : Int)
theorem bin_or {P : Program} {t : TypeId} {x y : Operand} {k : IntKind} {a b : Int} : aBin P .or t x y (.int k a) (.int k b) = some (.int k (orI k a b)) := by
  simp [aBin, scal, scal1, eqGuard, binOp, Op.intBits, runP, told, pure, bind, Sem.bind, orI]
theorem bin_shl {P : Program} {t : TypeId} {x y : Operand} {k k' : IntKind} {a b : Int} (h : ¬ b < 0) : aBin P .shl t x y (.int k a) (.int k' b) = some (.int k (k.wrap (a * 2 ^ (min b.toNat k.bits)))) := by
  simp [aBin, scal, scal1, eqGuard, binOp, Op.shift, runP, told, pure, bind, Sem.bind, h]
theorem or_add {a b i : Nat} (h : b < 2 ^ i) (hs : 2 ^ i * a + b < 2 ^ 64) : (BitVec.ofInt 64 ((2 ^ i * a : Nat) : Int) ||| BitVec.ofInt 64 (b : Int)).toNat = 2 ^ i * a + b := by
  rw [BitVec.toNat_or, BitVec.ofInt_natCast, BitVec.ofInt_natCast, BitVec.toNat_ofNat, BitVec.toNat_ofNat, Nat.mod_eq_of_lt (by omega), Nat.mod_eq_of_lt (by omega), Nat.two_pow_add_eq_or_of_lt h]
theorem u64_in {x : Int} (h : 0 ≤ x ∧ x < 18446744073709551616) : IntKind.u64.wrap x = x := by
  unfold IntKind.wrap
  have e1 : IntKind.u64.signed = false := rfl
  have e2 : (2 : Int) ^ IntKind.u64.bits = 18446744073709551616 := by decide
  rw [e1, e2, if_neg (by simp)]
  omega
/-- A number of k bytes, the lowest first; what is not there is nought. -/
def loF : Nat → List Int → Int
  | 0, _ => 0
  | k + 1, r => r.headD 0 + 256 * loF k r.tail
/-- The numbers of a row of bytes. -/
def byOk (l : List Int) : Prop := ∀ x ∈ l, 0 ≤ x ∧ x ≤ 255
theorem byOk.tail {l : List Int} (h : byOk l) : byOk l.tail := fun x hx => h x (List.mem_of_mem_tail hx)
theorem byOk.drop {l : List Int} (h : byOk l) (k : Nat) : byOk (l.drop k) := fun x hx => h x (List.mem_of_mem_drop hx)
theorem byOk.head {l : List Int} (h : byOk l) : 0 ≤ l.headD 0 ∧ l.headD 0 ≤ 255 := by
  cases l with
  | nil => simp
  | cons x t => exact h x (List.mem_cons_self ..)
theorem loF_nn : ∀ {k : Nat} {r : List Int}, byOk r → 0 ≤ loF k r ∧ loF k r < 256 ^ k
  | 0, _, _ => by simp [loF]
  | k + 1, r, h => by
    have h1 := h.head
    have h2 := loF_nn (k := k) h.tail
    simp only [loF]
    rw [Int.pow_succ]
    omega
theorem loF_snoc : ∀ {k : Nat} {r : List Int}, loF (k + 1) r = loF k r + 256 ^ k * (r.drop k).headD 0
  | 0, r => by simp [loF]
  | k + 1, r => by
    have ih := loF_snoc (k := k) (r := r.tail)
    rw [loF, ih, loF, List.drop_tail, Int.pow_succ, Int.mul_add, ← Int.mul_assoc, Int.mul_comm 256 (256 ^ k), Int.add_assoc]
def rdNums (f : Int → Option Int) : Nat → List Int → Option (List Int × List Int)
  | 0, r => some ([], r)
  | k + 1, r => if r.length < 8 then none else match f (loF 8 r) with
    | none => none
    | some y => (rdNums f k (r.drop 8)).map fun z => (y :: z.1, z.2)
def rdIns (f : Int → Option Int) (r : List Int) : Option (List CV × List Int) :=
  if r.length < 5 then none
  else if r.headD 0 = 1 then
    (if r.length < 7 then none else (rdNums f (loF 2 (r.drop 5)).toNat (r.drop 7)).map fun z => ([.i (r.headD 0), .i (r.tail.headD 0), .i (r.tail.tail.headD 0), .i (r.tail.tail.tail.headD 0), .i (r.tail.tail.tail.tail.headD 0), .r z.1], z.2))
  else some ([.i (r.headD 0), .i (r.tail.headD 0), .i (r.tail.tail.headD 0), .i (r.tail.tail.tail.headD 0), .i (r.tail.tail.tail.tail.headD 0), .r []], r.drop 5)
def rdAll (f : Int → Option Int) : Nat → List Int → Option (List CV × List Int)
  | 0, r => some ([], r)
  | k + 1, r => match rdIns f r with
    | none => none
    | some z => (rdAll f k z.2).map fun w => (z.1 ++ w.1, w.2)
set_option maxHeartbeats 4000000 in
theorem rdAll_ok {f : Int → Option Int} {r r' : List Int} {cs V : List CV} {k : Nat} (h : rdIns f r = some (cs, r')) : (rdAll f (k + 1) r).map (fun w => (V ++ w.1, w.2)) = (rdAll f k r').map fun w => ((V ++ cs) ++ w.1, w.2) := by
  rw [rdAll, h]
  simp only [Option.map_map]
  congr 1
  funext w
  simp
theorem rdAll_bad {f : Int → Option Int} {r : List Int} {k : Nat} (h : rdIns f r = none) : rdAll f (k + 1) r = none := by
  rw [rdAll, h]
/-- How impl and spec take a number. -/
def nfI (y : Int) : Option Int := if y > 2000000000000 then none else some (y - 1000000000000)
def nfS (y : Int) : Option Int := some (IntKind.i64.wrap (IntKind.i64.wrap y - 1000000000000))
theorem ByRow.tl {H : AH} {v : Value} {x : Int} {t : List Int} (h : ByRow H v (x :: t)) : ∃ b o, v = .slice (some ⟨b, o, none⟩) (t.length + 1) 1 ∧ ByRow H (.slice (some ⟨b, o + 1, none⟩) t.length 1) t := by
  rcases h with ⟨_, h2⟩ | ⟨b, o, cs, rfl, h1, h2, h3⟩
  · cases h2
  · refine ⟨b, o, rfl, .inr ⟨b, o + 1, cs, rfl, h1, by simp at h2; omega, ?_⟩⟩
    have h4 : (cs.drop o).take (t.length + 1) = .int .u8 x :: bts t := h3
    have h5 := congrArg (fun l => l.drop 1) h4
    simp only [List.drop_take, List.drop_drop, List.drop_succ_cons, List.drop_zero] at h5
    exact h5
structure RdSt (H : AH) (rb : Nat) (sl : Value) (bad : Bool) (r : List Int) : Prop where
  bx : H[rb]? = some ⟨[sl, .bool bad], .own⟩
  row : ByRow H sl r
  ne : blkOf sl ≠ some rb
structure Adv (H H' : AH) (rb : Nat) (sl : Value) (r : List Int) (sl' : Value) (bad' : Bool) (r' : List Int) : Prop where
  eq : H' = H.set rb ⟨[sl', .bool bad'], .own⟩
  row : ∀ G, ByRow G sl r → ByRow G sl' r'
  ne : blkOf sl ≠ some rb → blkOf sl' ≠ some rb
theorem Adv.st {H H' : AH} {rb : Nat} {sl sl' : Value} {bad bad' : Bool} {r r' : List Int} (a : Adv H H' rb sl r sl' bad' r') (h : RdSt H rb sl bad r) : RdSt H' rb sl' bad' r' := by
  have hl := (List.getElem?_eq_some_iff.1 h.bx).1
  have hn := a.ne h.ne
  refine ⟨by rw [a.eq, List.getElem?_set_self hl], (a.row H h.row).same fun b hb => ?_, hn⟩
  have : rb ≠ b := by rintro rfl; exact hn hb
  unfold rd
  rw [a.eq, List.getElem?_set_ne this]
theorem Adv.trans {H H1 H2 : AH} {rb : Nat} {sl sl1 sl2 : Value} {b1 b2 : Bool} {r r1 r2 : List Int} (a : Adv H H1 rb sl r sl1 b1 r1) (b : Adv H1 H2 rb sl1 r1 sl2 b2 r2) : Adv H H2 rb sl r sl2 b2 r2 :=
  ⟨by rw [b.eq, a.eq, list_set_set], fun G h => b.row G (a.row G h), fun h => b.ne (a.ne h)⟩

set_option maxHeartbeats 4000000 in
theorem rdOne_ok {H : AH} {rb : Nat} {sl : Value} {bad : Bool} {r : List Int} (h : RdSt H rb sl bad r) (hy : byOk r) (hl : r.length ≤ 1048576) :
    CallsA Try.prog 43 #[.pointer (some ⟨rb, 0, none⟩)] H fun res H' => ∃ sl', res = .int .i64 (r.headD 0) ∧ Adv H H' rb sl r sl' (bad || r.isEmpty) r.tail := by
  obtain ⟨hb, hr, hne⟩ := h
  obtain ⟨a, c, rfl, g⟩ := hr.op
  refine w43 ?_
  unfold k43
  simp -implicitDefEqProofs only [kz, kk0, kk1, kk2, kk3, ↓two_true, ↓two_false, oS_some, oM_some, mkv, aggAt, Nat.reduceLeDiff, Nat.reduceSub, Nat.reduceMul, implies_true, Nat.reduceEqDiff, reduceIte, Nat.reduceAdd, Nat.reduceBEq, reduceCtorEq, cv5_3, fa71_0, fa71_1, ix22, ld5, ld22, ln22, sn22, sl22, st4, st22, rd_own hb, wrt_own hb]
  refine two_intro (fun u => ?_) (fun u => ?_)
  · have h0 : r.length = 0 := by simpa using u
    obtain rfl : r = [] := List.eq_nil_of_length_eq_zero h0
    simp -implicitDefEqProofs only [kz, kk0, kk1, kk2, kk3, ↓two_true, ↓two_false, oS_some, oM_some, mkv, aggAt, Nat.reduceLeDiff, Nat.reduceSub, Nat.reduceMul, implies_true, Nat.reduceEqDiff, reduceIte, Nat.reduceAdd, Nat.reduceBEq, reduceCtorEq, cv5_3, fa71_0, fa71_1, ix22, ld5, ld22, ln22, sn22, sl22, st4, st22, rd_own hb, wrt_own hb]
    refine ⟨_, rfl, ?_, fun G h => h, fun h => h⟩
    simp
  · have h0 : r.length ≠ 0 := by simpa using u
    cases r with
    | nil => exact absurd rfl h0
    | cons x t =>
      obtain ⟨b, o, cs, rfl, rfl, hrd, hle, hcell⟩ := g (by simp)
      have hc := hcell 0 (by simp)
      simp only [List.getElem_cons_zero, Nat.add_zero] at hc
      have hx := hy x (List.mem_cons_self ..)
      have wx : IntKind.i64.wrap x = x := IntWalk.i64_in _ (by omega)
      have z0 : Int.toNat 0 = 0 := rfl
      have z1 : Int.toNat 1 = 1 := rfl
      have g0 : (0 : Int) ≤ 0 ∧ (0 : Int) < ((t.length + 1 : Nat) : Int) := by omega
      have g1 : (0 : Int) ≤ 1 ∧ (1 : Int) ≤ ((t.length + 1 : Nat) : Int) ∧ ((t.length + 1 : Nat) : Int) ≤ ((t.length + 1 : Nat) : Int) := by omega
      simp -implicitDefEqProofs only [kz, kk0, kk1, kk2, kk3, ↓two_true, ↓two_false, oS_some, oM_some, mkv, aggAt, Nat.reduceLeDiff, Nat.reduceSub, Nat.reduceMul, implies_true, Nat.reduceEqDiff, reduceIte, Nat.reduceAdd, Nat.reduceBEq, reduceCtorEq, cv5_3, fa71_0, fa71_1, ix22, ld5, ld22, ln22, sn22, sl22, st4, st22, rd_own hb, wrt_own hb, hrd, hc, wx, z0, z1, Nat.zero_mul, Nat.one_mul, Int.toNat_natCast, Nat.add_sub_cancel, if_pos g0, if_pos g1]
      refine ⟨.slice (some ⟨b, o + 1, none⟩) t.length 1, rfl, ⟨by simp, fun G hG => ?_, fun h e => h (by simpa [blkOf] using e)⟩⟩
      obtain ⟨b', o', e, h2⟩ := hG.tl
      simp only [List.length_cons, Value.slice.injEq, Option.some.injEq, Addr.mk.injEq] at e
      obtain ⟨⟨rfl, rfl, _⟩, _⟩ := e
      exact h2

set_option maxHeartbeats 4000000 in
theorem rdTwo_ok {H : AH} {rb : Nat} {sl : Value} {bad : Bool} {r : List Int} (h : RdSt H rb sl bad r) (hy : byOk r) (hl : r.length ≤ 1048576) :
    CallsA Try.prog 44 #[.pointer (some ⟨rb, 0, none⟩)] H fun res H' => ∃ sl', res = .int .i64 (loF 2 r) ∧ Adv H H' rb sl r sl' (bad || decide (r.length < 2)) (r.drop 2) := by
  refine w44 ?_
  unfold k44
  simp -implicitDefEqProofs only [kz, kk0, kk1, kk2, kk3, ↓two_true, ↓two_false, mkv, aggAt, Nat.reduceLeDiff, Nat.reduceSub, Nat.reduceMul, implies_true, Nat.reduceEqDiff, reduceIte, Nat.reduceAdd, Nat.reduceBEq, reduceCtorEq]
  refine (rdOne_ok h hy hl).mono ?_
  rintro _ H1 ⟨sl1, rfl, a1⟩
  have h1 := a1.st h
  simp -implicitDefEqProofs only [kz, kk0, kk1, kk2, kk3, ↓two_true, ↓two_false, mkv, aggAt, Nat.reduceLeDiff, Nat.reduceSub, Nat.reduceMul, implies_true, Nat.reduceEqDiff, reduceIte, Nat.reduceAdd, Nat.reduceBEq, reduceCtorEq]
  refine (rdOne_ok h1 hy.tail (by simp; omega)).mono ?_
  rintro _ H2 ⟨sl2, rfl, a2⟩
  have e1 := hy.head
  have e2 := hy.tail.head
  have w1 : IntKind.i64.wrap (256 * r.tail.headD 0) = 256 * r.tail.headD 0 := IntWalk.i64_in _ (by omega)
  have w2 : IntKind.i64.wrap (r.headD 0 + 256 * r.tail.headD 0) = r.headD 0 + 256 * r.tail.headD 0 := IntWalk.i64_in _ (by omega)
  simp -implicitDefEqProofs only [kz, kk0, kk1, kk2, kk3, ↓two_true, ↓two_false, mkv, aggAt, Nat.reduceLeDiff, Nat.reduceSub, Nat.reduceMul, implies_true, Nat.reduceEqDiff, reduceIte, Nat.reduceAdd, Nat.reduceBEq, reduceCtorEq, w1, w2]
  refine ⟨sl2, by simp [loF], ?_⟩
  have a3 := a1.trans a2
  have eb : (bad || r.isEmpty || r.tail.isEmpty) = (bad || decide (r.length < 2)) := by
    match r with
    | [] => simp
    | [x] => simp
    | x :: y :: t => simp; omega
  rw [eb] at a3
  have : r.drop 2 = r.tail.tail := by
    match r with
    | [] => rfl
    | [x] => rfl
    | x :: y :: t => rfl
  rw [this]
  exact a3

set_option maxHeartbeats 4000000 in
theorem rdNum_ok {H : AH} {rb : Nat} {sl : Value} {bad : Bool} {r : List Int} (h : RdSt H rb sl bad r) (hy : byOk r) (hl : r.length ≤ 1048576) :
    CallsA Try.prog 45 #[.pointer (some ⟨rb, 0, none⟩)] H fun res H' => ∃ sl', res = .int .i64 ((nfI (loF 8 r)).getD 0) ∧ Adv H H' rb sl r sl' (bad || decide (r.length < 8) || (nfI (loF 8 r)).isNone) (r.drop 8) := by
  refine w45 ?_
  unfold k45
  simp -implicitDefEqProofs only [kz, kk0, kk1, kk2, kk3, ↓two_true, ↓two_false, mkv, aggAt, Nat.reduceLeDiff, Nat.reduceSub, Nat.reduceMul, implies_true, Nat.reduceEqDiff, reduceIte, Nat.reduceAdd, Nat.reduceBEq, reduceCtorEq, cv3_101, cv101_3, fa71_1, st4]
  refine rW_loop (σ := Nat × Value) (fun x tm H' => tm 0 = .pointer (some ⟨rb, 0, none⟩) ∧ tm 3 = .int .u64 (loF x.1 r) ∧ tm 4 = .int .i64 x.1 ∧ x.1 ≤ 8 ∧ Adv H H' rb sl r x.2 (bad || decide (r.length < x.1)) (r.drop x.1)) (fun x => 8 - x.1) (0, sl) ?_ ?_
  · refine ⟨?_, ?_, ?_, Nat.zero_le _, ⟨?_, fun G h => h, fun h => h⟩⟩
    · simp -implicitDefEqProofs [kk0, kk1, kk2, kk3, rW_block, ↓two_true, ↓two_false, rW_cond, rO_guard, oS_some, oM_some, mkv, aggAt, Nat.reduceLeDiff, Nat.reduceSub, Nat.reduceMul, cond_true, cond_false, Option.bind_some, List.length_append, List.length_cons, List.length_nil, List.append_assoc, List.cons_append, List.nil_append, List.set_cons_zero, List.set_cons_succ, List.size_toArray, List.all_cons, List.all_nil, List.drop_zero, List.drop_succ_cons, List.take_succ_cons, List.take_zero, List.mem_cons, Prod.mk.injEq, List.not_mem_nil, implies_true, List.getElem?_toArray, List.getElem?_cons_zero, List.getElem?_cons_succ, List.getElem?_nil, Option.getD_some, Option.getD_none, Nat.reduceEqDiff, reduceIte, Nat.reduceAdd, List.map_toArray, List.map_cons, List.map_nil, Bool.false_eq_true, Nat.reduceBEq, Option.map_some, Option.map_none, reduceCtorEq, cv3_101, cv101_3, fa71_1, st4]
    · simp -implicitDefEqProofs [kk0, kk1, kk2, kk3, rW_block, ↓two_true, ↓two_false, rW_cond, rO_guard, oS_some, oM_some, mkv, aggAt, Nat.reduceLeDiff, Nat.reduceSub, Nat.reduceMul, cond_true, cond_false, Option.bind_some, List.length_append, List.length_cons, List.length_nil, List.append_assoc, List.cons_append, List.nil_append, List.set_cons_zero, List.set_cons_succ, List.size_toArray, List.all_cons, List.all_nil, List.drop_zero, List.drop_succ_cons, List.take_succ_cons, List.take_zero, List.mem_cons, Prod.mk.injEq, List.not_mem_nil, implies_true, List.getElem?_toArray, List.getElem?_cons_zero, List.getElem?_cons_succ, List.getElem?_nil, Option.getD_some, Option.getD_none, Nat.reduceEqDiff, reduceIte, Nat.reduceAdd, List.map_toArray, List.map_cons, List.map_nil, Bool.false_eq_true, Nat.reduceBEq, Option.map_some, Option.map_none, reduceCtorEq, cv3_101, cv101_3, fa71_1, st4, loF]
    · simp -implicitDefEqProofs [kk0, kk1, kk2, kk3, rW_block, ↓two_true, ↓two_false, rW_cond, rO_guard, oS_some, oM_some, mkv, aggAt, Nat.reduceLeDiff, Nat.reduceSub, Nat.reduceMul, cond_true, cond_false, Option.bind_some, List.length_append, List.length_cons, List.length_nil, List.append_assoc, List.cons_append, List.nil_append, List.set_cons_zero, List.set_cons_succ, List.size_toArray, List.all_cons, List.all_nil, List.drop_zero, List.drop_succ_cons, List.take_succ_cons, List.take_zero, List.mem_cons, Prod.mk.injEq, List.not_mem_nil, implies_true, List.getElem?_toArray, List.getElem?_cons_zero, List.getElem?_cons_succ, List.getElem?_nil, Option.getD_some, Option.getD_none, Nat.reduceEqDiff, reduceIte, Nat.reduceAdd, List.map_toArray, List.map_cons, List.map_nil, Bool.false_eq_true, Nat.reduceBEq, Option.map_some, Option.map_none, reduceCtorEq, cv3_101, cv101_3, fa71_1, st4]
    · have hlt := (List.getElem?_eq_some_iff.1 h.bx).1
      refine List.ext_getElem? fun k => ?_
      by_cases e : rb = k
      · subst e; rw [List.getElem?_set_self hlt, h.bx]; simp
      · rw [List.getElem?_set_ne e]
  · rintro ⟨i, sl1⟩ tm H1 ⟨h0, h3, h4, hi, a1⟩
    simp only at h0 h3 h4 hi a1
    have h1 := a1.st h
    simp -implicitDefEqProofs only [kz, kk0, kk1, kk2, kk3, ↓two_true, ↓two_false, mkv, aggAt, Nat.reduceLeDiff, Nat.reduceSub, Nat.reduceMul, implies_true, Nat.reduceEqDiff, reduceIte, Nat.reduceAdd, Nat.reduceBEq, reduceCtorEq, cv3_101, cv101_3, fa71_1, st4, h0, h3, h4]
    refine two_intro (fun u => ?_) (fun u => ?_)
    · have hi2 : i < 8 := by have h5 := of_decide_eq_true u; omega
      have wi : IntKind.i64.wrap ((i : Int) + 1) = ((i + 1 : Nat) : Int) := IntWalk.i64_in ((i : Int) + 1) (by omega)
      have w8 : IntKind.i64.wrap ((8 : Int) * (i : Int)) = (8 : Int) * (i : Int) := IntWalk.i64_in _ (by omega)
      try simp -implicitDefEqProofs only [kz, kk0, kk1, kk2, kk3, ↓two_true, ↓two_false, mkv, aggAt, Nat.reduceLeDiff, Nat.reduceSub, Nat.reduceMul, implies_true, Nat.reduceEqDiff, reduceIte, Nat.reduceAdd, Nat.reduceBEq, reduceCtorEq, cv3_101, cv101_3, fa71_1, st4, h0, h3, h4]
      refine (rdOne_ok h1 (hy.drop i) (by simp; omega)).mono ?_
      rintro _ H2 ⟨sl2, rfl, a2⟩
      have hx := (hy.drop i).head
      have wx : IntKind.u64.wrap ((r.drop i).headD 0) = (r.drop i).headD 0 := u64_in (by omega)
      obtain ⟨n1, n2⟩ := loF_nn (k := i) hy
      obtain ⟨n3, n4⟩ := loF_nn (k := i + 1) hy
      have es := loF_snoc (k := i) (r := r)
      have hsh := fun (t : TypeId) (p q : Operand) => bin_shl (P := Try.prog) (t := t) (x := p) (y := q) (k := .u64) (k' := .i64) (a := (r.drop i).headD 0) (b := (8 : Int) * (i : Int)) (by omega)
      have e28 : (2 : Int) ^ (min (((8 : Int) * (i : Int)).toNat) IntKind.u64.bits) = 256 ^ i := by
        rw [show ((8 : Int) * (i : Int)).toNat = 8 * i by omega, Nat.min_eq_left (by show 8 * i ≤ 64; omega), Int.pow_mul]; rfl
      have hmul : (r.drop i).headD 0 * 256 ^ i = 256 ^ i * (r.drop i).headD 0 := Int.mul_comm _ _
      have hbig : (256 : Int) ^ (i + 1) ≤ 18446744073709551616 := by
        have : i = 0 ∨ i = 1 ∨ i = 2 ∨ i = 3 ∨ i = 4 ∨ i = 5 ∨ i = 6 ∨ i = 7 := by omega
        rcases this with rfl | rfl | rfl | rfl | rfl | rfl | rfl | rfl <;> decide
      have hm0 : 0 ≤ 256 ^ i * (r.drop i).headD 0 := Int.mul_nonneg (Int.le_of_lt (Int.pow_pos (by decide))) hx.1
      have wsh : IntKind.u64.wrap ((r.drop i).headD 0 * 256 ^ i) = 256 ^ i * (r.drop i).headD 0 := by rw [hmul]; exact u64_in ⟨hm0, by omega⟩
      simp only [e28, wsh] at hsh
      have hor : orI .u64 (loF i r) (256 ^ i * (r.drop i).headD 0) = loF (i + 1) r := by
        obtain ⟨A, hA⟩ : ∃ A : Nat, loF i r = A := ⟨(loF i r).toNat, by omega⟩
        obtain ⟨D, hD⟩ : ∃ D : Nat, (r.drop i).headD 0 = D := ⟨((r.drop i).headD 0).toNat, by omega⟩
        have ep : (256 : Int) ^ i = ((2 ^ (8 * i) : Nat) : Int) := by rw [Nat.pow_mul]; simp
        have eb : (256 : Int) ^ i * (r.drop i).headD 0 = ((2 ^ (8 * i) * D : Nat) : Int) := by rw [hD, ep, Int.natCast_mul]
        have hA2 : A < 2 ^ (8 * i) := by rw [hA, ep] at n2; omega
        have hs : 2 ^ (8 * i) * D + A < 2 ^ 64 := by
          rw [es, hA, eb] at n4
          have : (2 : Nat) ^ 64 = 18446744073709551616 := by decide
          omega
        rw [eb, hA]
        have ho := or_add hA2 hs
        unfold orI
        show IntKind.u64.wrap ((BitVec.ofInt 64 (A : Int) ||| BitVec.ofInt 64 ((2 ^ (8 * i) * D : Nat) : Int)).toNat : Int) = _
        have h64 : (2 : Nat) ^ 64 = 18446744073709551616 := by decide
        have hu : IntKind.u64.wrap ((2 ^ (8 * i) * D + A : Nat) : Int) = ((2 ^ (8 * i) * D + A : Nat) : Int) := u64_in ⟨by omega, by omega⟩
        rw [BitVec.or_comm, ho, hu, es, hA, eb]
        omega
      simp -implicitDefEqProofs only [kz, kk0, kk1, kk2, kk3, ↓two_true, ↓two_false, mkv, aggAt, Nat.reduceLeDiff, Nat.reduceSub, Nat.reduceMul, implies_true, Nat.reduceEqDiff, reduceIte, Nat.reduceAdd, Nat.reduceBEq, reduceCtorEq, cv3_101, cv101_3, fa71_1, st4, h0, h3, h4, wi, w8, wx, hsh, bin_or, hor]
      have eb : (bad || decide (r.length < i) || (r.drop i).isEmpty) = (bad || decide (r.length < i + 1)) := by
        rw [Bool.or_assoc]
        congr 1
        rw [Bool.eq_iff_iff]
        simp
        omega
      have a3 := a1.trans a2
      rw [eb, List.tail_drop] at a3
      exact ⟨(i + 1, sl2), by simp only; omega, rfl, rfl, hi2, a3⟩
    · have hi2 : i = 8 := by have h5 := of_decide_eq_false u; omega
      subst hi2
      obtain ⟨n1, n2⟩ := loF_nn (k := 8) hy
      try simp -implicitDefEqProofs only [kz, kk0, kk1, kk2, kk3, ↓two_true, ↓two_false, mkv, aggAt, Nat.reduceLeDiff, Nat.reduceSub, Nat.reduceMul, implies_true, Nat.reduceEqDiff, reduceIte, Nat.reduceAdd, Nat.reduceBEq, reduceCtorEq, cv3_101, cv101_3, fa71_1, st4, h0, h3, h4, wrt_own h1.bx]
      refine two_intro (fun u2 => ?_) (fun u2 => ?_)
      · have hg : loF 8 r > 2000000000000 := of_decide_eq_true u2
        have en : nfI (loF 8 r) = none := by unfold nfI; rw [if_pos hg]
        rw [en]
        try simp -implicitDefEqProofs only [kz, kk0, kk1, kk2, kk3, ↓two_true, ↓two_false, oS_some, oM_some, mkv, aggAt, Nat.reduceLeDiff, Nat.reduceSub, Nat.reduceMul, implies_true, Nat.reduceEqDiff, reduceIte, Nat.reduceAdd, Nat.reduceBEq, reduceCtorEq, cv3_101, cv101_3, fa71_1, st4, h0, h3, h4, wrt_own h1.bx]
        refine ⟨sl1, ?_⟩
        have a2 : Adv H1 (H1.set rb ⟨[sl1, .bool true], .own⟩) rb sl1 (r.drop 8) sl1 true (r.drop 8) := ⟨rfl, fun G h => h, fun h => h⟩
        have a3 := a1.trans a2
        simpa using a3
      · have hg : ¬ loF 8 r > 2000000000000 := of_decide_eq_false u2
        have en : nfI (loF 8 r) = some (loF 8 r - 1000000000000) := by unfold nfI; rw [if_neg hg]
        rw [en]
        have w1 : IntKind.i64.wrap (loF 8 r) = loF 8 r := IntWalk.i64_in _ (by omega)
        have w2 : IntKind.i64.wrap (loF 8 r - 1000000000000) = loF 8 r - 1000000000000 := IntWalk.i64_in _ (by omega)
        simp -implicitDefEqProofs only [kz, kk0, kk1, kk2, kk3, ↓two_true, ↓two_false, mkv, aggAt, Nat.reduceLeDiff, Nat.reduceSub, Nat.reduceMul, implies_true, Nat.reduceEqDiff, reduceIte, Nat.reduceAdd, Nat.reduceBEq, reduceCtorEq, cv3_101, cv101_3, fa71_1, st4, h0, h3, h4, w1, w2]
        exact ⟨sl1, by simpa using a1⟩

theorem LB.ins {B : Nat → Prop} {c : Option Nat} {H0 H : AH} {L : List Ix} {x : Ix} (h : LB B c H0 H L) (hx : x.ok B H) (hb : ∀ b, x.bs b → ¬ B b ∧ H0.length ≤ b ∧ (∀ (i : Nat) y, L[i]? = some y → ¬ y.bs b) ∧ ∀ cb, c = some cb → cb ≠ b) : LB B c H0 H (x :: L) := by
  refine ⟨?_, ?_, ?_, h.len, h.keep, h.b0, h.bl, h.cur, ?_⟩
  · rintro (_ | i) y hy
    · cases hy; exact hx
    · exact h.ok i y hy
  · rintro (_ | i) y hy b hb2
    · cases hy; exact ⟨(hb b hb2).1, (hb b hb2).2.1⟩
    · exact h.fr i y hy b hb2
  · rintro (_ | i) (_ | j) y z hne hy hz b e1 e2
    · exact hne rfl
    · cases hy; exact (hb b e1).2.2.1 j z hz e2
    · cases hz; exact (hb b e2).2.2.1 i y hy e1
    · exact h.dj i j y z (by omega) hy hz b e1 e2
  · rintro cb e (_ | i) y hy h2
    · cases hy; exact (hb cb h2).2.2.2 cb e rfl
    · exact h.nc cb e i y hy h2
/-- A new element of a table that is held; the row of numbers in it is held no more by itself. -/
theorem st_insC {c : Option Nat} {H0 H : AH} {L' : List Ix} {v p : Value} {ks : List CK} {n s : Nat} {xs x : List Value} {V : List CV} {m : List Int} {Φ : Value → AH → Prop} (hs : ks.length = s)
    (q : LX c H0 H (.own (.cmp (.row v ks n xs) V) :: .own (.row p m) :: L')) (hx : All2 H ks x) (ho : ∀ y ∈ x, OwnC H y) (hdj : x.Pairwise Dj) (hp : ∀ y ∈ x, ∀ b, blkOf y = some b → blkOf p = some b) (hl : n + 1 ≤ 1073741824)
    (hk : ∀ b H', LX c H0 H' (.own (.cmp (.row (.slice (some ⟨b, 0, none⟩) (n + 1) s) ks (n + 1) (xs ++ x)) (V ++ x.map (cv H))) :: L') → Φ (.slice (some ⟨b, 0, none⟩) (n + 1) s) H') :
    oA (app s v (.slice (some ⟨H.length, 0, none⟩) 1 s) (H ++ [⟨x, .own⟩])) Φ := by
  subst hs
  obtain ⟨B, h⟩ := q
  obtain ⟨ht, hv⟩ := h.ok 0 _ rfl
  have ht : OT H v ks n xs := ht
  have hv : cvs H xs = V := hv
  have hpt : ∀ b, blkOf p = some b → ¬ (Comp.row v ks n xs).bs b := fun b hb hb2 => h.dj 1 0 _ _ (by omega) rfl rfl b hb hb2
  have hxv : ∀ y ∈ x, Dj v y := fun y hy b hb hb2 => hpt b (hp y hy b hb2) (.inl hb)
  have hxx : ∀ y ∈ x, ∀ z ∈ xs, Dj y z := fun y hy z hz b hb hb2 => hpt b (hp y hy b hb) (.inr ⟨z, hz, hb2⟩)
  refine oA_push ht.fown hx hxv hl fun b H' f a hc hb => hk b H' ?_
  have hlen := a.len
  have h1 := h.upd (H' := H') (x' := .own (.row (.slice none 0 0) [])) 0 rfl a.len (fun g hg hn => a.keep g hg (fun e => hn (.inl e))) OwnRow.nil (fun g hg => by simp [Ix.bs, It.bs, blkOf] at hg)
  have h2 : LB B c H0 H' L' := h1.tail.tail
  have hT : OT H' (.slice (some ⟨b, 0, none⟩) (n + 1) ks.length) ks (n + 1) (xs ++ x) := by
    refine OT.of f ?_ ?_
    · intro j y hy
      have hmem := List.mem_of_getElem? hy
      have hold : OwnC H y := by
        rcases List.mem_append.1 hmem with h1 | h1
        · obtain ⟨i, hi⟩ := List.mem_iff_getElem?.1 h1
          exact ht.own i y hi
        · exact ho y h1
      refine hold.same fun g hg => a.keep g (hold.lt g hg) fun e => ?_
      rcases List.mem_append.1 hmem with h1 | h1
      · obtain ⟨i, hi⟩ := List.mem_iff_getElem?.1 h1
        exact ht.out i y hi g e hg
      · exact hxv y h1 g e hg
    · intro i j y z hij hy hz
      rw [List.getElem?_append] at hy hz
      split at hy <;> split at hz
      · exact ht.dif i j y z hij hy hz
      · exact (hxx z (List.mem_of_getElem? hz) y (List.mem_of_getElem? hy)).symm
      · exact hxx y (List.mem_of_getElem? hy) z (List.mem_of_getElem? hz)
      · exact pw_get hdj _ _ y z (by omega) hy hz
  have hV : cvs H' (xs ++ x) = V ++ x.map (cv H) := by
    rw [← hv]
    unfold cvs
    rw [List.map_append, List.map_congr_left fun y hy => hc y (List.mem_append.2 (.inl hy)), List.map_congr_left fun y hy => hc y (List.mem_append.2 (.inr hy))]
  refine ⟨B, h2.ins ⟨hT, hV⟩ fun g hg => ?_⟩
  have cases3 : g = b ∨ (Comp.row v ks n xs).bs g ∨ blkOf p = some g := by
    rcases hg with hg | ⟨y, hy, hg⟩
    · left; simp [blkOf] at hg; exact hg.symm
    · rcases List.mem_append.1 hy with h3 | h3
      · exact .inr (.inl (.inr ⟨y, h3, hg⟩))
      · exact .inr (.inr (hp y h3 g hg))
  have hbn : H.length < b := hb
  rcases cases3 with rfl | h3 | h3
  · refine ⟨fun e => by have := (h.bl g e).1; omega, by have := h.len; omega, fun i y hy e => ?_, fun cb e e2 => ?_⟩
    · have := (h.ok (i + 2) y hy).lt g e; omega
    · have := (h.cur cb e).lt; omega
  · exact ⟨(h.fr 0 _ rfl g h3).1, (h.fr 0 _ rfl g h3).2, fun i y hy e => h.dj 0 (i + 2) _ y (by omega) rfl hy g h3 e, fun cb e e2 => h.nc cb e 0 _ rfl (by rw [e2]; exact h3)⟩
  · exact ⟨(h.fr 1 _ rfl g h3).1, (h.fr 1 _ rfl g h3).2, fun i y hy e => h.dj 1 (i + 2) _ y (by omega) rfl hy g h3 e, fun cb e e2 => h.nc cb e 1 _ rfl (by rw [e2]; exact h3)⟩
theorem LX.new {c : Option Nat} {H0 H : AH} {L : List Ix} {v : Value} {ks : List CK} {n : Nat} {xs : List Value} {V : List CV} (h : LX c H0 H L) (i : Nat) (hi : L[i]? = some (.own (.cmp (.row v ks n xs) V))) : New H0 H v ks n xs ∧ cvs H xs = V := by
  obtain ⟨B, h⟩ := h
  obtain ⟨h1, h2⟩ := h.ok i _ hi
  exact ⟨⟨h1, fun b hb => (h.fr i _ hi b hb).2⟩, h2⟩
theorem LX.nilT {c : Option Nat} {H0 H : AH} {L : List Ix} (h : LX c H0 H L) (ks : List CK) : LX c H0 H (.own (.cmp (.row (.slice none 0 0) ks 0 []) []) :: L) := by
  obtain ⟨B, h⟩ := h
  exact ⟨B, h.ins ⟨OT.of FOwn.nil (fun j y h => by simp at h) (fun i j x y _ h => by simp at h), rfl⟩ fun b hb => by rcases hb with hb | ⟨y, hy, _⟩ <;> simp [blkOf] at *⟩
theorem LX.boxT {c : Option Nat} {H0 H : AH} {L : List Ix} {b : Nat} {cs : List Value} (h : LX c H0 H L) (i : Nat) (hi : L[i]? = some (.own (.box b cs))) (ks : List CK) (s : Nat) (hs : ks.length = s) : LX c H0 H (L.set i (.own (.cmp (.row (.slice (some ⟨b, 0, none⟩) 0 s) ks 0 []) []))) := by
  subst hs
  obtain ⟨B, h⟩ := h
  have hb : H[b]? = some ⟨cs, .own⟩ := h.ok i _ hi
  exact ⟨B, h.upd i hi (Nat.le_refl _) (fun _ _ _ => rfl) ⟨OT.of (FOwn.at0 hb) (fun j y h => by simp at h) (fun i j x y _ h => by simp at h), rfl⟩ fun g hg => .inl (by rcases hg with hg | ⟨y, hy, _⟩ <;> simp [blkOf] at *; exact hg.symm)⟩
theorem st_cellsX {Φ : Value → AH → Prop} {H : AH} {cs : List Value} {n s : Nat} (k : Φ (.slice (some ⟨H.length, 0, none⟩) n s) (H ++ [⟨cs, .own⟩])) : oM (some (cs, some (n, s))) H Φ := k
theorem LX.sel2 {c : Option Nat} {H0 H : AH} {L : List Ix} (h : LX c H0 H L) (is : List Nat) (hn : is.Nodup) (hb : (is.all fun i => decide (i < L.length)) = true) : LX c H0 H (is.filterMap fun i => L[i]?) := by
  refine h.pick is _ ?_ hn
  clear hn
  induction is with
  | nil => rfl
  | cons i is ih =>
    simp only [List.all_cons, Bool.and_eq_true, decide_eq_true_eq] at hb
    rw [List.map_cons, ih hb.2, List.filterMap_cons, List.getElem?_eq_getElem hb.1]
    rfl

def rdR (l : List Int) : Option (List CV) := match l with
  | [] => none
  | x :: t => match rdAll nfI x.toNat t with
    | some (V, []) => if cdOk (insL V x.toNat) = true then some V else none
    | _ => none
theorem rdNums_bad {f : Int → Option Int} {k : Nat} {r : List Int} (h : r.length < 8) (hk : 0 < k) : rdNums f k r = none := by
  cases k with
  | zero => omega
  | succ k => rw [rdNums, if_pos h]
theorem getD_dropH {l : List Int} : ∀ {k : Nat}, (l.drop k).headD 0 = l.getD k 0 := by
  intro k
  rw [List.headD_eq_head?_getD, List.head?_drop, List.getD_eq_getElem?_getD]
theorem tails5 {r : List Int} : r.tail.tail.tail.tail.tail = r.drop 5 := by
  rw [← List.drop_one, ← List.drop_one, ← List.drop_one, ← List.drop_one, ← List.drop_one]
  simp only [List.drop_drop]
theorem bad5 {r : List Int} : (r.isEmpty || r.tail.isEmpty || r.tail.tail.isEmpty || r.tail.tail.tail.isEmpty || r.tail.tail.tail.tail.isEmpty) = decide (r.length < 5) := by
  match r with
  | [] => rfl
  | [_] => rfl
  | [_, _] => rfl
  | [_, _, _] => rfl
  | [_, _, _, _] => rfl
  | _ :: _ :: _ :: _ :: _ :: t => simp
theorem rdR_bad {l : List Int} {K : Nat} (hK : l.headD 0 = K) (h : l = [] ∨ rdAll nfI K l.tail = none) : rdR l = none := by
  cases l with
  | nil => rfl
  | cons x t =>
    rcases h with h | h
    · cases h
    · have hx : x = (K : Int) := hK
      subst hx
      simp only [rdR, Int.toNat_natCast]
      rw [show rdAll nfI K t = none from h]
theorem rdR_go {l : List Int} {K : Nat} {V : List CV} {r : List Int} (hK : l.headD 0 = K) (hn : l ≠ []) (h : rdAll nfI K l.tail = some (V, r)) : rdR l = if r = [] ∧ cdOk (insL V K) = true then some V else none := by
  cases l with
  | nil => exact absurd rfl hn
  | cons x t =>
    have hx : x = (K : Int) := hK
    subst hx
    simp only [rdR, Int.toNat_natCast]
    rw [show rdAll nfI K t = some (V, r) from h]
    cases r with
    | nil => simp
    | cons y s => simp
/-- The reader goes on from a list of bytes. -/
structure RdOn (H : AH) (sl : Value) (r : List Int) : Prop where
  row : ByRow H sl r
  by' : byOk r
  len : r.length ≤ 1048576
theorem RdOn.lt {H : AH} {sl : Value} {r : List Int} (h : RdOn H sl r) : ∀ b, blkOf sl = some b → b < H.length := by
  intro b hb
  rcases h.row with ⟨rfl, _⟩ | ⟨b', o, cs, rfl, h1, _⟩
  · simp [blkOf] at hb
  · simp [blkOf] at hb; subst hb
    exact rd_lt (by rw [h1]; rfl)
theorem RdOn.st {H0 H : AH} {L : List Ix} {sl : Value} {r : List Int} {rb : Nat} {bad : Bool} (h : RdOn H0 sl r) (q : LX none H0 H L) (i : Nat) (hi : L[i]? = some (.own (.box rb [sl, .bool bad]))) : RdSt H rb sl bad r :=
  ⟨q.bx i hi, h.row.ext q.ext, fun e => by have := h.lt rb e; have := q.bxlt i hi; omega⟩
theorem RdOn.next {H H1 H2 : AH} {sl sl' : Value} {r r' : List Int} {rb : Nat} {b : Bool} (h : RdOn H sl r) (a : Adv H1 H2 rb sl r sl' b r') (hs : ∀ x ∈ r', x ∈ r) (hl : r'.length ≤ r.length) : RdOn H sl' r' :=
  ⟨a.row H h.row, fun x hx => h.by' x (hs x hx), Nat.le_trans hl h.len⟩
theorem LX.adv {H0 H H' : AH} {L : List Ix} {rb : Nat} {sl sl' : Value} {bad bad' : Bool} {r r' : List Int} (q : LX none H0 H L) (i : Nat) (hi : L[i]? = some (.own (.box rb [sl, .bool bad]))) (a : Adv H H' rb sl r sl' bad' r') : LX none H0 H' (L.set i (.own (.box rb [sl', .bool bad']))) := by
  rw [a.eq]; exact q.set i hi _

set_option maxHeartbeats 4000000 in
theorem implRead_ok {H : AH} {v : Value} {l : List Int} (hv : ByRow H v l) (hy : byOk l) (hl : l.length ≤ 1048576) :
    CallsA Try.prog 14 #[v] H fun r H' => (∃ w m ys, r = .tuple #[w, .bool (rdR l).isSome] ∧ New H H' w kInstr m ys ∧ cvs H' ys = (rdR l).getD [] ∧ m ≤ 255) ∧ ∃ K, H' = H ++ K := by
  have q := (LX.nil (H := H))
  have r0 : RdOn H v l := ⟨hv, hy, hl⟩
  obtain ⟨va, vc, rfl, -⟩ := hv.op
  refine w14 ?_
  unfold k14
  simp -implicitDefEqProofs only [kz, kk0, kk1, kk2, kk3, ↓two_true, ↓two_false, mkv, aggAt, Nat.reduceLeDiff, Nat.reduceSub, Nat.reduceMul, implies_true, Nat.reduceEqDiff, reduceIte, Nat.reduceAdd, Nat.reduceBEq, reduceCtorEq, al66, ap29_29, ap64_64, bd66, bd71, bs29_1, bs64_1, fa63_0, fa63_1, fa63_2, fa66_0, fa66_2, fa66_3, fa71_0, fa71_1, ld3, ld4, ld22, ld64, ld66, ln22, st3, st64, st66]
  refine st_box q fun H1 q1 => ?_
  simp -implicitDefEqProofs only [kz, kk0, kk1, kk2, kk3, ↓two_true, ↓two_false, mkv, aggAt, Nat.reduceLeDiff, Nat.reduceSub, Nat.reduceMul, implies_true, Nat.reduceEqDiff, reduceIte, Nat.reduceAdd, Nat.reduceBEq, reduceCtorEq, al66, ap29_29, ap64_64, bd66, bd71, bs29_1, bs64_1, fa63_0, fa63_1, fa63_2, fa66_0, fa66_2, fa66_3, fa71_0, fa71_1, ld3, ld4, ld22, ld64, ld66, ln22, st3, st64, st66]
  refine (rdOne_ok (r0.st q1 0 rfl) hy hl).mono ?_
  rintro _ H2 ⟨sl2, rfl, a2⟩
  have q2 := q1.adv 0 rfl a2
  have r2 := r0.next a2 (fun x hx => List.mem_of_mem_tail hx) (by simp)
  simp only [List.set_cons_zero, Bool.false_or] at q2 a2
  simp -implicitDefEqProofs only [kz, kk0, kk1, kk2, kk3, ↓two_true, ↓two_false, mkv, aggAt, Nat.reduceLeDiff, Nat.reduceSub, Nat.reduceMul, implies_true, Nat.reduceEqDiff, reduceIte, Nat.reduceAdd, Nat.reduceBEq, reduceCtorEq, al66, ap29_29, ap64_64, bd66, bd71, bs29_1, bs64_1, fa63_0, fa63_1, fa63_2, fa66_0, fa66_2, fa66_3, fa71_0, fa71_1, ld3, ld4, ld22, ld64, ld66, ln22, st3, st64, st66, q2.rd 0 rfl]
  have hh := hy.head
  obtain ⟨K, hK⟩ : ∃ K : Nat, l.headD 0 = K := ⟨(l.headD 0).toNat, by omega⟩
  have hK255 : K ≤ 255 := by omega
  rw [hK]
  have q3 := q2.nilT kInstr
  refine rW_loop (σ := Nat) (fun k tm H' => ∃ a c m xs V sl bad r, tm 4 = .pointer (some ⟨H.length, 0, none⟩) ∧ tm 5 = .slice a m c ∧ tm 6 = .int .i64 k ∧ m + k ≤ K ∧ LX none H H' [.own (.cmp (.row (.slice a m c) kInstr m xs) V), .own (.box H.length [sl, .bool bad])] ∧ RdOn H sl r ∧
    (bad = false → rdAll nfI K l.tail = (rdAll nfI k r).map fun w => (V ++ w.1, w.2)) ∧ (bad = false → m + k = K ∧ l ≠ []) ∧ (bad = true → l = [] ∨ rdAll nfI K l.tail = none)) (fun k => k) K ?_ ?_
  · refine ⟨none, 0, 0, [], [], sl2, l.isEmpty, l.tail, ?_, ?_, ?_, by omega, q3, r2, fun _ => ?_, fun h => ⟨by omega, fun e => by rw [e] at h; cases h⟩, fun h => .inl ?_⟩
    · simp -implicitDefEqProofs [kk0, kk1, kk2, kk3, rW_block, ↓two_true, ↓two_false, rW_cond, rO_guard, oS_some, oM_some, mkv, aggAt, Nat.reduceLeDiff, Nat.reduceSub, Nat.reduceMul, cond_true, cond_false, Option.bind_some, List.length_append, List.length_cons, List.length_nil, List.append_assoc, List.cons_append, List.nil_append, List.set_cons_zero, List.set_cons_succ, List.size_toArray, List.all_cons, List.all_nil, List.drop_zero, List.drop_succ_cons, List.take_succ_cons, List.take_zero, List.mem_cons, Prod.mk.injEq, List.not_mem_nil, implies_true, List.getElem?_toArray, List.getElem?_cons_zero, List.getElem?_cons_succ, List.getElem?_nil, Option.getD_some, Option.getD_none, Nat.reduceEqDiff, reduceIte, Nat.reduceAdd, List.map_toArray, List.map_cons, List.map_nil, Bool.false_eq_true, Nat.reduceBEq, Option.map_some, Option.map_none, reduceCtorEq, al66, ap29_29, ap64_64, bd66, bd71, bs29_1, bs64_1, fa63_0, fa63_1, fa63_2, fa66_0, fa66_2, fa66_3, fa71_0, fa71_1, ld3, ld4, ld22, ld64, ld66, ln22, st3, st64, st66]
    · simp -implicitDefEqProofs [kk0, kk1, kk2, kk3, rW_block, ↓two_true, ↓two_false, rW_cond, rO_guard, oS_some, oM_some, mkv, aggAt, Nat.reduceLeDiff, Nat.reduceSub, Nat.reduceMul, cond_true, cond_false, Option.bind_some, List.length_append, List.length_cons, List.length_nil, List.append_assoc, List.cons_append, List.nil_append, List.set_cons_zero, List.set_cons_succ, List.size_toArray, List.all_cons, List.all_nil, List.drop_zero, List.drop_succ_cons, List.take_succ_cons, List.take_zero, List.mem_cons, Prod.mk.injEq, List.not_mem_nil, implies_true, List.getElem?_toArray, List.getElem?_cons_zero, List.getElem?_cons_succ, List.getElem?_nil, Option.getD_some, Option.getD_none, Nat.reduceEqDiff, reduceIte, Nat.reduceAdd, List.map_toArray, List.map_cons, List.map_nil, Bool.false_eq_true, Nat.reduceBEq, Option.map_some, Option.map_none, reduceCtorEq, al66, ap29_29, ap64_64, bd66, bd71, bs29_1, bs64_1, fa63_0, fa63_1, fa63_2, fa66_0, fa66_2, fa66_3, fa71_0, fa71_1, ld3, ld4, ld22, ld64, ld66, ln22, st3, st64, st66]
    · simp -implicitDefEqProofs [kk0, kk1, kk2, kk3, rW_block, ↓two_true, ↓two_false, rW_cond, rO_guard, oS_some, oM_some, mkv, aggAt, Nat.reduceLeDiff, Nat.reduceSub, Nat.reduceMul, cond_true, cond_false, Option.bind_some, List.length_append, List.length_cons, List.length_nil, List.append_assoc, List.cons_append, List.nil_append, List.set_cons_zero, List.set_cons_succ, List.size_toArray, List.all_cons, List.all_nil, List.drop_zero, List.drop_succ_cons, List.take_succ_cons, List.take_zero, List.mem_cons, Prod.mk.injEq, List.not_mem_nil, implies_true, List.getElem?_toArray, List.getElem?_cons_zero, List.getElem?_cons_succ, List.getElem?_nil, Option.getD_some, Option.getD_none, Nat.reduceEqDiff, reduceIte, Nat.reduceAdd, List.map_toArray, List.map_cons, List.map_nil, Bool.false_eq_true, Nat.reduceBEq, Option.map_some, Option.map_none, reduceCtorEq, al66, ap29_29, ap64_64, bd66, bd71, bs29_1, bs64_1, fa63_0, fa63_1, fa63_2, fa66_0, fa66_2, fa66_3, fa71_0, fa71_1, ld3, ld4, ld22, ld64, ld66, ln22, st3, st64, st66]
    · simp only [List.nil_append]
      cases rdAll nfI K l.tail <;> rfl
    · simpa using h
  · rintro k tm H3 ⟨a, c, m, xs, V, sl, bad, r, h4, h5, h6, hm, q, ro, g1, g0, g2⟩
    simp -implicitDefEqProofs only [kz, kk0, kk1, kk2, kk3, ↓two_true, ↓two_false, mkv, aggAt, Nat.reduceLeDiff, Nat.reduceSub, Nat.reduceMul, implies_true, Nat.reduceEqDiff, reduceIte, Nat.reduceAdd, Nat.reduceBEq, reduceCtorEq, al66, ap29_29, ap64_64, bd66, bd71, bs29_1, bs64_1, fa63_0, fa63_1, fa63_2, fa66_0, fa66_2, fa66_3, fa71_0, fa71_1, ld3, ld4, ld22, ld64, ld66, ln22, st3, st64, st66, h4, h5, h6, q.rd 1 rfl]
    refine two_intro (fun u1 => ?_) (fun u1 => ?_)
    · have hk1 : 0 < k := by have h5 := of_decide_eq_true u1; omega
      refine two_intro (fun u2 => ?_) (fun u2 => ?_)
      · obtain rfl : bad = false := by simpa using u2
        obtain ⟨g3, g4⟩ := g0 rfl
        have g1 := g1 rfl
        clear g0 g2
        obtain ⟨k, rfl⟩ : ∃ k', k = k' + 1 := ⟨k - 1, by omega⟩
        have wk : IntKind.i64.wrap (((k + 1 : Nat) : Int) - 1) = (k : Int) := by rw [IntWalk.i64_in _ (by omega)]; omega
        refine (rdOne_ok (ro.st q 1 rfl) ro.by' ro.len).mono ?_
        rintro _ H4 ⟨sl4, rfl, a4⟩
        have q4 := q.adv 1 rfl a4
        have r4 := ro.next a4 (fun x hx => List.mem_of_mem_tail hx) (by simp)
        simp only [List.set_cons_zero, List.set_cons_succ] at q4
        simp -implicitDefEqProofs only [kz, kk0, kk1, kk2, kk3, ↓two_true, ↓two_false, mkv, aggAt, Nat.reduceLeDiff, Nat.reduceSub, Nat.reduceMul, implies_true, Nat.reduceEqDiff, reduceIte, Nat.reduceAdd, Nat.reduceBEq, reduceCtorEq, al66, ap29_29, ap64_64, bd66, bd71, bs29_1, bs64_1, fa63_0, fa63_1, fa63_2, fa66_0, fa66_2, fa66_3, fa71_0, fa71_1, ld3, ld4, ld22, ld64, ld66, ln22, st3, st64, st66, h4, h5, h6]
        refine (rdOne_ok (r4.st q4 1 rfl) r4.by' r4.len).mono ?_
        rintro _ H5 ⟨sl5, rfl, a5⟩
        have q5 := q4.adv 1 rfl a5
        have r5 := r4.next a5 (fun x hx => List.mem_of_mem_tail hx) (by simp)
        simp only [List.set_cons_zero, List.set_cons_succ] at q5
        simp -implicitDefEqProofs only [kz, kk0, kk1, kk2, kk3, ↓two_true, ↓two_false, mkv, aggAt, Nat.reduceLeDiff, Nat.reduceSub, Nat.reduceMul, implies_true, Nat.reduceEqDiff, reduceIte, Nat.reduceAdd, Nat.reduceBEq, reduceCtorEq, al66, ap29_29, ap64_64, bd66, bd71, bs29_1, bs64_1, fa63_0, fa63_1, fa63_2, fa66_0, fa66_2, fa66_3, fa71_0, fa71_1, ld3, ld4, ld22, ld64, ld66, ln22, st3, st64, st66, h4, h5, h6]
        refine st_box q5 fun H6 q6 => ?_
        simp -implicitDefEqProofs only [kz, kk0, kk1, kk2, kk3, ↓two_true, ↓two_false, mkv, aggAt, Nat.reduceLeDiff, Nat.reduceSub, Nat.reduceMul, implies_true, Nat.reduceEqDiff, reduceIte, Nat.reduceAdd, Nat.reduceBEq, reduceCtorEq, al66, ap29_29, ap64_64, bd66, bd71, bs29_1, bs64_1, fa63_0, fa63_1, fa63_2, fa66_0, fa66_2, fa66_3, fa71_0, fa71_1, ld3, ld4, ld22, ld64, ld66, ln22, st3, st64, st66, h4, h5, h6, q6.rd 0 rfl]
        refine st_set q6 0 rfl fun H7 q7 => ?_
        simp only [List.set_cons_zero, List.set_cons_succ] at q7
        simp -implicitDefEqProofs only [kz, kk0, kk1, kk2, kk3, ↓two_true, ↓two_false, mkv, aggAt, Nat.reduceLeDiff, Nat.reduceSub, Nat.reduceMul, implies_true, Nat.reduceEqDiff, reduceIte, Nat.reduceAdd, Nat.reduceBEq, reduceCtorEq, al66, ap29_29, ap64_64, bd66, bd71, bs29_1, bs64_1, fa63_0, fa63_1, fa63_2, fa66_0, fa66_2, fa66_3, fa71_0, fa71_1, ld3, ld4, ld22, ld64, ld66, ln22, st3, st64, st66, h4, h5, h6]
        refine (rdOne_ok (r5.st q7 2 rfl) r5.by' r5.len).mono ?_
        rintro _ H8 ⟨sl8, rfl, a8⟩
        have q8 := q7.adv 2 rfl a8
        have r8 := r5.next a8 (fun x hx => List.mem_of_mem_tail hx) (by simp)
        simp only [List.set_cons_zero, List.set_cons_succ] at q8
        simp -implicitDefEqProofs only [kz, kk0, kk1, kk2, kk3, ↓two_true, ↓two_false, mkv, aggAt, Nat.reduceLeDiff, Nat.reduceSub, Nat.reduceMul, implies_true, Nat.reduceEqDiff, reduceIte, Nat.reduceAdd, Nat.reduceBEq, reduceCtorEq, al66, ap29_29, ap64_64, bd66, bd71, bs29_1, bs64_1, fa63_0, fa63_1, fa63_2, fa66_0, fa66_2, fa66_3, fa71_0, fa71_1, ld3, ld4, ld22, ld64, ld66, ln22, st3, st64, st66, h4, h5, h6, q8.rd 0 rfl]
        refine st_set q8 0 rfl fun H9 q9 => ?_
        simp only [List.set_cons_zero, List.set_cons_succ] at q9
        simp -implicitDefEqProofs only [kz, kk0, kk1, kk2, kk3, ↓two_true, ↓two_false, mkv, aggAt, Nat.reduceLeDiff, Nat.reduceSub, Nat.reduceMul, implies_true, Nat.reduceEqDiff, reduceIte, Nat.reduceAdd, Nat.reduceBEq, reduceCtorEq, al66, ap29_29, ap64_64, bd66, bd71, bs29_1, bs64_1, fa63_0, fa63_1, fa63_2, fa66_0, fa66_2, fa66_3, fa71_0, fa71_1, ld3, ld4, ld22, ld64, ld66, ln22, st3, st64, st66, h4, h5, h6]
        refine (rdOne_ok (r8.st q9 2 rfl) r8.by' r8.len).mono ?_
        rintro _ H10 ⟨sl10, rfl, a10⟩
        have q10 := q9.adv 2 rfl a10
        have r10 := r8.next a10 (fun x hx => List.mem_of_mem_tail hx) (by simp)
        simp only [List.set_cons_zero, List.set_cons_succ] at q10
        simp -implicitDefEqProofs only [kz, kk0, kk1, kk2, kk3, ↓two_true, ↓two_false, mkv, aggAt, Nat.reduceLeDiff, Nat.reduceSub, Nat.reduceMul, implies_true, Nat.reduceEqDiff, reduceIte, Nat.reduceAdd, Nat.reduceBEq, reduceCtorEq, al66, ap29_29, ap64_64, bd66, bd71, bs29_1, bs64_1, fa63_0, fa63_1, fa63_2, fa66_0, fa66_2, fa66_3, fa71_0, fa71_1, ld3, ld4, ld22, ld64, ld66, ln22, st3, st64, st66, h4, h5, h6, q10.rd 0 rfl]
        refine st_set q10 0 rfl fun H11 q11 => ?_
        simp only [List.set_cons_zero, List.set_cons_succ] at q11
        simp -implicitDefEqProofs only [kz, kk0, kk1, kk2, kk3, ↓two_true, ↓two_false, mkv, aggAt, Nat.reduceLeDiff, Nat.reduceSub, Nat.reduceMul, implies_true, Nat.reduceEqDiff, reduceIte, Nat.reduceAdd, Nat.reduceBEq, reduceCtorEq, al66, ap29_29, ap64_64, bd66, bd71, bs29_1, bs64_1, fa63_0, fa63_1, fa63_2, fa66_0, fa66_2, fa66_3, fa71_0, fa71_1, ld3, ld4, ld22, ld64, ld66, ln22, st3, st64, st66, h4, h5, h6]
        refine (rdOne_ok (r10.st q11 2 rfl) r10.by' r10.len).mono ?_
        rintro _ H12 ⟨sl12, rfl, a12⟩
        have q12 := q11.adv 2 rfl a12
        have r12 := r10.next a12 (fun x hx => List.mem_of_mem_tail hx) (by simp)
        simp only [List.set_cons_zero, List.set_cons_succ, Bool.false_or, bad5] at q12
        rw [tails5] at r12
        simp -implicitDefEqProofs only [kz, kk0, kk1, kk2, kk3, ↓two_true, ↓two_false, mkv, aggAt, Nat.reduceLeDiff, Nat.reduceSub, Nat.reduceMul, implies_true, Nat.reduceEqDiff, reduceIte, Nat.reduceAdd, Nat.reduceBEq, reduceCtorEq, al66, ap29_29, ap64_64, bd66, bd71, bs29_1, bs64_1, fa63_0, fa63_1, fa63_2, fa66_0, fa66_2, fa66_3, fa71_0, fa71_1, ld3, ld4, ld22, ld64, ld66, ln22, st3, st64, st66, h4, h5, h6, q12.rd 0 rfl]
        refine st_set q12 0 rfl fun H13 q13 => ?_
        simp only [List.set_cons_zero, List.set_cons_succ] at q13
        simp -implicitDefEqProofs only [kz, kk0, kk1, kk2, kk3, ↓two_true, ↓two_false, mkv, aggAt, Nat.reduceLeDiff, Nat.reduceSub, Nat.reduceMul, implies_true, Nat.reduceEqDiff, reduceIte, Nat.reduceAdd, Nat.reduceBEq, reduceCtorEq, al66, ap29_29, ap64_64, bd66, bd71, bs29_1, bs64_1, fa63_0, fa63_1, fa63_2, fa66_0, fa66_2, fa66_3, fa71_0, fa71_1, ld3, ld4, ld22, ld64, ld66, ln22, st3, st64, st66, h4, h5, h6, q13.rd 0 rfl]
        clear a4 a5 a8 a10 a12 q4 q5 q6 q7 q8 q9 q10 q11 q12 r4 r5 r8 r10
        refine two_intro (fun u3 => ?_) (fun u3 => ?_)
        · have hop : r.headD 0 = 1 := by simpa using u3
          refine (rdTwo_ok (r12.st q13 2 rfl) r12.by' r12.len).mono ?_
          rintro _ H14 ⟨sl14, rfl, a14⟩
          have q14 := q13.adv 2 rfl a14
          have r14 := r12.next a14 (fun x hx => List.mem_of_mem_drop hx) (by simp; omega)
          simp only [List.set_cons_zero, List.set_cons_succ, List.drop_drop, List.length_drop] at q14 r14
          obtain ⟨n1, n2⟩ := loF_nn (k := 2) (ro.by'.drop 5)
          obtain ⟨k2, hk2⟩ : ∃ k2 : Nat, loF 2 (r.drop 5) = k2 := ⟨(loF 2 (r.drop 5)).toNat, by omega⟩
          rw [hk2]
          have hk65 : k2 < 65536 := by have : (256 : Int) ^ 2 = 65536 := by decide
                                       omega
          obtain ⟨b7, hb7⟩ : ∃ b7 : Bool, (decide (r.length < 5) || decide (r.length - 5 < 2)) = b7 := ⟨_, rfl⟩
          rw [hb7] at q14
          have q15 := LX.nil0 q14
          have fin : ∀ (nums r' : List Int) (bad : Bool), (b7 = true → bad = true) → (b7 = false → bad = false → rdNums nfI k2 (r.drop 7) = some (nums, r')) → (b7 = false → bad = true → rdNums nfI k2 (r.drop 7) = none) →
              (bad = false → rdIns nfI r = some ([.i 1, .i (r.tail.headD 0), .i (r.tail.tail.headD 0), .i (r.tail.tail.tail.headD 0), .i (r.tail.tail.tail.tail.headD 0), .r nums], r')) ∧ (bad = true → rdIns nfI r = none) := by
            intro nums r' bad f1 f2 f3
            have hk2' : (loF 2 (r.drop 5)).toNat = k2 := by omega
            by_cases hl7 : r.length < 7
            · have hb : b7 = true := by rw [← hb7]; simp; omega
              have : rdIns nfI r = none := by
                unfold rdIns
                by_cases h5 : r.length < 5
                · rw [if_pos h5]
                · rw [if_neg h5, if_pos hop, if_pos hl7]
              exact ⟨fun e => (by rw [f1 hb] at e; exact absurd e (by decide)), fun _ => this⟩
            · have hb : b7 = false := by rw [← hb7]; simp; omega
              have e : rdIns nfI r = (rdNums nfI k2 (r.drop 7)).map fun z => ([.i 1, .i (r.tail.headD 0), .i (r.tail.tail.headD 0), .i (r.tail.tail.tail.headD 0), .i (r.tail.tail.tail.tail.headD 0), .r z.1], z.2) := by
                unfold rdIns
                rw [if_neg (by omega), if_pos hop, if_neg hl7, hk2', hop]
              exact ⟨fun h => by rw [e, f2 hb h]; rfl, fun h => by rw [e, f3 hb h]; rfl⟩
          simp -implicitDefEqProofs only [kz, kk0, kk1, kk2, kk3, ↓two_true, ↓two_false, mkv, aggAt, Nat.reduceLeDiff, Nat.reduceSub, Nat.reduceMul, implies_true, Nat.reduceEqDiff, reduceIte, Nat.reduceAdd, Nat.reduceBEq, reduceCtorEq, al66, ap29_29, ap64_64, bd66, bd71, bs29_1, bs64_1, fa63_0, fa63_1, fa63_2, fa66_0, fa66_2, fa66_3, fa71_0, fa71_1, ld3, ld4, ld22, ld64, ld66, ln22, st3, st64, st66, h4, h5, h6, hop] at q15 ⊢
          refine rW_loop (σ := Nat) (fun j tm H' => ∃ a' c' nums sl bad r', tm 4 = .pointer (some ⟨H.length, 0, none⟩) ∧ tm 5 = .slice a m c ∧ tm 6 = .int .i64 ((k + 1 : Nat) : Int) ∧ tm 7 = .pointer (some ⟨H5.length, 0, none⟩) ∧ tm 8 = .int .i64 j ∧
            LX none H H' [.own (.row (.slice a' nums.length c') nums), .own (.box H5.length [.int .i64 1, .int .i64 (r.tail.headD 0), .int .i64 (r.tail.tail.headD 0), .int .i64 (r.tail.tail.tail.headD 0), .int .i64 (r.tail.tail.tail.tail.headD 0), .slice a' nums.length c']), .own (.cmp (.row (.slice a m c) kInstr m xs) V), .own (.box H.length [sl, .bool bad])] ∧ RdOn H sl r' ∧ nums.length + j ≤ k2 ∧
            (b7 = true → bad = true) ∧ (b7 = false → bad = false → rdNums nfI k2 (r.drop 7) = (rdNums nfI j r').map fun z => (nums ++ z.1, z.2)) ∧ (b7 = false → bad = false → nums.length + j = k2) ∧ (b7 = false → bad = true → rdNums nfI k2 (r.drop 7) = none)) (fun j => j) k2 ?_ ?_
          · refine ⟨none, 0, [], sl14, b7, r.drop 7, ?_, ?_, ?_, ?_, ?_, q15, r14, by simp, fun h => h, fun _ _ => ?_, fun _ _ => by simp, fun h1 h2 => by rw [h1] at h2; cases h2⟩
            · first | rfl | exact h4
            · first | rfl | exact h5
            · first | rfl | exact h6
            · rfl
            · rfl
            · simp only [List.nil_append]
              cases rdNums nfI k2 (r.drop 7) <;> rfl
          · rintro j tm2 H16 ⟨a', c', nums, sl, bad, r', m4, m5, m6, m7, m8, q, ro2, hnl, e1, e2, e3, e4⟩
            simp -implicitDefEqProofs only [kz, kk0, kk1, kk2, kk3, ↓two_true, ↓two_false, mkv, aggAt, Nat.reduceLeDiff, Nat.reduceSub, Nat.reduceMul, implies_true, Nat.reduceEqDiff, reduceIte, Nat.reduceAdd, Nat.reduceBEq, reduceCtorEq, al66, ap29_29, ap64_64, bd66, bd71, bs29_1, bs64_1, fa63_0, fa63_1, fa63_2, fa66_0, fa66_2, fa66_3, fa71_0, fa71_1, ld3, ld4, ld22, ld64, ld66, ln22, st3, st64, st66, m4, m5, m6, m7, m8, q.rd 1 rfl, q.rd 3 rfl]
            refine two_intro (fun v1 => ?_) (fun v1 => ?_)
            · have hj1 : 0 < j := by have h5 := of_decide_eq_true v1; omega
              refine two_intro (fun v2 => ?_) (fun v2 => ?_)
              · obtain rfl : bad = false := by simpa using v2
                try simp -implicitDefEqProofs only [kz, kk0, kk1, kk2, kk3, ↓two_true, ↓two_false, mkv, aggAt, Nat.reduceLeDiff, Nat.reduceSub, Nat.reduceMul, implies_true, Nat.reduceEqDiff, reduceIte, Nat.reduceAdd, Nat.reduceBEq, reduceCtorEq, al66, ap29_29, ap64_64, bd66, bd71, bs29_1, bs64_1, fa63_0, fa63_1, fa63_2, fa66_0, fa66_2, fa66_3, fa71_0, fa71_1, ld3, ld4, ld22, ld64, ld66, ln22, st3, st64, st66, m4, m5, m6, m7, m8, q.rd 1 rfl, q.rd 3 rfl]
                refine (rdNum_ok (ro2.st q 3 rfl) ro2.by' ro2.len).mono ?_
                rintro _ H17 ⟨sl17, rfl, a17⟩
                have q17 := q.adv 3 rfl a17
                have r17 := ro2.next a17 (fun x hx => List.mem_of_mem_drop hx) (by simp)
                simp only [List.set_cons_zero, List.set_cons_succ, Bool.false_or] at q17
                simp -implicitDefEqProofs only [kz, kk0, kk1, kk2, kk3, ↓two_true, ↓two_false, mkv, aggAt, Nat.reduceLeDiff, Nat.reduceSub, Nat.reduceMul, implies_true, Nat.reduceEqDiff, reduceIte, Nat.reduceAdd, Nat.reduceBEq, reduceCtorEq, al66, ap29_29, ap64_64, bd66, bd71, bs29_1, bs64_1, fa63_0, fa63_1, fa63_2, fa66_0, fa66_2, fa66_3, fa71_0, fa71_1, ld3, ld4, ld22, ld64, ld66, ln22, st3, st64, st66, m4, m5, m6, m7, m8, q17.rd 1 rfl, q17.rd 3 rfl, q.rd 1 rfl, q.rd 3 rfl]
                refine st_lit [(nfI (loF 8 r')).getD 0] rfl rfl q17 fun H18 q18 => ?_
                simp -implicitDefEqProofs only [kz, kk0, kk1, kk2, kk3, ↓two_true, ↓two_false, mkv, aggAt, Nat.reduceLeDiff, Nat.reduceSub, Nat.reduceMul, implies_true, Nat.reduceEqDiff, reduceIte, Nat.reduceAdd, Nat.reduceBEq, reduceCtorEq, al66, ap29_29, ap64_64, bd66, bd71, bs29_1, bs64_1, fa63_0, fa63_1, fa63_2, fa66_0, fa66_2, fa66_3, fa71_0, fa71_1, ld3, ld4, ld22, ld64, ld66, ln22, st3, st64, st66, m4, m5, m6, m7, m8, q18.rd 2 rfl, q18.rd 4 rfl, q.rd 1 rfl, q.rd 3 rfl]
                refine st_app q18 1 rfl (q18.int 0 rfl) (by simp; omega) fun a2 c2 H19 q19 => ?_
                simp only [List.set_cons_zero, List.set_cons_succ, List.length_cons, List.length_nil, Nat.zero_add] at q19 ⊢
                simp -implicitDefEqProofs only [kz, kk0, kk1, kk2, kk3, ↓two_true, ↓two_false, mkv, aggAt, Nat.reduceLeDiff, Nat.reduceSub, Nat.reduceMul, implies_true, Nat.reduceEqDiff, reduceIte, Nat.reduceAdd, Nat.reduceBEq, reduceCtorEq, al66, ap29_29, ap64_64, bd66, bd71, bs29_1, bs64_1, fa63_0, fa63_1, fa63_2, fa66_0, fa66_2, fa66_3, fa71_0, fa71_1, ld3, ld4, ld22, ld64, ld66, ln22, st3, st64, st66, m4, m5, m6, m7, m8, q19.rd 2 rfl, q19.rd 4 rfl, q.rd 1 rfl, q.rd 3 rfl]
                refine st_set q19 2 rfl fun H20 q20 => ?_
                simp only [List.set_cons_zero, List.set_cons_succ] at q20
                obtain ⟨j, rfl⟩ : ∃ j', j = j' + 1 := ⟨j - 1, by omega⟩
                have wj : IntKind.i64.wrap (((j + 1 : Nat) : Int) - 1) = (j : Int) := by rw [IntWalk.i64_in _ (by omega)]; omega
                simp -implicitDefEqProofs only [kz, kk0, kk1, kk2, kk3, ↓two_true, ↓two_false, mkv, aggAt, Nat.reduceLeDiff, Nat.reduceSub, Nat.reduceMul, implies_true, Nat.reduceEqDiff, reduceIte, Nat.reduceAdd, Nat.reduceBEq, reduceCtorEq, al66, ap29_29, ap64_64, bd66, bd71, bs29_1, bs64_1, fa63_0, fa63_1, fa63_2, fa66_0, fa66_2, fa66_3, fa71_0, fa71_1, ld3, ld4, ld22, ld64, ld66, ln22, st3, st64, st66, m4, m5, m6, m7, m8, wj]
                have q21 := q20.sel2 [1, 2, 3, 4] (by decide) rfl
                simp only [List.filterMap_cons, List.filterMap_nil, List.getElem?_cons_zero, List.getElem?_cons_succ] at q21
                have hlen1 : (nums ++ [(nfI (loF 8 r')).getD 0]).length = nums.length + 1 := by simp
                refine ⟨j, by omega, a2, c2, nums ++ [(nfI (loF 8 r')).getD 0], sl17, _, r'.drop 8, rfl, by rw [hlen1]; exact q21, r17, by rw [hlen1]; omega, fun h => absurd (e1 h) (by decide), fun h1 h2 => ?_, fun h1 _ => by rw [hlen1]; have := e3 h1 rfl; omega, fun h1 h2 => ?_⟩
                · simp only [Bool.or_eq_false_iff, decide_eq_false_iff_not] at h2
                  rw [e2 h1 rfl, rdNums, if_neg h2.1]
                  cases hn : nfI (loF 8 r') with
                  | none => rw [hn] at h2; simp at h2
                  | some y =>
                    simp only [Option.getD_some]
                    cases rdNums nfI j (r'.drop 8) <;> simp
                · rw [e2 h1 rfl]
                  simp only [Bool.or_eq_true, decide_eq_true_eq] at h2
                  rcases h2 with h2 | h2
                  · rw [rdNums_bad h2 (by omega)]; rfl
                  · rw [rdNums]
                    split
                    · rfl
                    · cases hn : nfI (loF 8 r') with
                      | none => rfl
                      | some y => rw [hn] at h2; cases h2
              · obtain rfl : bad = true := by simpa using v2
                have fn := fin nums r' true e1 (fun _ h => by cases h) e4
                refine st_cellsX ?_
                simp -implicitDefEqProofs only [kz, kk0, kk1, kk2, kk3, ↓two_true, ↓two_false, mkv, aggAt, Nat.reduceLeDiff, Nat.reduceSub, Nat.reduceMul, implies_true, Nat.reduceEqDiff, reduceIte, Nat.reduceAdd, Nat.reduceBEq, reduceCtorEq, al66, ap29_29, ap64_64, bd66, bd71, bs29_1, bs64_1, fa63_0, fa63_1, fa63_2, fa66_0, fa66_2, fa66_3, fa71_0, fa71_1, ld3, ld4, ld22, ld64, ld66, ln22, st3, st64, st66, m4, m5, m6, m7, m8]
                have q22 := q.sel2 [2, 0, 1, 3] (by decide) rfl
                simp only [List.filterMap_cons, List.filterMap_nil, List.getElem?_cons_zero, List.getElem?_cons_succ] at q22
                have hrk := (q22.own 1 rfl).kok (by omega)
                refine st_insC (s := 6) rfl q22 ⟨_, _, rfl, ⟨_, rfl⟩, _, _, rfl, ⟨_, rfl⟩, _, _, rfl, ⟨_, rfl⟩, _, _, rfl, ⟨_, rfl⟩, _, _, rfl, ⟨_, rfl⟩, _, _, rfl, hrk.1, rfl⟩ ?_ ?_ ?_ (by omega) fun b H25 q25 => ?_
                · simp only [List.forall_mem_cons, List.not_mem_nil, false_implies, implies_true, and_true]
                  exact ⟨.inl ⟨_, rfl⟩, .inl ⟨_, rfl⟩, .inl ⟨_, rfl⟩, .inl ⟨_, rfl⟩, .inl ⟨_, rfl⟩, hrk.2.1⟩
                · simp [Dj, blkOf]
                · simp only [List.forall_mem_cons, List.not_mem_nil, false_implies, implies_true, and_true]
                  exact ⟨fun b hb => by simp [blkOf] at hb, fun b hb => by simp [blkOf] at hb, fun b hb => by simp [blkOf] at hb, fun b hb => by simp [blkOf] at hb, fun b hb => by simp [blkOf] at hb, fun b hb => hb⟩
                · simp -implicitDefEqProofs only [kz, kk0, kk1, kk2, kk3, ↓two_true, ↓two_false, mkv, aggAt, Nat.reduceLeDiff, Nat.reduceSub, Nat.reduceMul, implies_true, Nat.reduceEqDiff, reduceIte, Nat.reduceAdd, Nat.reduceBEq, reduceCtorEq, al66, ap29_29, ap64_64, bd66, bd71, bs29_1, bs64_1, fa63_0, fa63_1, fa63_2, fa66_0, fa66_2, fa66_3, fa71_0, fa71_1, ld3, ld4, ld22, ld64, ld66, ln22, st3, st64, st66, m4, m5, m6, m7, m8, wk]
                  simp only [List.map_cons, List.map_nil, cv_int, hrk.2.2] at q25
                  have q26 := q25.sel2 [0, 2] (by decide) rfl
                  simp only [List.filterMap_cons, List.filterMap_nil, List.getElem?_cons_zero, List.getElem?_cons_succ] at q26
                  refine ⟨k, by omega, _, _, m + 1, _, _, sl, _, r', rfl, rfl, by omega, q26, ro2, fun hb => ?_, fun _ => ⟨by omega, g4⟩, fun hb => .inr ?_⟩
                  · rw [g1]
                    exact rdAll_ok (fn.1 hb)
                  · rw [g1, rdAll_bad (fn.2 hb)]; rfl
            · have hj0 : j = 0 := by have h5 := of_decide_eq_false v1; omega
              subst hj0
              have fn := fin nums r' bad e1 (fun h1 h2 => by rw [e2 h1 h2, rdNums]; simp) e4
              refine st_cellsX ?_
              simp -implicitDefEqProofs only [kz, kk0, kk1, kk2, kk3, ↓two_true, ↓two_false, mkv, aggAt, Nat.reduceLeDiff, Nat.reduceSub, Nat.reduceMul, implies_true, Nat.reduceEqDiff, reduceIte, Nat.reduceAdd, Nat.reduceBEq, reduceCtorEq, al66, ap29_29, ap64_64, bd66, bd71, bs29_1, bs64_1, fa63_0, fa63_1, fa63_2, fa66_0, fa66_2, fa66_3, fa71_0, fa71_1, ld3, ld4, ld22, ld64, ld66, ln22, st3, st64, st66, m4, m5, m6, m7, m8]
              have q22 := q.sel2 [2, 0, 1, 3] (by decide) rfl
              simp only [List.filterMap_cons, List.filterMap_nil, List.getElem?_cons_zero, List.getElem?_cons_succ] at q22
              have hrk := (q22.own 1 rfl).kok (by omega)
              refine st_insC (s := 6) rfl q22 ⟨_, _, rfl, ⟨_, rfl⟩, _, _, rfl, ⟨_, rfl⟩, _, _, rfl, ⟨_, rfl⟩, _, _, rfl, ⟨_, rfl⟩, _, _, rfl, ⟨_, rfl⟩, _, _, rfl, hrk.1, rfl⟩ ?_ ?_ ?_ (by omega) fun b H25 q25 => ?_
              · simp only [List.forall_mem_cons, List.not_mem_nil, false_implies, implies_true, and_true]
                exact ⟨.inl ⟨_, rfl⟩, .inl ⟨_, rfl⟩, .inl ⟨_, rfl⟩, .inl ⟨_, rfl⟩, .inl ⟨_, rfl⟩, hrk.2.1⟩
              · simp [Dj, blkOf]
              · simp only [List.forall_mem_cons, List.not_mem_nil, false_implies, implies_true, and_true]
                exact ⟨fun b hb => by simp [blkOf] at hb, fun b hb => by simp [blkOf] at hb, fun b hb => by simp [blkOf] at hb, fun b hb => by simp [blkOf] at hb, fun b hb => by simp [blkOf] at hb, fun b hb => hb⟩
              · simp -implicitDefEqProofs only [kz, kk0, kk1, kk2, kk3, ↓two_true, ↓two_false, mkv, aggAt, Nat.reduceLeDiff, Nat.reduceSub, Nat.reduceMul, implies_true, Nat.reduceEqDiff, reduceIte, Nat.reduceAdd, Nat.reduceBEq, reduceCtorEq, al66, ap29_29, ap64_64, bd66, bd71, bs29_1, bs64_1, fa63_0, fa63_1, fa63_2, fa66_0, fa66_2, fa66_3, fa71_0, fa71_1, ld3, ld4, ld22, ld64, ld66, ln22, st3, st64, st66, m4, m5, m6, m7, m8, wk]
                simp only [List.map_cons, List.map_nil, cv_int, hrk.2.2] at q25
                have q26 := q25.sel2 [0, 2] (by decide) rfl
                simp only [List.filterMap_cons, List.filterMap_nil, List.getElem?_cons_zero, List.getElem?_cons_succ] at q26
                refine ⟨k, by omega, _, _, m + 1, _, _, sl, _, r', rfl, rfl, by omega, q26, ro2, fun hb => ?_, fun _ => ⟨by omega, g4⟩, fun hb => .inr ?_⟩
                · rw [g1]
                  exact rdAll_ok (fn.1 hb)
                · rw [g1, rdAll_bad (fn.2 hb)]; rfl
        · have hop : ¬ r.headD 0 = 1 := by simpa using u3
          try simp -implicitDefEqProofs only [kz, kk0, kk1, kk2, kk3, ↓two_true, ↓two_false, mkv, aggAt, Nat.reduceLeDiff, Nat.reduceSub, Nat.reduceMul, implies_true, Nat.reduceEqDiff, reduceIte, Nat.reduceAdd, Nat.reduceBEq, reduceCtorEq, al66, ap29_29, ap64_64, bd66, bd71, bs29_1, bs64_1, fa63_0, fa63_1, fa63_2, fa66_0, fa66_2, fa66_3, fa71_0, fa71_1, ld3, ld4, ld22, ld64, ld66, ln22, st3, st64, st66, h4, h5, h6, q13.rd 0 rfl]
          refine st_cellsX ?_
          simp -implicitDefEqProofs only [kz, kk0, kk1, kk2, kk3, ↓two_true, ↓two_false, mkv, aggAt, Nat.reduceLeDiff, Nat.reduceSub, Nat.reduceMul, implies_true, Nat.reduceEqDiff, reduceIte, Nat.reduceAdd, Nat.reduceBEq, reduceCtorEq, al66, ap29_29, ap64_64, bd66, bd71, bs29_1, bs64_1, fa63_0, fa63_1, fa63_2, fa66_0, fa66_2, fa66_3, fa71_0, fa71_1, ld3, ld4, ld22, ld64, ld66, ln22, st3, st64, st66, h4, h5, h6]
          have q14 := (LX.nil0 q13).sel2 [2, 0, 1, 3] (by decide) rfl
          simp only [List.filterMap_cons, List.filterMap_nil, List.getElem?_cons_zero, List.getElem?_cons_succ] at q14
          refine st_insC (s := 6) rfl q14 ⟨_, _, rfl, ⟨_, rfl⟩, _, _, rfl, ⟨_, rfl⟩, _, _, rfl, ⟨_, rfl⟩, _, _, rfl, ⟨_, rfl⟩, _, _, rfl, ⟨_, rfl⟩, _, _, rfl, (OwnRow.nil.kok (by simp)).1, rfl⟩ ?_ ?_ ?_ (by omega) fun b H15 q15 => ?_
          · simp only [List.forall_mem_cons, List.not_mem_nil, false_implies, implies_true, and_true]
            exact ⟨.inl ⟨_, rfl⟩, .inl ⟨_, rfl⟩, .inl ⟨_, rfl⟩, .inl ⟨_, rfl⟩, .inl ⟨_, rfl⟩, (OwnRow.nil.kok (by simp)).2.1⟩
          · simp [Dj, blkOf]
          · simp only [List.forall_mem_cons, List.not_mem_nil, false_implies, implies_true, and_true]
            exact ⟨fun b hb => by simp [blkOf] at hb, fun b hb => by simp [blkOf] at hb, fun b hb => by simp [blkOf] at hb, fun b hb => by simp [blkOf] at hb, fun b hb => by simp [blkOf] at hb, fun b hb => hb⟩
          · simp -implicitDefEqProofs only [kz, kk0, kk1, kk2, kk3, ↓two_true, ↓two_false, mkv, aggAt, Nat.reduceLeDiff, Nat.reduceSub, Nat.reduceMul, implies_true, Nat.reduceEqDiff, reduceIte, Nat.reduceAdd, Nat.reduceBEq, reduceCtorEq, al66, ap29_29, ap64_64, bd66, bd71, bs29_1, bs64_1, fa63_0, fa63_1, fa63_2, fa66_0, fa66_2, fa66_3, fa71_0, fa71_1, ld3, ld4, ld22, ld64, ld66, ln22, st3, st64, st66, h4, h5, h6, wk]
            simp only [List.map_cons, List.map_nil, cv_int, (OwnRow.nil (H := H13).kok (by simp)).2.2] at q15
            have q16 := q15.sel2 [0, 2] (by decide) rfl
            simp only [List.filterMap_cons, List.filterMap_nil, List.getElem?_cons_zero, List.getElem?_cons_succ] at q16
            refine ⟨k, by omega, _, _, m + 1, _, _, sl12, _, r.drop 5, rfl, rfl, by omega, q16, r12, fun hb => ?_, fun _ => ⟨by omega, g4⟩, fun hb => .inr ?_⟩
            · have h5' : ¬ r.length < 5 := by simpa using hb
              rw [g1]
              exact rdAll_ok (by unfold rdIns; rw [if_neg h5', if_neg hop])
            · have h5' : r.length < 5 := by simpa using hb
              rw [g1, rdAll_bad (by unfold rdIns; rw [if_pos h5'])]; rfl
      · obtain rfl : bad = true := by simpa using u2
        try simp -implicitDefEqProofs only [kz, kk0, kk1, kk2, kk3, ↓two_true, ↓two_false, mkv, aggAt, Nat.reduceLeDiff, Nat.reduceSub, Nat.reduceMul, implies_true, Nat.reduceEqDiff, reduceIte, Nat.reduceAdd, Nat.reduceBEq, reduceCtorEq, al66, ap29_29, ap64_64, bd66, bd71, bs29_1, bs64_1, fa63_0, fa63_1, fa63_2, fa66_0, fa66_2, fa66_3, fa71_0, fa71_1, ld3, ld4, ld22, ld64, ld66, ln22, st3, st64, st66, h4, h5, h6, q.rd 1 rfl]
        rw [rdR_bad hK (g2 rfl)]
        exact ⟨⟨_, 0, [], rfl, New.nil, rfl, by omega⟩, q.ext⟩
    · have hk0 : k = 0 := by have h5 := of_decide_eq_false u1; omega
      subst hk0
      cases bad with
      | true =>
        try simp -implicitDefEqProofs only [kz, kk0, kk1, kk2, kk3, ↓two_true, ↓two_false, mkv, aggAt, Nat.reduceLeDiff, Nat.reduceSub, Nat.reduceMul, implies_true, Nat.reduceEqDiff, reduceIte, Nat.reduceAdd, Nat.reduceBEq, reduceCtorEq, al66, ap29_29, ap64_64, bd66, bd71, bs29_1, bs64_1, fa63_0, fa63_1, fa63_2, fa66_0, fa66_2, fa66_3, fa71_0, fa71_1, ld3, ld4, ld22, ld64, ld66, ln22, st3, st64, st66, h4, h5, h6, q.rd 1 rfl]
        rw [rdR_bad hK (g2 rfl)]
        exact ⟨⟨_, 0, [], rfl, New.nil, rfl, by omega⟩, q.ext⟩
      | false =>
        obtain ⟨g3, g4⟩ := g0 rfl
        have g1 := g1 rfl
        simp only [rdAll, Option.map_some, List.append_nil] at g1
        have hR := rdR_go hK g4 g1
        obtain ⟨ra, rc, e, -⟩ := ro.row.op
        subst e
        obtain ⟨nw, hV⟩ := q.new 0 rfl
        have hmK : m = K := by omega
        subst hmK
        simp -implicitDefEqProofs only [kz, kk0, kk1, kk2, kk3, ↓two_true, ↓two_false, mkv, aggAt, Nat.reduceLeDiff, Nat.reduceSub, Nat.reduceMul, implies_true, Nat.reduceEqDiff, reduceIte, Nat.reduceAdd, Nat.reduceBEq, reduceCtorEq, al66, ap29_29, ap64_64, bd66, bd71, bs29_1, bs64_1, fa63_0, fa63_1, fa63_2, fa66_0, fa66_2, fa66_3, fa71_0, fa71_1, ld3, ld4, ld22, ld64, ld66, ln22, st3, st64, st66, h4, h5, h6, q.rd 1 rfl]
        refine two_intro (fun u2 => ?_) (fun u2 => ?_)
        · have hr : r ≠ [] := by rintro rfl; simp at u2
          rw [if_neg (fun h => hr h.1)] at hR
          try simp -implicitDefEqProofs only [kz, kk0, kk1, kk2, kk3, ↓two_true, ↓two_false, mkv, aggAt, Nat.reduceLeDiff, Nat.reduceSub, Nat.reduceMul, implies_true, Nat.reduceEqDiff, reduceIte, Nat.reduceAdd, Nat.reduceBEq, reduceCtorEq, al66, ap29_29, ap64_64, bd66, bd71, bs29_1, bs64_1, fa63_0, fa63_1, fa63_2, fa66_0, fa66_2, fa66_3, fa71_0, fa71_1, ld3, ld4, ld22, ld64, ld66, ln22, st3, st64, st66, h4, h5, h6, q.rd 1 rfl]
          rw [hR]
          exact ⟨⟨_, 0, [], rfl, New.nil, rfl, by omega⟩, q.ext⟩
        · have hr : r = [] := by
            cases r with
            | nil => rfl
            | cons x t => exfalso; simp at u2
          subst hr
          have hc := implCodeOk_ok nw.ot.frow (by omega)
          rw [hV] at hc
          refine hc.mono ?_
          rintro _ H30 ⟨rfl, hK30⟩
          have q30 := q.extd hK30
          simp only [true_and] at hR
          try simp -implicitDefEqProofs only [kz, kk0, kk1, kk2, kk3, ↓two_true, ↓two_false, mkv, aggAt, Nat.reduceLeDiff, Nat.reduceSub, Nat.reduceMul, implies_true, Nat.reduceEqDiff, reduceIte, Nat.reduceAdd, Nat.reduceBEq, reduceCtorEq, al66, ap29_29, ap64_64, bd66, bd71, bs29_1, bs64_1, fa63_0, fa63_1, fa63_2, fa66_0, fa66_2, fa66_3, fa71_0, fa71_1, ld3, ld4, ld22, ld64, ld66, ln22, st3, st64, st66, h4, h5, h6, q30.rd 1 rfl]
          refine two_intro (fun u3 => ?_) (fun u3 => ?_)
          · have hk : cdOk (insL V m) = false := by simpa using u3
            rw [hk, if_neg (by decide)] at hR
            try simp -implicitDefEqProofs only [kz, kk0, kk1, kk2, kk3, ↓two_true, ↓two_false, mkv, aggAt, Nat.reduceLeDiff, Nat.reduceSub, Nat.reduceMul, implies_true, Nat.reduceEqDiff, reduceIte, Nat.reduceAdd, Nat.reduceBEq, reduceCtorEq, al66, ap29_29, ap64_64, bd66, bd71, bs29_1, bs64_1, fa63_0, fa63_1, fa63_2, fa66_0, fa66_2, fa66_3, fa71_0, fa71_1, ld3, ld4, ld22, ld64, ld66, ln22, st3, st64, st66, h4, h5, h6, q30.rd 1 rfl]
            rw [hR]
            exact ⟨⟨_, 0, [], rfl, New.nil, rfl, by omega⟩, q30.ext⟩
          · have hk : cdOk (insL V m) = true := by simpa using u3
            rw [hk, if_pos rfl] at hR
            try simp -implicitDefEqProofs only [kz, kk0, kk1, kk2, kk3, ↓two_true, ↓two_false, mkv, aggAt, Nat.reduceLeDiff, Nat.reduceSub, Nat.reduceMul, implies_true, Nat.reduceEqDiff, reduceIte, Nat.reduceAdd, Nat.reduceBEq, reduceCtorEq, al66, ap29_29, ap64_64, bd66, bd71, bs29_1, bs64_1, fa63_0, fa63_1, fa63_2, fa66_0, fa66_2, fa66_3, fa71_0, fa71_1, ld3, ld4, ld22, ld64, ld66, ln22, st3, st64, st66, h4, h5, h6, q30.rd 1 rfl]
            rw [hR]
            obtain ⟨nw, hV⟩ := q30.new 0 rfl
            exact ⟨⟨_, m, xs, rfl, nw, hV, by omega⟩, q30.ext⟩

theorem ofInt_wrap {z : Int} : BitVec.ofInt 64 (IntKind.i64.wrap z) = BitVec.ofInt 64 z := by
  apply BitVec.eq_of_toNat_eq
  rw [BitVec.toNat_ofInt, BitVec.toNat_ofInt]
  congr 1
  unfold IntKind.wrap
  have e1 : IntKind.i64.signed = true := rfl
  have e2 : (2 : Int) ^ IntKind.i64.bits = 18446744073709551616 := by decide
  have e3 : (2 : Int) ^ (IntKind.i64.bits - 1) = 9223372036854775808 := by decide
  have e4 : ((2 ^ 64 : Nat) : Int) = 18446744073709551616 := by decide
  simp only [e1, e2, e3, e4, true_and]
  split <;> omega
theorem or_byte {y b : Int} (hy : 0 ≤ y ∧ y < 72057594037927936) (hb : 0 ≤ b ∧ b ≤ 255) : orI .i64 (IntKind.i64.wrap (y * 256)) b = IntKind.i64.wrap (b + 256 * y) := by
  obtain ⟨Y, rfl⟩ : ∃ Y : Nat, y = Y := ⟨y.toNat, by omega⟩
  obtain ⟨D, rfl⟩ : ∃ D : Nat, b = D := ⟨b.toNat, by omega⟩
  have h64 : (2 : Nat) ^ 64 = 18446744073709551616 := by decide
  have ho := or_add (a := Y) (b := D) (i := 8) (by show D < 256; omega) (by show 256 * Y + D < 2 ^ 64; omega)
  unfold orI
  show IntKind.i64.wrap ((BitVec.ofInt 64 (IntKind.i64.wrap ((Y : Int) * 256)) ||| BitVec.ofInt 64 (D : Int)).toNat : Int) = _
  rw [ofInt_wrap, show (Y : Int) * 256 = ((2 ^ 8 * Y : Nat) : Int) by omega, ho]
  congr 1
  omega
theorem rdNumsS_none {k : Nat} : ∀ {r : List Int}, r.length < 8 * k → rdNums nfS k r = none := by
  induction k with
  | zero => intro r h; omega
  | succ k ih =>
    intro r h
    rw [rdNums]
    split
    · rfl
    · have : rdNums nfS k (r.drop 8) = none := ih (by simp; omega)
      simp only [nfS, this]; rfl

set_option maxHeartbeats 4000000 in
theorem l11Read_ok {H : AH} {v : Value} {l : List Int} {p : Nat} (hv : ByRow H v l) (hy : byOk l) (hl : l.length ≤ 1048576) (hp : p ≤ l.length) :
    CallsA Try.prog 41 #[v, .int .i64 p] H fun r H' => ∃ op a s o w pv nums nx, r = .tuple #[.agg #[.int .i64 op, .int .i64 a, .int .i64 s, .int .i64 o, .int .i64 w, pv], .int .i64 nx] ∧ LD none H H' [.row pv nums] ∧ nums.length ≤ 65535 ∧
      match rdIns nfS (l.drop p) with
      | none => nx = -1
      | some z => z.1 = [.i op, .i a, .i s, .i o, .i w, .r nums] ∧ ∃ q : Nat, nx = q ∧ q ≤ l.length ∧ z.2 = l.drop q := by
  have q := (LX.nil (H := H))
  obtain ⟨va, vc, rfl, gv⟩ := hv.op
  have w0 : IntKind.i64.wrap ((l.length : Int) - (p : Int)) = (l.length : Int) - (p : Int) := IntWalk.i64_in _ (by omega)
  refine w41 ?_
  unfold k41
  simp -implicitDefEqProofs only [kz, kk0, kk1, kk2, kk3, ↓two_true, ↓two_false, mkv, aggAt, Nat.reduceLeDiff, Nat.reduceSub, Nat.reduceMul, implies_true, Nat.reduceEqDiff, reduceIte, Nat.reduceAdd, Nat.reduceBEq, reduceCtorEq, al66, ap64_64, bd63, bd66, bs64_1, cv5_3, fa66_0, fa66_3, ix22, ld3, ld5, ld64, ld66, ln22, st64, st66, w0]
  refine st_box q fun H1 q1 => ?_
  simp -implicitDefEqProofs only [kz, kk0, kk1, kk2, kk3, ↓two_true, ↓two_false, mkv, aggAt, Nat.reduceLeDiff, Nat.reduceSub, Nat.reduceMul, implies_true, Nat.reduceEqDiff, reduceIte, Nat.reduceAdd, Nat.reduceBEq, reduceCtorEq, al66, ap64_64, bd63, bd66, bs64_1, cv5_3, fa66_0, fa66_3, ix22, ld3, ld5, ld64, ld66, ln22, st64, st66, w0, q1.rd 0 rfl]
  refine two_intro (fun u1 => ?_) (fun u1 => ?_)
  · have h5 : (l.drop p).length < 5 := by have := of_decide_eq_true u1; simp; omega
    have hn : rdIns nfS (l.drop p) = none := by unfold rdIns; rw [if_pos h5]
    rw [hn]
    try simp -implicitDefEqProofs only [kz, kk0, kk1, kk2, kk3, ↓two_true, ↓two_false, mkv, aggAt, Nat.reduceLeDiff, Nat.reduceSub, Nat.reduceMul, implies_true, Nat.reduceEqDiff, reduceIte, Nat.reduceAdd, Nat.reduceBEq, reduceCtorEq, al66, ap64_64, bd63, bd66, bs64_1, cv5_3, fa66_0, fa66_3, ix22, ld3, ld5, ld64, ld66, ln22, st64, st66, w0, q1.rd 0 rfl]
    refine st_set q1 0 rfl fun H2 q2 => ?_
    simp only [List.set_cons_zero] at q2
    simp -implicitDefEqProofs only [kz, kk0, kk1, kk2, kk3, ↓two_true, ↓two_false, mkv, aggAt, Nat.reduceLeDiff, Nat.reduceSub, Nat.reduceMul, implies_true, Nat.reduceEqDiff, reduceIte, Nat.reduceAdd, Nat.reduceBEq, reduceCtorEq, al66, ap64_64, bd63, bd66, bs64_1, cv5_3, fa66_0, fa66_3, ix22, ld3, ld5, ld64, ld66, ln22, st64, st66, w0, q2.rd 0 rfl]
    have q3 := q2.nil0
    exact ⟨0, 0, 0, 0, 0, _, [], -1, rfl, q3.give [0] (by decide) [.row _ []] rfl, by simp, rfl⟩
  · have h5 : p + 5 ≤ l.length := by have := of_decide_eq_false u1; omega
    have h5' : ¬ (l.drop p).length < 5 := by simp; omega
    obtain ⟨b, o, cs, rfl, rfl, hrd, hle, hcell⟩ := gv (by omega)
    have hrd1 := rd_ext hrd q1.ext
    have wp : ∀ k : Nat, k ≤ 8 → IntKind.i64.wrap ((p : Int) + (k : Int)) = ((p + k : Nat) : Int) := fun k hk => by rw [IntWalk.i64_in _ (by omega)]; omega
    have wp1 : IntKind.i64.wrap ((p : Int) + 1) = ((p + 1 : Nat) : Int) := wp 1 (by omega)
    have wp2 : IntKind.i64.wrap ((p : Int) + 2) = ((p + 2 : Nat) : Int) := wp 2 (by omega)
    have wp3 : IntKind.i64.wrap ((p : Int) + 3) = ((p + 3 : Nat) : Int) := wp 3 (by omega)
    have wp4 : IntKind.i64.wrap ((p : Int) + 4) = ((p + 4 : Nat) : Int) := wp 4 (by omega)
    have wp5 : IntKind.i64.wrap ((p : Int) + 5) = ((p + 5 : Nat) : Int) := wp 5 (by omega)
    have hin : ∀ k : Nat, k < l.length → (0 : Int) ≤ (k : Int) ∧ (k : Int) < (l.length : Int) := fun k hk => by omega
    have wb : ∀ (k : Nat) (hk : k < l.length), IntKind.i64.wrap l[k] = l[k] := fun k hk => by have := hy _ (List.getElem_mem hk); exact IntWalk.i64_in _ (by omega)
    try simp -implicitDefEqProofs only [kz, kk0, kk1, kk2, kk3, ↓two_true, ↓two_false, mkv, aggAt, Nat.reduceLeDiff, Nat.reduceSub, Nat.reduceMul, implies_true, Nat.reduceEqDiff, reduceIte, Nat.reduceAdd, Nat.reduceBEq, reduceCtorEq, al66, ap64_64, bd63, bd66, bs64_1, cv5_3, fa66_0, fa66_3, ix22, ld3, ld5, ld64, ld66, ln22, st64, st66, w0, q1.rd 0 rfl, hrd1, wp1, wp2, wp3, wp4, wp5, Int.toNat_natCast, Nat.mul_one, if_pos (hin p (by omega)), if_pos (hin (p + 1) (by omega)), if_pos (hin (p + 2) (by omega)), if_pos (hin (p + 3) (by omega)), if_pos (hin (p + 4) (by omega)), hcell p (by omega), hcell (p + 1) (by omega), hcell (p + 2) (by omega), hcell (p + 3) (by omega), hcell (p + 4) (by omega), wb]
    refine st_box q1 fun H2 q2 => ?_
    have hrd2 := rd_ext hrd q2.ext
    simp -implicitDefEqProofs only [kz, kk0, kk1, kk2, kk3, ↓two_true, ↓two_false, mkv, aggAt, Nat.reduceLeDiff, Nat.reduceSub, Nat.reduceMul, implies_true, Nat.reduceEqDiff, reduceIte, Nat.reduceAdd, Nat.reduceBEq, reduceCtorEq, al66, ap64_64, bd63, bd66, bs64_1, cv5_3, fa66_0, fa66_3, ix22, ld3, ld5, ld64, ld66, ln22, st64, st66, w0, q2.rd 0 rfl, q2.rd 1 rfl]
    refine st_set q2 0 rfl fun H3 q3 => ?_
    have hrd3 := rd_ext hrd q3.ext
    simp only [List.set_cons_zero, List.set_cons_succ] at q3
    simp -implicitDefEqProofs only [kz, kk0, kk1, kk2, kk3, ↓two_true, ↓two_false, mkv, aggAt, Nat.reduceLeDiff, Nat.reduceSub, Nat.reduceMul, implies_true, Nat.reduceEqDiff, reduceIte, Nat.reduceAdd, Nat.reduceBEq, reduceCtorEq, al66, ap64_64, bd63, bd66, bs64_1, cv5_3, fa66_0, fa66_3, ix22, ld3, ld5, ld64, ld66, ln22, st64, st66, w0, q3.rd 0 rfl, q3.rd 1 rfl, wp5]
    have gg : ∀ (k : Nat) (hk : k < l.length), (l.drop k).headD 0 = l[k] := fun k hk => by rw [getD_dropH, List.getD_eq_getElem?_getD, List.getElem?_eq_getElem hk]; rfl
    have hI : rdIns nfS (l.drop p) = if l[p] = 1 then (if (l.drop p).length < 7 then none else (rdNums nfS (loF 2 (l.drop (p + 5))).toNat (l.drop (p + 7))).map fun z => ([.i l[p], .i l[p + 1], .i l[p + 2], .i l[p + 3], .i l[p + 4], .r z.1], z.2))
        else some ([.i l[p], .i l[p + 1], .i l[p + 2], .i l[p + 3], .i l[p + 4], .r []], l.drop (p + 5)) := by
      unfold rdIns
      rw [if_neg h5']
      simp only [List.tail_drop, List.drop_drop, gg p (by omega), gg (p + 1) (by omega), gg (p + 1 + 1) (by omega), gg (p + 1 + 1 + 1) (by omega), gg (p + 1 + 1 + 1 + 1) (by omega)]
    refine two_intro (fun u2 => ?_) (fun u2 => ?_)
    · have hop : ¬ l[p] = 1 := by simpa using u2
      rw [if_neg hop] at hI
      rw [hI]
      try simp -implicitDefEqProofs only [kz, kk0, kk1, kk2, kk3, ↓two_true, ↓two_false, mkv, aggAt, Nat.reduceLeDiff, Nat.reduceSub, Nat.reduceMul, implies_true, Nat.reduceEqDiff, reduceIte, Nat.reduceAdd, Nat.reduceBEq, reduceCtorEq, al66, ap64_64, bd63, bd66, bs64_1, cv5_3, fa66_0, fa66_3, ix22, ld3, ld5, ld64, ld66, ln22, st64, st66, w0, q3.rd 0 rfl, q3.rd 1 rfl, wp5]
      refine st_set q3 1 rfl fun H4 q4 => ?_
      simp only [List.set_cons_zero, List.set_cons_succ] at q4
      simp -implicitDefEqProofs only [kz, kk0, kk1, kk2, kk3, ↓two_true, ↓two_false, mkv, aggAt, Nat.reduceLeDiff, Nat.reduceSub, Nat.reduceMul, implies_true, Nat.reduceEqDiff, reduceIte, Nat.reduceAdd, Nat.reduceBEq, reduceCtorEq, al66, ap64_64, bd63, bd66, bs64_1, cv5_3, fa66_0, fa66_3, ix22, ld3, ld5, ld64, ld66, ln22, st64, st66, w0, q4.rd 0 rfl, q4.rd 1 rfl, wp5]
      have q5 := q4.nil0
      exact ⟨_, _, _, _, _, _, [], _, rfl, q5.give [0] (by decide) [.row _ []] rfl, by simp, rfl, p + 5, rfl, by omega, rfl⟩
    · have hop : l[p] = 1 := by simpa using u2
      rw [if_pos hop] at hI
      have w1 : IntKind.i64.wrap ((l.length : Int) - ((p + 5 : Nat) : Int)) = (l.length : Int) - ((p + 5 : Nat) : Int) := IntWalk.i64_in _ (by omega)
      simp -implicitDefEqProofs only [kz, kk0, kk1, kk2, kk3, ↓two_true, ↓two_false, mkv, aggAt, Nat.reduceLeDiff, Nat.reduceSub, Nat.reduceMul, implies_true, Nat.reduceEqDiff, reduceIte, Nat.reduceAdd, Nat.reduceBEq, reduceCtorEq, al66, ap64_64, bd63, bd66, bs64_1, cv5_3, fa66_0, fa66_3, ix22, ld3, ld5, ld64, ld66, ln22, st64, st66, w1, q3.rd 0 rfl, q3.rd 1 rfl]
      refine two_intro (fun u3 => ?_) (fun u3 => ?_)
      · have h7 : (l.drop p).length < 7 := by have := of_decide_eq_true u3; simp; omega
        rw [if_pos h7] at hI
        rw [hI]
        try simp -implicitDefEqProofs only [kz, kk0, kk1, kk2, kk3, ↓two_true, ↓two_false, mkv, aggAt, Nat.reduceLeDiff, Nat.reduceSub, Nat.reduceMul, implies_true, Nat.reduceEqDiff, reduceIte, Nat.reduceAdd, Nat.reduceBEq, reduceCtorEq, al66, ap64_64, bd63, bd66, bs64_1, cv5_3, fa66_0, fa66_3, ix22, ld3, ld5, ld64, ld66, ln22, st64, st66, w0, q3.rd 0 rfl, q3.rd 1 rfl]
        refine st_set q3 1 rfl fun H4 q4 => ?_
        simp only [List.set_cons_zero, List.set_cons_succ] at q4
        simp -implicitDefEqProofs only [kz, kk0, kk1, kk2, kk3, ↓two_true, ↓two_false, mkv, aggAt, Nat.reduceLeDiff, Nat.reduceSub, Nat.reduceMul, implies_true, Nat.reduceEqDiff, reduceIte, Nat.reduceAdd, Nat.reduceBEq, reduceCtorEq, al66, ap64_64, bd63, bd66, bs64_1, cv5_3, fa66_0, fa66_3, ix22, ld3, ld5, ld64, ld66, ln22, st64, st66, w0, q4.rd 0 rfl, q4.rd 1 rfl]
        have q5 := q4.nil0
        exact ⟨0, 0, 0, 0, 0, _, [], -1, rfl, q5.give [0] (by decide) [.row _ []] rfl, by simp, rfl⟩
      · have h7 : p + 7 ≤ l.length := by have := of_decide_eq_false u3; omega
        rw [if_neg (show ¬ (l.drop p).length < 7 by simp; omega)] at hI
        have wp6 : IntKind.i64.wrap (((p + 5 : Nat) : Int) + 1) = ((p + 6 : Nat) : Int) := by rw [IntWalk.i64_in _ (by omega)]; omega
        have wp7 : IntKind.i64.wrap (((p + 5 : Nat) : Int) + 2) = ((p + 7 : Nat) : Int) := by rw [IntWalk.i64_in _ (by omega)]; omega
        have c5 := hy _ (List.getElem_mem (show p + 5 < l.length by omega))
        have c6 := hy _ (List.getElem_mem (show p + 6 < l.length by omega))
        have hlo : loF 2 (l.drop (p + 5)) = l[p + 5] + 256 * l[p + 6] := by
          simp only [loF, List.tail_drop, gg (p + 5) (by omega), gg (p + 5 + 1) (by omega), Int.mul_zero, Int.add_zero]
        obtain ⟨n, hn⟩ : ∃ n : Nat, l[p + 5] + 256 * l[p + 6] = n := ⟨(l[p + 5] + 256 * l[p + 6]).toNat, by omega⟩
        have hn65 : n < 65536 := by omega
        rw [hlo, hn, Int.toNat_natCast] at hI
        have m1 : IntKind.i64.wrap (256 * l[p + 6]) = 256 * l[p + 6] := IntWalk.i64_in _ (by omega)
        have m2 : IntKind.i64.wrap (l[p + 5] + 256 * l[p + 6]) = (n : Int) := by rw [IntWalk.i64_in _ (by omega)]; exact hn
        have m3 : IntKind.i64.wrap ((8 : Int) * (n : Int)) = 8 * (n : Int) := IntWalk.i64_in _ (by omega)
        have w2 : IntKind.i64.wrap ((l.length : Int) - ((p + 7 : Nat) : Int)) = (l.length : Int) - ((p + 7 : Nat) : Int) := IntWalk.i64_in _ (by omega)
        try simp -implicitDefEqProofs only [kz, kk0, kk1, kk2, kk3, ↓two_true, ↓two_false, mkv, aggAt, Nat.reduceLeDiff, Nat.reduceSub, Nat.reduceMul, implies_true, Nat.reduceEqDiff, reduceIte, Nat.reduceAdd, Nat.reduceBEq, reduceCtorEq, al66, ap64_64, bd63, bd66, bs64_1, cv5_3, fa66_0, fa66_3, ix22, ld3, ld5, ld64, ld66, ln22, st64, st66, w0, q3.rd 0 rfl, q3.rd 1 rfl, hrd3, wp6, wp7, m1, m2, m3, w2, Int.toNat_natCast, Nat.mul_one, if_pos (hin (p + 5) (by omega)), if_pos (hin (p + 6) (by omega)), hcell (p + 5) (by omega), hcell (p + 6) (by omega), wb]
        refine ⟨hin (p + 5) (by omega), ?_⟩
        refine two_intro (fun u4 => ?_) (fun u4 => ?_)
        · have h8 : (l.drop (p + 7)).length < 8 * n := by have := of_decide_eq_true u4; simp; omega
          rw [rdNumsS_none h8] at hI
          rw [hI]
          try simp -implicitDefEqProofs only [kz, kk0, kk1, kk2, kk3, ↓two_true, ↓two_false, mkv, aggAt, Nat.reduceLeDiff, Nat.reduceSub, Nat.reduceMul, implies_true, Nat.reduceEqDiff, reduceIte, Nat.reduceAdd, Nat.reduceBEq, reduceCtorEq, al66, ap64_64, bd63, bd66, bs64_1, cv5_3, fa66_0, fa66_3, ix22, ld3, ld5, ld64, ld66, ln22, st64, st66, w0, q3.rd 0 rfl, q3.rd 1 rfl]
          refine st_set q3 1 rfl fun H4 q4 => ?_
          simp only [List.set_cons_zero, List.set_cons_succ] at q4
          simp -implicitDefEqProofs only [kz, kk0, kk1, kk2, kk3, ↓two_true, ↓two_false, mkv, aggAt, Nat.reduceLeDiff, Nat.reduceSub, Nat.reduceMul, implies_true, Nat.reduceEqDiff, reduceIte, Nat.reduceAdd, Nat.reduceBEq, reduceCtorEq, al66, ap64_64, bd63, bd66, bs64_1, cv5_3, fa66_0, fa66_3, ix22, ld3, ld5, ld64, ld66, ln22, st64, st66, w0, q4.rd 0 rfl, q4.rd 1 rfl]
          have q5 := q4.nil0
          exact ⟨0, 0, 0, 0, 0, _, [], -1, rfl, q5.give [0] (by decide) [.row _ []] rfl, by simp, rfl⟩
        · have h8 : p + 7 + 8 * n ≤ l.length := by have := of_decide_eq_false u4; omega
          try simp -implicitDefEqProofs only [kz, kk0, kk1, kk2, kk3, ↓two_true, ↓two_false, mkv, aggAt, Nat.reduceLeDiff, Nat.reduceSub, Nat.reduceMul, implies_true, Nat.reduceEqDiff, reduceIte, Nat.reduceAdd, Nat.reduceBEq, reduceCtorEq, al66, ap64_64, bd63, bd66, bs64_1, cv5_3, fa66_0, fa66_3, ix22, ld3, ld5, ld64, ld66, ln22, st64, st66, w0, q3.rd 0 rfl, q3.rd 1 rfl]
          have q4 := q3.nil0
          rw [hI]
          clear hI hlo q q1 q2 q3
          refine rW_loopQ (σ := Nat × Option Addr × Nat × List Int) q4 [0, 4, 6, 7] (fun x tm => tm 1 = .int .i64 ((p + 7 + 8 * x.1 : Nat) : Int) ∧ tm 8 = .int .i64 x.1 ∧ x.1 ≤ n ∧ x.2.2.2.length = x.1 ∧ rdNums nfS n (l.drop (p + 7)) = (rdNums nfS (n - x.1) (l.drop (p + 7 + 8 * x.1))).map fun z => (x.2.2.2 ++ z.1, z.2))
            (fun x L => [.own (.row (.slice x.2.1 x.2.2.2.length x.2.2.1) x.2.2.2), .own (.box H1.length [.int .i64 l[p], .int .i64 l[p + 1], .int .i64 l[p + 2], .int .i64 l[p + 3], .int .i64 l[p + 4], .slice x.2.1 x.2.2.2.length x.2.2.1]), .own (.box H.length [.int .i64 0, .int .i64 0, .int .i64 0, .int .i64 0, .int .i64 0, .slice none 0 0])])
            (fun x => n - x.1) (0, none, 0, []) ⟨rfl, rfl, Nat.zero_le _, rfl, ?_⟩ rfl ?_
          · simp only [List.nil_append, Nat.sub_zero, Nat.mul_zero, Nat.add_zero]
            cases rdNums nfS n (l.drop (p + 7)) <;> rfl
          · rintro ⟨k, a', c', nums⟩ tm1 H5 ⟨lv1, lv2, lv3, lv4, -⟩ ⟨k1, k8, hk, hnl, hnum⟩ q5
            simp -implicitDefEqProofs only [kz, kk0, kk1, kk2, kk3, ↓two_true, ↓two_false, mkv, aggAt, Nat.reduceLeDiff, Nat.reduceSub, Nat.reduceMul, implies_true, Nat.reduceEqDiff, reduceIte, Nat.reduceAdd, Nat.reduceBEq, reduceCtorEq, al66, ap64_64, bd63, bd66, bs64_1, cv5_3, fa66_0, fa66_3, ix22, ld3, ld5, ld64, ld66, ln22, st64, st66, m1, m2] at lv1 lv2 lv3 lv4
            simp only at k1 k8 hk hnl hnum
            simp -implicitDefEqProofs only [kz, kk0, kk1, kk2, kk3, ↓two_true, ↓two_false, mkv, aggAt, Nat.reduceLeDiff, Nat.reduceSub, Nat.reduceMul, implies_true, Nat.reduceEqDiff, reduceIte, Nat.reduceAdd, Nat.reduceBEq, reduceCtorEq, al66, ap64_64, bd63, bd66, bs64_1, cv5_3, fa66_0, fa66_3, ix22, ld3, ld5, ld64, ld66, ln22, st64, st66, lv1, lv2, lv3, lv4, k1, k8]
            refine two_intro (fun v1 => ?_) (fun v1 => ?_)
            · have hk2 : k < n := by have h5 := of_decide_eq_true v1; omega
              try simp -implicitDefEqProofs only [kz, kk0, kk1, kk2, kk3, ↓two_true, ↓two_false, mkv, aggAt, Nat.reduceLeDiff, Nat.reduceSub, Nat.reduceMul, implies_true, Nat.reduceEqDiff, reduceIte, Nat.reduceAdd, Nat.reduceBEq, reduceCtorEq, al66, ap64_64, bd63, bd66, bs64_1, cv5_3, fa66_0, fa66_3, ix22, ld3, ld5, ld64, ld66, ln22, st64, st66, lv1, lv2, lv3, lv4, k1, k8]
              generalize hat : p + 7 + 8 * k = at' at *
              have hat2 : at' + 8 ≤ l.length := by omega
              refine rW_loopQ (σ := Nat) q5 [0, 1, 4, 6, 7, 8] (fun i tm => tm 9 = .int .i64 (IntKind.i64.wrap (loF i (l.drop (at' + 8 - i)))) ∧ tm 10 = .int .i64 (7 - (i : Int)) ∧ i ≤ 8) (fun i L => L) (fun i => 8 - i) 0 ⟨rfl, rfl, Nat.zero_le _⟩ rfl ?_
              rintro i tm2 H6 ⟨mv1, mv2, mv3, mv4, mv5, mv6, -⟩ ⟨n9, n10, hi⟩ q6
              simp -implicitDefEqProofs only [kz, kk0, kk1, kk2, kk3, ↓two_true, ↓two_false, mkv, aggAt, Nat.reduceLeDiff, Nat.reduceSub, Nat.reduceMul, implies_true, Nat.reduceEqDiff, reduceIte, Nat.reduceAdd, Nat.reduceBEq, reduceCtorEq, al66, ap64_64, bd63, bd66, bs64_1, cv5_3, fa66_0, fa66_3, ix22, ld3, ld5, ld64, ld66, ln22, st64, st66, lv1, lv2, lv3, lv4, k1, k8] at mv1 mv2 mv3 mv4 mv5 mv6
              simp -implicitDefEqProofs only [kz, kk0, kk1, kk2, kk3, ↓two_true, ↓two_false, mkv, aggAt, Nat.reduceLeDiff, Nat.reduceSub, Nat.reduceMul, implies_true, Nat.reduceEqDiff, reduceIte, Nat.reduceAdd, Nat.reduceBEq, reduceCtorEq, al66, ap64_64, bd63, bd66, bs64_1, cv5_3, fa66_0, fa66_3, ix22, ld3, ld5, ld64, ld66, ln22, st64, st66, mv1, mv2, mv3, mv4, mv5, mv6, n9, n10]
              refine two_intro (fun v2 => ?_) (fun v2 => ?_)
              · have hi2 : i < 8 := by have h5 := of_decide_eq_true v2; omega
                have wj : IntKind.i64.wrap (7 - (i : Int) - 1) = 7 - ((i + 1 : Nat) : Int) := by rw [IntWalk.i64_in _ (by omega)]; omega
                have wix : IntKind.i64.wrap ((at' : Int) + (7 - (i : Int))) = ((at' + 8 - (i + 1) : Nat) : Int) := by rw [IntWalk.i64_in _ (by omega)]; omega
                have hix : at' + 8 - (i + 1) < l.length := by omega
                have hrd6 := rd_ext hrd q6.ext
                obtain ⟨y1, y2⟩ := loF_nn (k := i) (hy.drop (at' + 8 - i))
                have y3 : loF i (l.drop (at' + 8 - i)) < 72057594037927936 := by
                  have : i = 0 ∨ i = 1 ∨ i = 2 ∨ i = 3 ∨ i = 4 ∨ i = 5 ∨ i = 6 ∨ i = 7 := by omega
                  refine Int.lt_of_lt_of_le y2 ?_
                  rcases this with rfl | rfl | rfl | rfl | rfl | rfl | rfl | rfl <;> decide
                have y4 : IntKind.i64.wrap (loF i (l.drop (at' + 8 - i))) = loF i (l.drop (at' + 8 - i)) := IntWalk.i64_in _ (by omega)
                have yb := hy _ (List.getElem_mem hix)
                have hsh := fun (t : TypeId) (x y : Operand) => bin_shl (P := Try.prog) (t := t) (x := x) (y := y) (k := .i64) (k' := .u64) (a := loF i (l.drop (at' + 8 - i))) (b := (8 : Int)) (by omega)
                simp only [show (2 : Int) ^ (min ((8 : Int).toNat) IntKind.i64.bits) = 256 by decide] at hsh
                have hor := or_byte ⟨y1, y3⟩ yb
                have hst : loF (i + 1) (l.drop (at' + 8 - (i + 1))) = l[at' + 8 - (i + 1)] + 256 * loF i (l.drop (at' + 8 - i)) := by
                  rw [loF, List.tail_drop, gg _ hix, show at' + 8 - (i + 1) + 1 = at' + 8 - i by omega]
                rw [← hst] at hor
                simp -implicitDefEqProofs only [kz, kk0, kk1, kk2, kk3, ↓two_true, ↓two_false, mkv, aggAt, Nat.reduceLeDiff, Nat.reduceSub, Nat.reduceMul, implies_true, Nat.reduceEqDiff, reduceIte, Nat.reduceAdd, Nat.reduceBEq, reduceCtorEq, al66, ap64_64, bd63, bd66, bs64_1, cv5_3, fa66_0, fa66_3, ix22, ld3, ld5, ld64, ld66, ln22, st64, st66, mv1, mv2, mv3, mv4, mv5, mv6, n9, n10, y4, hsh, wix, hrd6, Int.toNat_natCast, Nat.mul_one, hcell _ hix, wb _ hix, bin_or, hor, wj]
                refine ⟨hin _ hix, ?_⟩
                exact ⟨i + 1, by omega, ⟨rfl, rfl, rfl, rfl, rfl, rfl, trivial⟩, ⟨rfl, rfl, hi2⟩, q6⟩
              · have hi2 : i = 8 := by have h5 := of_decide_eq_false v2; omega
                subst hi2
                rw [Nat.add_sub_cancel] at n9
                have wk : IntKind.i64.wrap ((k : Int) + 1) = ((k + 1 : Nat) : Int) := IntWalk.i64_in ((k : Int) + 1) (by omega)
                have wat : IntKind.i64.wrap ((at' : Int) + 8) = ((at' + 8 : Nat) : Int) := IntWalk.i64_in ((at' : Int) + 8) (by omega)
                simp -implicitDefEqProofs only [kz, kk0, kk1, kk2, kk3, ↓two_true, ↓two_false, mkv, aggAt, Nat.reduceLeDiff, Nat.reduceSub, Nat.reduceMul, implies_true, Nat.reduceEqDiff, reduceIte, Nat.reduceAdd, Nat.reduceBEq, reduceCtorEq, al66, ap64_64, bd63, bd66, bs64_1, cv5_3, fa66_0, fa66_3, ix22, ld3, ld5, ld64, ld66, ln22, st64, st66, mv1, mv2, mv3, mv4, mv5, mv6, n9, n10, q6.rd 1 rfl]
                refine st_lit [IntKind.i64.wrap (IntKind.i64.wrap (loF 8 (l.drop at')) - 1000000000000)] rfl rfl q6 fun H7 q7 => ?_
                simp -implicitDefEqProofs only [kz, kk0, kk1, kk2, kk3, ↓two_true, ↓two_false, mkv, aggAt, Nat.reduceLeDiff, Nat.reduceSub, Nat.reduceMul, implies_true, Nat.reduceEqDiff, reduceIte, Nat.reduceAdd, Nat.reduceBEq, reduceCtorEq, al66, ap64_64, bd63, bd66, bs64_1, cv5_3, fa66_0, fa66_3, ix22, ld3, ld5, ld64, ld66, ln22, st64, st66, mv1, mv2, mv3, mv4, mv5, mv6, n9, n10, q7.rd 2 rfl]
                refine st_app q7 1 rfl (q7.int 0 rfl) (by simp; omega) fun a2 c2 H8 q8 => ?_
                simp only [List.set_cons_zero, List.set_cons_succ, List.length_cons, List.length_nil, Nat.zero_add] at q8 ⊢
                simp -implicitDefEqProofs only [kz, kk0, kk1, kk2, kk3, ↓two_true, ↓two_false, mkv, aggAt, Nat.reduceLeDiff, Nat.reduceSub, Nat.reduceMul, implies_true, Nat.reduceEqDiff, reduceIte, Nat.reduceAdd, Nat.reduceBEq, reduceCtorEq, al66, ap64_64, bd63, bd66, bs64_1, cv5_3, fa66_0, fa66_3, ix22, ld3, ld5, ld64, ld66, ln22, st64, st66, mv1, mv2, mv3, mv4, mv5, mv6, n9, n10, q8.rd 2 rfl]
                refine st_set q8 2 rfl fun H9 q9 => ?_
                simp only [List.set_cons_zero, List.set_cons_succ] at q9
                simp -implicitDefEqProofs only [kz, kk0, kk1, kk2, kk3, ↓two_true, ↓two_false, mkv, aggAt, Nat.reduceLeDiff, Nat.reduceSub, Nat.reduceMul, implies_true, Nat.reduceEqDiff, reduceIte, Nat.reduceAdd, Nat.reduceBEq, reduceCtorEq, al66, ap64_64, bd63, bd66, bs64_1, cv5_3, fa66_0, fa66_3, ix22, ld3, ld5, ld64, ld66, ln22, st64, st66, mv1, mv2, mv3, mv4, mv5, mv6, n9, n10, wk, wat]
                have q10 := q9.sel2 [1, 2, 3] (by decide) rfl
                simp only [List.filterMap_cons, List.filterMap_nil, List.getElem?_cons_zero, List.getElem?_cons_succ] at q10
                have hlen1 : (nums ++ [IntKind.i64.wrap (IntKind.i64.wrap (loF 8 (l.drop at')) - 1000000000000)]).length = nums.length + 1 := by simp
                refine ⟨(k + 1, a2, c2, nums ++ [IntKind.i64.wrap (IntKind.i64.wrap (loF 8 (l.drop at')) - 1000000000000)]), by simp only; omega, ⟨?_, ?_, ?_, ?_, trivial⟩, ⟨?_, rfl, hk2, by simp only; rw [hlen1]; omega, ?_⟩, by simp only; rw [hlen1]; exact q10⟩
                · first | rfl | exact mv1.trans lv1.symm
                · first | rfl | exact mv3.trans lv2.symm
                · first | rfl | exact mv4.trans lv3.symm
                · first | rfl | exact mv5.trans lv4.symm
                · show Value.int .i64 ((at' + 8 : Nat) : Int) = .int .i64 ((p + 7 + 8 * (k + 1) : Nat) : Int)
                  rw [← hat]; rfl
                · simp only
                  obtain ⟨d, hd⟩ : ∃ d, n - k = d + 1 := ⟨n - k - 1, by omega⟩
                  rw [hnum, hd, rdNums, if_neg (by simp; omega), show n - (k + 1) = d by omega, List.drop_drop, show p + 7 + 8 * (k + 1) = at' + 8 by omega]
                  simp only [nfS]
                  cases rdNums nfS d (l.drop (at' + 8)) <;> simp
            · have hk2 : k = n := by have h5 := of_decide_eq_false v1; omega
              subst hk2
              rw [hnum, Nat.sub_self, rdNums]
              simp only [Option.map_some, List.append_nil]
              try simp -implicitDefEqProofs only [kz, kk0, kk1, kk2, kk3, ↓two_true, ↓two_false, mkv, aggAt, Nat.reduceLeDiff, Nat.reduceSub, Nat.reduceMul, implies_true, Nat.reduceEqDiff, reduceIte, Nat.reduceAdd, Nat.reduceBEq, reduceCtorEq, al66, ap64_64, bd63, bd66, bs64_1, cv5_3, fa66_0, fa66_3, ix22, ld3, ld5, ld64, ld66, ln22, st64, st66, lv1, lv2, lv3, lv4, k1, k8, q5.rd 1 rfl, q5.rd 2 rfl]
              refine st_set q5 2 rfl fun H10 q11 => ?_
              simp only [List.set_cons_zero, List.set_cons_succ] at q11
              simp -implicitDefEqProofs only [kz, kk0, kk1, kk2, kk3, ↓two_true, ↓two_false, mkv, aggAt, Nat.reduceLeDiff, Nat.reduceSub, Nat.reduceMul, implies_true, Nat.reduceEqDiff, reduceIte, Nat.reduceAdd, Nat.reduceBEq, reduceCtorEq, al66, ap64_64, bd63, bd66, bs64_1, cv5_3, fa66_0, fa66_3, ix22, ld3, ld5, ld64, ld66, ln22, st64, st66, lv1, lv2, lv3, lv4, k1, k8, q11.rd 2 rfl]
              exact ⟨_, _, _, _, _, _, nums, _, rfl, q11.give [0] (by decide) [.row _ nums] rfl, by omega, rfl, p + 7 + 8 * k, rfl, by omega, rfl⟩

theorem u8_mod {x : Int} : IntKind.u8.wrap x = x % 256 := by
  unfold IntKind.wrap
  have e1 : IntKind.u8.signed = false := rfl
  have e2 : (2 : Int) ^ IntKind.u8.bits = 256 := by decide
  rw [e1, e2, if_neg (by simp)]
theorem u8_inB {x : Int} (h : 0 ≤ x ∧ x ≤ 255) : IntKind.u8.wrap x = x := by rw [u8_mod]; omega
theorem loF_bytes : ∀ {k : Nat} {r : List Int}, byOk r → k ≤ r.length → ((List.range k).map fun j : Nat => IntKind.u8.wrap ((loF k r).fdiv (2 ^ (8 * j)))) = r.take k
  | 0, r, _, _ => by simp
  | k + 1, [], _, h => by simp at h
  | k + 1, x :: t, hb, h => by
    have ih := loF_bytes (k := k) (r := t) hb.tail (by simp at h; omega)
    have hx := hb x (List.mem_cons_self ..)
    rw [List.range_succ_eq_map, List.map_cons, List.map_map, List.take_succ_cons, ← ih]
    congr 1
    · simp only [loF, List.headD_cons, List.tail_cons, Nat.mul_zero, Int.pow_zero, Int.fdiv_one]
      rw [u8_mod]; omega
    · refine List.map_congr_left fun j _ => ?_
      simp only [Function.comp_apply, loF, List.headD_cons, List.tail_cons]
      congr 1
      rw [Int.fdiv_eq_ediv_of_nonneg _ (Int.le_of_lt (Int.pow_pos (by decide))), Int.fdiv_eq_ediv_of_nonneg _ (Int.le_of_lt (Int.pow_pos (by decide)))]
      rw [show 8 * (j + 1) = 8 + 8 * j by omega, Int.pow_add, show (2 : Int) ^ 8 = 256 by decide, ← Int.ediv_ediv_of_nonneg (by decide)]
      congr 1
      omega
theorem le8_loF {r : List Int} (hb : byOk r) (h : ¬ r.length < 8) : le8 (loF 8 r) = r.take 8 := loF_bytes hb (by omega)
theorem nfI_nfS {y z : Int} (hy : 0 ≤ y) (h : nfI y = some z) : nfS y = some z ∧ y = z + 1000000000000 := by
  unfold nfI at h
  split at h
  · cases h
  · simp only [Option.some.injEq] at h
    subst h
    refine ⟨?_, by omega⟩
    unfold nfS
    rw [IntWalk.i64_in y (by omega), IntWalk.i64_in (y - 1000000000000) (by omega)]
theorem i64_mod {x : Int} : ∃ k : Int, IntKind.i64.wrap x = x - 18446744073709551616 * k ∧ -9223372036854775808 ≤ IntKind.i64.wrap x ∧ IntKind.i64.wrap x < 9223372036854775808 := by
  unfold IntKind.wrap
  have e1 : IntKind.i64.signed = true := rfl
  have e2 : (2 : Int) ^ IntKind.i64.bits = 18446744073709551616 := by decide
  have e3 : (2 : Int) ^ (IntKind.i64.bits - 1) = 9223372036854775808 := by decide
  simp only [e1, e2, e3, true_and]
  split
  · rename_i h
    simp only [Bool.true_and, decide_eq_true_eq] at h
    exact ⟨x / 18446744073709551616 + 1, by omega, by omega, by omega⟩
  · rename_i h
    simp only [Bool.true_and, decide_eq_true_eq] at h
    exact ⟨x / 18446744073709551616, by omega, by omega, by omega⟩
theorem nfS_off {y z : Int} (hy : 0 ≤ y ∧ y < 18446744073709551616) (h : nfI y = none) (hz : nfS y = some z) : numOk z = false := by
  have h1 : y > 2000000000000 := by
    unfold nfI at h
    split at h
    · assumption
    · cases h
  unfold nfS at hz
  simp only [Option.some.injEq] at hz
  obtain ⟨k, e1, e2, e3⟩ := i64_mod (x := y)
  obtain ⟨k2, e4, e5, e6⟩ := i64_mod (x := IntKind.i64.wrap y - 1000000000000)
  rw [hz] at e4 e5 e6
  unfold numOk inB
  have : ¬ (-1000000000000 ≤ z ∧ z ≤ 1000000000000) := by omega
  simpa using this
theorem rdNums_pk {k : Nat} : ∀ {r r' : List Int} {xs : List Int}, byOk r → rdNums nfI k r = some (xs, r') → r = (xs.flatMap fun n => le8 (n + 1000000000000)) ++ r' ∧ xs.length = k ∧ rdNums nfS k r = some (xs, r') := by
  induction k with
  | zero =>
    intro r r' xs _ h
    simp only [rdNums, Option.some.injEq, Prod.mk.injEq] at h
    obtain ⟨rfl, rfl⟩ := h
    exact ⟨rfl, rfl, rfl⟩
  | succ k ih =>
    intro r r' xs hb h
    rw [rdNums] at h
    rw [rdNums]
    split at h
    · cases h
    · rename_i h8
      rw [if_neg h8]
      cases hn : nfI (loF 8 r) with
      | none => rw [hn] at h; cases h
      | some y =>
        rw [hn] at h
        obtain ⟨hs, hy⟩ := nfI_nfS (loF_nn (k := 8) hb).1 hn
        rw [hs]
        simp only at h ⊢
        cases hr : rdNums nfI k (r.drop 8) with
        | none => rw [hr] at h; cases h
        | some z =>
          obtain ⟨zs, z'⟩ := z
          rw [hr] at h
          simp only [Option.map_some, Option.some.injEq, Prod.mk.injEq] at h
          obtain ⟨rfl, rfl⟩ := h
          obtain ⟨i1, i2, i3⟩ := ih (hb.drop 8) hr
          refine ⟨?_, by rw [List.length_cons, i2], by rw [i3]; rfl⟩
          rw [List.flatMap_cons, ← hy, le8_loF hb h8, List.append_assoc, ← i1, List.take_append_drop]
theorem rdNums_off {k : Nat} : ∀ {r r' : List Int} {xs : List Int}, byOk r → rdNums nfI k r = none → rdNums nfS k r = some (xs, r') → xs.all numOk = false := by
  induction k with
  | zero => intro r r' xs _ h; cases h
  | succ k ih =>
    intro r r' xs hb h h2
    rw [rdNums] at h h2
    split at h
    · rename_i h8
      rw [if_pos h8] at h2; cases h2
    · rename_i h8
      rw [if_neg h8] at h2
      cases hs : nfS (loF 8 r) with
      | none => rw [hs] at h2; cases h2
      | some z =>
        rw [hs] at h2
        simp only at h2
        cases hr : rdNums nfS k (r.drop 8) with
        | none => rw [hr] at h2; cases h2
        | some w =>
          obtain ⟨ws, w'⟩ := w
          rw [hr] at h2
          simp only [Option.map_some, Option.some.injEq, Prod.mk.injEq] at h2
          obtain ⟨rfl, rfl⟩ := h2
          rw [List.all_cons]
          cases hn : nfI (loF 8 r) with
          | none =>
            have := loF_nn (k := 8) hb
            rw [nfS_off ⟨this.1, by have e := this.2; have e2 : (256 : Int) ^ 8 = 18446744073709551616 := by decide
                                    omega⟩ hn hs]
            rfl
          | some y =>
            rw [hn] at h
            simp only at h
            have h3 : rdNums nfI k (r.drop 8) = none := by
              cases hq : rdNums nfI k (r.drop 8) with
              | none => rfl
              | some q => rw [hq] at h; cases h
            rw [ih (hb.drop 8) h3 hr, Bool.and_false]
theorem rdNums_len {f : Int → Option Int} {k : Nat} : ∀ {r r' : List Int} {xs : List Int}, rdNums f k r = some (xs, r') → xs.length = k ∧ ∃ m, r' = r.drop m := by
  induction k with
  | zero =>
    intro r r' xs h
    simp only [rdNums, Option.some.injEq, Prod.mk.injEq] at h
    obtain ⟨rfl, rfl⟩ := h
    exact ⟨rfl, 0, rfl⟩
  | succ k ih =>
    intro r r' xs h
    rw [rdNums] at h
    split at h
    · cases h
    · cases hn : f (loF 8 r) with
      | none => rw [hn] at h; cases h
      | some y =>
        rw [hn] at h
        simp only at h
        cases hr : rdNums f k (r.drop 8) with
        | none => rw [hr] at h; cases h
        | some z =>
          obtain ⟨zs, z'⟩ := z
          rw [hr] at h
          simp only [Option.map_some, Option.some.injEq, Prod.mk.injEq] at h
          obtain ⟨rfl, rfl⟩ := h
          obtain ⟨i1, m, i2⟩ := ih hr
          exact ⟨by rw [List.length_cons, i1], 8 + m, by rw [i2, List.drop_drop]⟩
theorem rdIns_len {f : Int → Option Int} {r r' : List Int} {cs : List CV} (hb : byOk r) (h : rdIns f r = some (cs, r')) : cs.length = 6 ∧ (∃ m, r' = r.drop m) ∧ cntF cs ≤ 65545 := by
  unfold rdIns at h
  split at h
  · cases h
  · split at h
    · split at h
      · cases h
      · have h2 := loF_nn (k := 2) (hb.drop 5)
        have e2 : (256 : Int) ^ 2 = 65536 := by decide
        cases hr : rdNums f (loF 2 (r.drop 5)).toNat (r.drop 7) with
        | none => rw [hr] at h; cases h
        | some z =>
          obtain ⟨zs, z'⟩ := z
          rw [hr] at h
          simp only [Option.map_some, Option.some.injEq, Prod.mk.injEq] at h
          obtain ⟨rfl, rfl⟩ := h
          obtain ⟨l1, m, l2⟩ := rdNums_len hr
          refine ⟨rfl, ⟨7 + m, by rw [l2, List.drop_drop]⟩, ?_⟩
          simp only [cntF, cnt1, List.map_cons, List.map_nil, List.sum_cons, List.sum_nil]
          omega
    · simp only [Option.some.injEq, Prod.mk.injEq] at h
      obtain ⟨rfl, rfl⟩ := h
      refine ⟨rfl, ⟨5, rfl⟩, ?_⟩
      simp [cntF, cnt1]
theorem rdIns_pk {r r' : List Int} {cs : List CV} (hb : byOk r) (h : rdIns nfI r = some (cs, r')) : r = pkI (insOf cs) ++ r' ∧ rdIns nfS r = some (cs, r') := by
  unfold rdIns at h ⊢
  split at h
  · cases h
  · rename_i h5
    rw [if_neg h5]
    match r, h5 with
    | [], h5 => exact absurd (by simp) h5
    | [_], h5 => exact absurd (by simp) h5
    | [_, _], h5 => exact absurd (by simp) h5
    | [_, _, _], h5 => exact absurd (by simp) h5
    | [_, _, _, _], h5 => exact absurd (by simp) h5
    | a :: b :: c :: d :: e :: t, _ =>
      have ba := hb a (by simp)
      have bb := hb b (by simp)
      have bc := hb c (by simp)
      have bd := hb d (by simp)
      have be := hb e (by simp)
      simp only [List.headD_cons, List.tail_cons, List.drop_succ_cons, List.drop_zero] at h ⊢
      have e5 : [a, b, c, d, e].map IntKind.u8.wrap = [a, b, c, d, e] := by simp [u8_inB ba, u8_inB bb, u8_inB bc, u8_inB bd, u8_inB be]
      split at h
      · rename_i h1
        rw [if_pos h1]
        split at h
        · cases h
        · rename_i h7
          rw [if_neg h7]
          cases t with
          | nil => simp at h7
          | cons x t =>
            cases t with
            | nil => simp at h7
            | cons y t =>
              have bx := hb x (by simp)
              have by' := hb y (by simp)
              simp only [loF, List.headD_cons, List.tail_cons, List.drop_succ_cons, List.drop_zero] at h ⊢
              cases hr : rdNums nfI (x + 256 * (y + 256 * 0)).toNat t with
              | none => rw [hr] at h; cases h
              | some z =>
                obtain ⟨zs, z'⟩ := z
                rw [hr] at h
                simp only [Option.map_some, Option.some.injEq, Prod.mk.injEq] at h
                obtain ⟨rfl, rfl⟩ := h
                obtain ⟨i1, i2, i3⟩ := rdNums_pk (fun w hw => hb w (by simp [hw])) hr
                refine ⟨?_, by rw [i3]; rfl⟩
                have ep : pkI (insOf [.i a, .i b, .i c, .i d, .i e, .r zs]) = ([a, b, c, d, e].map IntKind.u8.wrap) ++ if a = 1 then [IntKind.u8.wrap (zs.length : Int), IntKind.u8.wrap ((zs.length : Int) / 256)] ++ zs.flatMap (fun n => le8 (n + 1000000000000)) else [] := rfl
                rw [ep, if_pos h1, e5]
                have l1 : IntKind.u8.wrap (zs.length : Int) = x := by rw [i2, u8_mod]; omega
                have l2 : IntKind.u8.wrap ((zs.length : Int) / 256) = y := by rw [i2, u8_mod]; omega
                rw [l1, l2]
                simp only [List.cons_append, List.nil_append, List.cons.injEq, true_and]
                exact i1
      · rename_i h1
        rw [if_neg h1]
        simp only [Option.some.injEq, Prod.mk.injEq] at h
        obtain ⟨rfl, rfl⟩ := h
        refine ⟨?_, rfl⟩
        have ep : pkI (insOf [.i a, .i b, .i c, .i d, .i e, .r []]) = ([a, b, c, d, e].map IntKind.u8.wrap) ++ if a = 1 then [IntKind.u8.wrap (([] : List Int).length : Int), IntKind.u8.wrap ((([] : List Int).length : Int) / 256)] ++ ([] : List Int).flatMap (fun n => le8 (n + 1000000000000)) else [] := rfl
        rw [ep, if_neg h1, e5]
        rfl
theorem rdIns_off {r r' : List Int} {cs : List CV} (hb : byOk r) (h : rdIns nfI r = none) (h2 : rdIns nfS r = some (cs, r')) : insOk (insOf cs) = false := by
  unfold rdIns at h h2
  split at h
  · rename_i h5; rw [if_pos h5] at h2; cases h2
  · rename_i h5
    rw [if_neg h5] at h2
    split at h
    · rename_i h1
      rw [if_pos h1] at h2
      split at h
      · rename_i h7; rw [if_pos h7] at h2; cases h2
      · rename_i h7
        rw [if_neg h7] at h2
        have h3 : rdNums nfI (loF 2 (r.drop 5)).toNat (r.drop 7) = none := by
          cases hq : rdNums nfI (loF 2 (r.drop 5)).toNat (r.drop 7) with
          | none => rfl
          | some q => rw [hq] at h; cases h
        cases hr : rdNums nfS (loF 2 (r.drop 5)).toNat (r.drop 7) with
        | none => rw [hr] at h2; cases h2
        | some z =>
          obtain ⟨zs, z'⟩ := z
          rw [hr] at h2
          simp only [Option.map_some, Option.some.injEq, Prod.mk.injEq] at h2
          obtain ⟨rfl, rfl⟩ := h2
          have ho := rdNums_off (hb.drop 7) h3 hr
          rw [Bool.eq_false_iff]
          intro hk
          have := insOk_nums hk h1
          simp only [insOf, numsOk, ho, Bool.and_false] at this
          cases this
    · cases h
theorem insL_cons {cs W : List CV} {k : Nat} (h : cs.length = 6) : insL (cs ++ W) (k + 1) = insOf cs :: insL W k := by
  unfold insL chunk
  rw [List.range_succ_eq_map, List.map_cons, List.map_cons, List.map_map, List.map_map, List.map_map]
  congr 1
  · rw [Nat.zero_mul, List.drop_zero, ← h, List.take_left]
  · refine List.map_congr_left fun i _ => ?_
    simp only [Function.comp_apply]
    rw [show (i + 1) * 6 = cs.length + i * 6 by omega, ← List.drop_drop, List.drop_left]
theorem rdAll_pk {k : Nat} : ∀ {r r' : List Int} {V : List CV}, byOk r → rdAll nfI k r = some (V, r') → r = (insL V k).flatMap pkI ++ r' ∧ rdAll nfS k r = some (V, r') := by
  induction k with
  | zero =>
    intro r r' V _ h
    simp only [rdAll, Option.some.injEq, Prod.mk.injEq] at h
    obtain ⟨rfl, rfl⟩ := h
    exact ⟨rfl, rfl⟩
  | succ k ih =>
    intro r r' V hb h
    rw [rdAll] at h
    rw [rdAll]
    cases hi : rdIns nfI r with
    | none => rw [hi] at h; cases h
    | some z =>
      obtain ⟨cs, t⟩ := z
      rw [hi] at h
      simp only at h
      cases hr : rdAll nfI k t with
      | none => rw [hr] at h; cases h
      | some w =>
        obtain ⟨W, t'⟩ := w
        rw [hr] at h
        simp only [Option.map_some, Option.some.injEq, Prod.mk.injEq] at h
        obtain ⟨rfl, rfl⟩ := h
        obtain ⟨p1, p2⟩ := rdIns_pk hb hi
        obtain ⟨l1, ⟨m, rfl⟩, -⟩ := rdIns_len hb hi
        obtain ⟨q1, q2⟩ := ih (hb.drop m) hr
        refine ⟨?_, by rw [p2]; simp only; rw [q2]; rfl⟩
        rw [insL_cons l1, List.flatMap_cons, List.append_assoc, ← q1]
        exact p1
theorem rdAll_off {k : Nat} : ∀ {r r' : List Int} {V : List CV}, byOk r → rdAll nfI k r = none → rdAll nfS k r = some (V, r') → (insL V k).all insOk = false := by
  induction k with
  | zero => intro r r' V _ h; cases h
  | succ k ih =>
    intro r r' V hb h h2
    rw [rdAll] at h h2
    cases hs : rdIns nfS r with
    | none => rw [hs] at h2; cases h2
    | some z =>
      obtain ⟨cs, t⟩ := z
      rw [hs] at h2
      simp only at h2
      obtain ⟨l1, ⟨m, rfl⟩, -⟩ := rdIns_len hb hs
      cases hr : rdAll nfS k (r.drop m) with
      | none => rw [hr] at h2; cases h2
      | some w =>
        obtain ⟨W, t'⟩ := w
        rw [hr] at h2
        simp only [Option.map_some, Option.some.injEq, Prod.mk.injEq] at h2
        obtain ⟨rfl, rfl⟩ := h2
        rw [insL_cons l1, List.all_cons]
        cases hi : rdIns nfI r with
        | none => rw [rdIns_off hb hi hs]; rfl
        | some z2 =>
          obtain ⟨cs2, t2⟩ := z2
          have p2 := (rdIns_pk hb hi).2
          rw [hs, Option.some.injEq, Prod.mk.injEq] at p2
          obtain ⟨rfl, rfl⟩ := p2
          rw [hi] at h
          simp only at h
          have h3 : rdAll nfI k (r.drop m) = none := by
            cases hq : rdAll nfI k (r.drop m) with
            | none => rfl
            | some q => rw [hq] at h; cases h
          rw [ih (hb.drop m) h3 hr, Bool.and_false]
theorem rdAll_len {f : Int → Option Int} {k : Nat} : ∀ {r r' : List Int} {V : List CV}, byOk r → rdAll f k r = some (V, r') → V.length = 6 * k ∧ cntF V ≤ 65545 * k := by
  induction k with
  | zero =>
    intro r r' V _ h
    simp only [rdAll, Option.some.injEq, Prod.mk.injEq] at h
    obtain ⟨rfl, rfl⟩ := h
    exact ⟨rfl, Nat.le_refl _⟩
  | succ k ih =>
    intro r r' V hb h
    rw [rdAll] at h
    cases hi : rdIns f r with
    | none => rw [hi] at h; cases h
    | some z =>
      obtain ⟨cs, t⟩ := z
      rw [hi] at h
      simp only at h
      cases hr : rdAll f k t with
      | none => rw [hr] at h; cases h
      | some w =>
        obtain ⟨W, t'⟩ := w
        rw [hr] at h
        simp only [Option.map_some, Option.some.injEq, Prod.mk.injEq] at h
        obtain ⟨rfl, rfl⟩ := h
        obtain ⟨l1, ⟨m, rfl⟩, l3⟩ := rdIns_len hb hi
        obtain ⟨q1, q2⟩ := ih (hb.drop m) hr
        refine ⟨by rw [List.length_append]; omega, ?_⟩
        have : cntF (cs ++ W) = cntF cs + cntF W := by simp [cntF]
        omega
/-- What spec answers. -/
def rdS (l : List Int) : Option (List CV) := match l with
  | [] => none
  | x :: t => match rdAll nfS x.toNat t with
    | some (V, _) => if cdOk (insL V x.toNat) = true ∧ pkA (insL V x.toNat) = x :: t then some V else none
    | none => none
theorem cdOk_all {l : List Ins} (h : cdOk l = true) : l.all insOk = true := by
  unfold cdOk at h
  simp only [Bool.and_eq_true] at h
  exact h.2.1
theorem rdS_eq {l : List Int} (hb : byOk l) : rdS l = rdR l := by
  cases l with
  | nil => rfl
  | cons x t =>
    have hx := hb x (List.mem_cons_self ..)
    obtain ⟨K, rfl⟩ : ∃ K : Nat, x = K := ⟨x.toNat, by omega⟩
    simp only [rdS, rdR, Int.toNat_natCast]
    cases hi : rdAll nfI K t with
    | none =>
      simp only
      cases hs : rdAll nfS K t with
      | none => rfl
      | some z =>
        obtain ⟨V, r⟩ := z
        have := rdAll_off hb.tail hi hs
        simp only
        rw [if_neg]
        rintro ⟨h1, -⟩
        rw [cdOk_all h1] at this
        cases this
    | some z =>
      obtain ⟨V, r⟩ := z
      obtain ⟨p1, p2⟩ := rdAll_pk hb.tail hi
      rw [show rdAll nfS K t = some (V, r) from p2]
      simp only
      have hp : cdOk (insL V K) = true → (pkA (insL V K) = (K : Int) :: t ↔ r = []) := fun hk => by
        unfold pkA pkG
        rw [if_pos hk, insL_len, u8_inB hx, List.cons.injEq]
        constructor
        · rintro ⟨-, h⟩
          rw [← h] at p1
          simpa using p1
        · rintro rfl
          rw [List.append_nil] at p1
          exact ⟨rfl, p1.symm⟩
      cases r with
      | nil =>
        simp only
        by_cases hk : cdOk (insL V K) = true
        · rw [if_pos ⟨hk, (hp hk).2 rfl⟩, if_pos hk]
        · rw [if_neg (fun h => hk h.1), if_neg hk]
      | cons y s =>
        simp only
        rw [if_neg]
        rintro ⟨hk, h⟩
        exact absurd ((hp hk).1 h) (by simp)

theorem ba_loop {bs : ByteArray} {n : Nat} : ∀ {i : Nat} {r : List UInt8}, bs.size - i = n → i ≤ bs.size → ByteArray.toList.loop bs i r = r.reverse ++ bs.data.toList.drop i := by
  have hlen : bs.data.toList.length = bs.size := by rw [Array.length_toList]; rfl
  induction n with
  | zero =>
    intro i r h hi
    have e : i = bs.size := by omega
    subst e
    rw [ByteArray.toList.loop, if_neg (Nat.lt_irrefl _), List.drop_eq_nil_of_le (by omega), List.append_nil]
  | succ n ih =>
    intro i r h hi
    have hlt : i < bs.size := by omega
    have hl : i < bs.data.toList.length := by omega
    have hg : bs.get! i = bs.data.toList[i] := by
      cases bs with
      | mk d =>
        have hd : i < d.size := hlt
        simp [ByteArray.get!, hd]
    rw [ByteArray.toList.loop, if_pos hlt, ih (by omega) (by omega), List.drop_eq_getElem_cons hl, hg]
    simp
theorem ba_list {bs : ByteArray} : bs.toList = bs.data.toList := by
  unfold ByteArray.toList
  rw [ba_loop (n := bs.size) rfl (Nat.zero_le _)]
  simp
theorem bin_str_eql {P : Program} {t : TypeId} {x y : Operand} {p q : ByteArray} : aBin P .eql t x y (.string p) (.string q) = some (.bool (p.toList == q.toList)) := by
  simp only [aBin, scal, scal1, eqGuard, binOp, Op.stringOp, runP, told, pure, bind, Sem.bind]
  simp [runP, pure, Sem.bind]
theorem bin_str_neq {P : Program} {t : TypeId} {x y : Operand} {p q : ByteArray} : aBin P .neq t x y (.string p) (.string q) = some (.bool (!(p.toList == q.toList))) := by
  simp only [aBin, scal, scal1, eqGuard, binOp, Op.stringOp, runP, told, pure, bind, Sem.bind]
  simp [runP, pure, Sem.bind]
theorem strOf_go : ∀ {l : List Int} {r : ByteArray}, (l.foldl (fun r n => r.push (UInt8.ofNat n.toNat)) r).data.toList = r.data.toList ++ l.map fun n => UInt8.ofNat n.toNat
  | [], r => by simp
  | x :: t, r => by
    rw [List.foldl_cons, strOf_go, List.map_cons]
    have : (r.push (UInt8.ofNat x.toNat)).data.toList = r.data.toList ++ [UInt8.ofNat x.toNat] := by
      rw [ByteArray.push]
      simp
    rw [this, List.append_assoc]
    rfl
theorem strOf_list {l : List Int} : (strOf l).data.toList = l.map fun n => UInt8.ofNat n.toNat := by
  unfold strOf
  rw [strOf_go]
  rfl
theorem strOf_inj : ∀ {l m : List Int}, byOk l → byOk m → strOf l = strOf m → l = m := by
  intro l m hl hm h
  have h2 : l.map (fun n => UInt8.ofNat n.toNat) = m.map fun n => UInt8.ofNat n.toNat := by rw [← strOf_list, ← strOf_list, h]
  clear h
  induction l generalizing m with
  | nil => cases m with
    | nil => rfl
    | cons y t => cases h2
  | cons x t ih => cases m with
    | nil => cases h2
    | cons y s =>
      simp only [List.map_cons, List.cons.injEq] at h2
      have h3 := congrArg UInt8.toNat h2.1
      rw [UInt8.toNat_ofNat', UInt8.toNat_ofNat'] at h3
      have hx := hl x (List.mem_cons_self ..)
      have hy := hm y (List.mem_cons_self ..)
      rw [ih (m := s) hl.tail hm.tail h2.2, show x = y by omega]
theorem str_beq {l m : List Int} (hl : byOk l) (hm : byOk m) : ((strOf l).toList == (strOf m).toList) = decide (l = m) := by
  rw [Bool.eq_iff_iff]
  simp only [beq_iff_eq, decide_eq_true_eq]
  refine ⟨fun h => strOf_inj hl hm ?_, fun h => by rw [h]⟩
  rw [ba_list, ba_list] at h
  have h2 := congrArg List.toArray h
  simp only [Array.toArray_toList] at h2
  exact ByteArray.ext h2
theorem u8s_bts : ∀ {l : List Int}, u8s (bts l) = some l
  | [] => rfl
  | x :: t => by
    show (u8s (bts t)).map (x :: ·) = _
    rw [u8s_bts]; rfl
theorem ByRow.cells {H : AH} {v : Value} {l : List Int} (h : ByRow H v l) : aCells v 1 H.get = some (bts l) := by
  rcases h with ⟨rfl, rfl⟩ | ⟨b, o, cs, rfl, h1, h2, h3⟩
  · rfl
  · unfold rd rdB at h1
    show (match H.get b with | some ⟨cs, st⟩ => if st = St.dead then none else cellsAt cs o (l.length * 1) | none => none) = _
    unfold AH.get
    cases hb : H[b]? with
    | none => rw [hb] at h1; cases h1
    | some k =>
      rw [hb] at h1
      obtain ⟨ks, st⟩ := k
      cases st with
      | dead => cases h1
      | ro =>
        cases h1
        simp only [Nat.mul_one, cellsAt, if_pos h2, h3, reduceCtorEq, if_false]
      | own =>
        cases h1
        simp only [Nat.mul_one, cellsAt, if_pos h2, h3, reduceCtorEq, if_false]
theorem ByRow.str {P : Program} {H : AH} {v : Value} {l : List Int} {s d e : TypeId} (h : ByRow H v l) (hs : P.underlying s = some (.slice e)) (hd : P.underlying d = some .string) (he : P.underlying e = some (.int .u8)) : aConv P s d v H.get = some (.string (strOf l)) := by
  have h1 : scal1 v = false := by obtain ⟨a, c, rfl, -⟩ := h.op; rfl
  unfold aConv
  rw [if_neg (by rw [h1]; decide), hs, hd]
  simp only [he, h.cells, Option.bind_some, u8s_bts, Option.map_some]
theorem byOk_pkA_u {x : Int} : 0 ≤ IntKind.u8.wrap x ∧ IntKind.u8.wrap x ≤ 255 := by
  unfold IntKind.wrap
  have e1 : IntKind.u8.signed = false := rfl
  have e2 : (2 : Int) ^ IntKind.u8.bits = 256 := by decide
  rw [e1, e2, if_neg (by simp)]
  omega

theorem byOk_le8 {y : Int} : byOk (le8 y) := fun x hx => by
  obtain ⟨j, _, rfl⟩ := List.mem_map.1 hx
  exact byOk_pkA_u
theorem byOk_pkI {x : Ins} : byOk (pkI x) := fun y hy => by
  unfold pkI at hy
  rcases List.mem_append.1 hy with hy | hy
  · obtain ⟨z, _, rfl⟩ := List.mem_map.1 hy
    exact byOk_pkA_u
  · split at hy
    · rcases List.mem_append.1 hy with hy | hy
      · simp only [List.mem_cons, List.not_mem_nil, or_false] at hy
        rcases hy with rfl | rfl <;> exact byOk_pkA_u
      · obtain ⟨n, _, hy⟩ := List.mem_flatMap.1 hy
        exact byOk_le8 y hy
    · simp at hy
theorem byOk_pkA {l : List Ins} : byOk (pkA l) := fun y hy => by
  unfold pkA pkG at hy
  split at hy
  · rcases List.mem_cons.1 hy with rfl | hy
    · exact byOk_pkA_u
    · obtain ⟨n, _, hy⟩ := List.mem_flatMap.1 hy
      exact byOk_pkI y hy
  · simp at hy
theorem rdS_go {l : List Int} {K : Nat} {V : List CV} {r : List Int} (hK : l.headD 0 = K) (hn : l ≠ []) (h : rdAll nfS K l.tail = some (V, r)) : rdS l = if cdOk (insL V K) = true ∧ pkA (insL V K) = l then some V else none := by
  cases l with
  | nil => exact absurd rfl hn
  | cons x t =>
    have hx : x = (K : Int) := hK
    subst hx
    simp only [rdS, Int.toNat_natCast]
    rw [show rdAll nfS K t = some (V, r) from h]
theorem rdS_bad {l : List Int} {K : Nat} (hK : l.headD 0 = K) (hn : l ≠ []) (h : rdAll nfS K l.tail = none) : rdS l = none := by
  cases l with
  | nil => rfl
  | cons x t =>
    have hx : x = (K : Int) := hK
    subst hx
    simp only [rdS, Int.toNat_natCast]
    rw [show rdAll nfS K t = none from h]

set_option maxHeartbeats 4000000 in
theorem specRead_ok {H : AH} {v : Value} {l : List Int} (hv : ByRow H v l) (hy : byOk l) (hl : l.length ≤ 1048576) :
    CallsA Try.prog 12 #[v] H fun r H' => (∃ w m ys, r = .tuple #[w, .bool (rdS l).isSome] ∧ New H H' w kInstr m ys ∧ cvs H' ys = (rdS l).getD [] ∧ m ≤ 255) ∧ ∃ K, H' = H ++ K := by
  have q := (LX.nil (H := H))
  have hv0 := hv
  obtain ⟨va, vc, rfl, gv⟩ := hv.op
  refine w12 ?_
  unfold k12
  simp -implicitDefEqProofs only [kz, kk0, kk1, kk2, kk3, ↓two_true, ↓two_false, mkv, aggAt, Nat.reduceLeDiff, Nat.reduceSub, Nat.reduceMul, implies_true, Nat.reduceEqDiff, reduceIte, Nat.reduceAdd, Nat.reduceBEq, reduceCtorEq, al66, ap29_29, bs29_0, bs29_1, cv5_3, ix22, ld5, ld66, ln22, st66]
  refine st_cells q fun H1 q1 => ?_
  simp -implicitDefEqProofs only [kz, kk0, kk1, kk2, kk3, ↓two_true, ↓two_false, mkv, aggAt, Nat.reduceLeDiff, Nat.reduceSub, Nat.reduceMul, implies_true, Nat.reduceEqDiff, reduceIte, Nat.reduceAdd, Nat.reduceBEq, reduceCtorEq, al66, ap29_29, bs29_0, bs29_1, cv5_3, ix22, ld5, ld66, ln22, st66]
  have q1 := q1.boxT 0 rfl kInstr 6 rfl
  simp only [List.set_cons_zero] at q1
  refine two_intro (fun u1 => ?_) (fun u1 => ?_)
  · have h0 : l = [] := by
      have : l.length = 0 := by simpa using u1
      exact List.eq_nil_of_length_eq_zero this
    subst h0
    obtain ⟨nw, hV⟩ := q1.new 0 rfl
    try simp -implicitDefEqProofs only [kz, kk0, kk1, kk2, kk3, ↓two_true, ↓two_false, mkv, aggAt, Nat.reduceLeDiff, Nat.reduceSub, Nat.reduceMul, implies_true, Nat.reduceEqDiff, reduceIte, Nat.reduceAdd, Nat.reduceBEq, reduceCtorEq, al66, ap29_29, bs29_0, bs29_1, cv5_3, ix22, ld5, ld66, ln22, st66]
    exact ⟨⟨_, 0, [], rfl, nw, rfl, by omega⟩, q1.ext⟩
  · have hn : l ≠ [] := by rintro rfl; simp at u1
    have hlen : 0 < l.length := by cases l with
      | nil => exact absurd rfl hn
      | cons x t => simp
    obtain ⟨b, o, cs, rfl, rfl, hrd, hle, hcell⟩ := gv hlen
    have hc0 := hcell 0 hlen
    have hh := hy _ (List.getElem_mem hlen)
    obtain ⟨K, hK⟩ : ∃ K : Nat, l[0] = K := ⟨l[0].toNat, by omega⟩
    have hK255 : K ≤ 255 := by omega
    have hKD : l.headD 0 = K := by rw [← hK]; cases l with
      | nil => exact absurd rfl hn
      | cons x t => rfl
    have wK : IntKind.i64.wrap (K : Int) = K := IntWalk.i64_in _ (by omega)
    rw [hK] at hc0
    have z0 : Int.toNat 0 = 0 := rfl
    have g0 : (0 : Int) ≤ 0 ∧ (0 : Int) < ((l.length : Nat) : Int) := by omega
    simp only [Nat.add_zero] at hc0
    try simp -implicitDefEqProofs only [kz, kk0, kk1, kk2, kk3, ↓two_true, ↓two_false, mkv, aggAt, Nat.reduceLeDiff, Nat.reduceSub, Nat.reduceMul, implies_true, Nat.reduceEqDiff, reduceIte, Nat.reduceAdd, Nat.reduceBEq, reduceCtorEq, al66, ap29_29, bs29_0, bs29_1, cv5_3, ix22, ld5, ld66, ln22, st66]
    refine st_cells q1 fun H2 q2 => ?_
    simp -implicitDefEqProofs only [kz, kk0, kk1, kk2, kk3, ↓two_true, ↓two_false, mkv, aggAt, Nat.reduceLeDiff, Nat.reduceSub, Nat.reduceMul, implies_true, Nat.reduceEqDiff, reduceIte, Nat.reduceAdd, Nat.reduceBEq, reduceCtorEq, al66, ap29_29, bs29_0, bs29_1, cv5_3, ix22, ld5, ld66, ln22, st66]
    have q2 := q2.boxT 0 rfl kInstr 6 rfl
    simp only [List.set_cons_zero] at q2
    refine rW_loop (σ := Nat) (fun k tm H' => ∃ a c m xs V p, tm 0 = .slice (some ⟨b, o, none⟩) l.length 1 ∧ tm 4 = .slice (some ⟨H.length, 0, none⟩) 0 6 ∧ tm 5 = .slice a m c ∧ tm 6 = .int .i64 (p : Nat) ∧ tm 7 = .int .i64 m ∧ m + k = K ∧ p ≤ l.length ∧ LX none H H' [.own (.cmp (.row (.slice a m c) kInstr m xs) V), .own (.cmp (.row (.slice (some ⟨H.length, 0, none⟩) 0 6) kInstr 0 []) [])] ∧
      rdAll nfS K l.tail = (rdAll nfS k (l.drop p)).map fun w => (V ++ w.1, w.2)) (fun k => k) K ?_ ?_
    · refine ⟨some ⟨H1.length, 0, none⟩, 6, 0, [], [], 1, ?_, ?_, ?_, ?_, ?_, by omega, hlen, q2, ?_⟩
      · simp -implicitDefEqProofs [kk0, kk1, kk2, kk3, rW_block, ↓two_true, ↓two_false, rW_cond, rO_guard, oS_some, oM_some, mkv, aggAt, Nat.reduceLeDiff, Nat.reduceSub, Nat.reduceMul, cond_true, cond_false, Option.bind_some, List.length_append, List.length_cons, List.length_nil, List.append_assoc, List.cons_append, List.nil_append, List.set_cons_zero, List.set_cons_succ, List.size_toArray, List.all_cons, List.all_nil, List.drop_zero, List.drop_succ_cons, List.take_succ_cons, List.take_zero, List.mem_cons, Prod.mk.injEq, List.not_mem_nil, implies_true, List.getElem?_toArray, List.getElem?_cons_zero, List.getElem?_cons_succ, List.getElem?_nil, Option.getD_some, Option.getD_none, Nat.reduceEqDiff, reduceIte, Nat.reduceAdd, List.map_toArray, List.map_cons, List.map_nil, Bool.false_eq_true, Nat.reduceBEq, Option.map_some, Option.map_none, reduceCtorEq, al66, ap29_29, bs29_0, bs29_1, cv5_3, ix22, ld5, ld66, ln22, st66]
      · simp -implicitDefEqProofs [kk0, kk1, kk2, kk3, rW_block, ↓two_true, ↓two_false, rW_cond, rO_guard, oS_some, oM_some, mkv, aggAt, Nat.reduceLeDiff, Nat.reduceSub, Nat.reduceMul, cond_true, cond_false, Option.bind_some, List.length_append, List.length_cons, List.length_nil, List.append_assoc, List.cons_append, List.nil_append, List.set_cons_zero, List.set_cons_succ, List.size_toArray, List.all_cons, List.all_nil, List.drop_zero, List.drop_succ_cons, List.take_succ_cons, List.take_zero, List.mem_cons, Prod.mk.injEq, List.not_mem_nil, implies_true, List.getElem?_toArray, List.getElem?_cons_zero, List.getElem?_cons_succ, List.getElem?_nil, Option.getD_some, Option.getD_none, Nat.reduceEqDiff, reduceIte, Nat.reduceAdd, List.map_toArray, List.map_cons, List.map_nil, Bool.false_eq_true, Nat.reduceBEq, Option.map_some, Option.map_none, reduceCtorEq, al66, ap29_29, bs29_0, bs29_1, cv5_3, ix22, ld5, ld66, ln22, st66]
      · simp -implicitDefEqProofs [kk0, kk1, kk2, kk3, rW_block, ↓two_true, ↓two_false, rW_cond, rO_guard, oS_some, oM_some, mkv, aggAt, Nat.reduceLeDiff, Nat.reduceSub, Nat.reduceMul, cond_true, cond_false, Option.bind_some, List.length_append, List.length_cons, List.length_nil, List.append_assoc, List.cons_append, List.nil_append, List.set_cons_zero, List.set_cons_succ, List.size_toArray, List.all_cons, List.all_nil, List.drop_zero, List.drop_succ_cons, List.take_succ_cons, List.take_zero, List.mem_cons, Prod.mk.injEq, List.not_mem_nil, implies_true, List.getElem?_toArray, List.getElem?_cons_zero, List.getElem?_cons_succ, List.getElem?_nil, Option.getD_some, Option.getD_none, Nat.reduceEqDiff, reduceIte, Nat.reduceAdd, List.map_toArray, List.map_cons, List.map_nil, Bool.false_eq_true, Nat.reduceBEq, Option.map_some, Option.map_none, reduceCtorEq, al66, ap29_29, bs29_0, bs29_1, cv5_3, ix22, ld5, ld66, ln22, st66]
      · simp -implicitDefEqProofs [kk0, kk1, kk2, kk3, rW_block, ↓two_true, ↓two_false, rW_cond, rO_guard, oS_some, oM_some, mkv, aggAt, Nat.reduceLeDiff, Nat.reduceSub, Nat.reduceMul, cond_true, cond_false, Option.bind_some, List.length_append, List.length_cons, List.length_nil, List.append_assoc, List.cons_append, List.nil_append, List.set_cons_zero, List.set_cons_succ, List.size_toArray, List.all_cons, List.all_nil, List.drop_zero, List.drop_succ_cons, List.take_succ_cons, List.take_zero, List.mem_cons, Prod.mk.injEq, List.not_mem_nil, implies_true, List.getElem?_toArray, List.getElem?_cons_zero, List.getElem?_cons_succ, List.getElem?_nil, Option.getD_some, Option.getD_none, Nat.reduceEqDiff, reduceIte, Nat.reduceAdd, List.map_toArray, List.map_cons, List.map_nil, Bool.false_eq_true, Nat.reduceBEq, Option.map_some, Option.map_none, reduceCtorEq, al66, ap29_29, bs29_0, bs29_1, cv5_3, ix22, ld5, ld66, ln22, st66]
      · simp -implicitDefEqProofs [kk0, kk1, kk2, kk3, rW_block, ↓two_true, ↓two_false, rW_cond, rO_guard, oS_some, oM_some, mkv, aggAt, Nat.reduceLeDiff, Nat.reduceSub, Nat.reduceMul, cond_true, cond_false, Option.bind_some, List.length_append, List.length_cons, List.length_nil, List.append_assoc, List.cons_append, List.nil_append, List.set_cons_zero, List.set_cons_succ, List.size_toArray, List.all_cons, List.all_nil, List.drop_zero, List.drop_succ_cons, List.take_succ_cons, List.take_zero, List.mem_cons, Prod.mk.injEq, List.not_mem_nil, implies_true, List.getElem?_toArray, List.getElem?_cons_zero, List.getElem?_cons_succ, List.getElem?_nil, Option.getD_some, Option.getD_none, Nat.reduceEqDiff, reduceIte, Nat.reduceAdd, List.map_toArray, List.map_cons, List.map_nil, Bool.false_eq_true, Nat.reduceBEq, Option.map_some, Option.map_none, reduceCtorEq, al66, ap29_29, bs29_0, bs29_1, cv5_3, ix22, ld5, ld66, ln22, st66]
      · rw [List.drop_one]
        simp only [List.nil_append]
        cases rdAll nfS K l.tail <;> rfl
    · rintro k tm H3 ⟨a, c, m, xs, V, p, h0, h4, h5, h6, h7, hm, hp, q3, hr⟩
      have hrd3 := rd_ext hrd q3.ext
      simp -implicitDefEqProofs only [kz, kk0, kk1, kk2, kk3, ↓two_true, ↓two_false, mkv, aggAt, Nat.reduceLeDiff, Nat.reduceSub, Nat.reduceMul, implies_true, Nat.reduceEqDiff, reduceIte, Nat.reduceAdd, Nat.reduceBEq, reduceCtorEq, al66, ap29_29, bs29_0, bs29_1, cv5_3, ix22, ld5, ld66, ln22, st66, h0, h4, h5, h6, h7, hrd3, hc0, wK, z0, if_pos g0, Nat.zero_mul]
      refine two_intro (fun u2 => ?_) (fun u2 => ?_)
      · have hk1 : 0 < k := by have h5 := of_decide_eq_true u2; omega
        obtain ⟨k, rfl⟩ : ∃ k', k = k' + 1 := ⟨k - 1, by omega⟩
        have wm : IntKind.i64.wrap ((m : Int) + 1) = ((m + 1 : Nat) : Int) := IntWalk.i64_in ((m : Int) + 1) (by omega)
        try simp -implicitDefEqProofs only [kz, kk0, kk1, kk2, kk3, ↓two_true, ↓two_false, mkv, aggAt, Nat.reduceLeDiff, Nat.reduceSub, Nat.reduceMul, implies_true, Nat.reduceEqDiff, reduceIte, Nat.reduceAdd, Nat.reduceBEq, reduceCtorEq, al66, ap29_29, bs29_0, bs29_1, cv5_3, ix22, ld5, ld66, ln22, st66, h0, h4, h5, h6, h7]
        refine (l11Read_ok (hv0.ext q3.ext) hy hl hp).mono ?_
        rintro _ H4 ⟨op, ia, is, io, iw, pv, nums, nx, rfl, ld, hnl, hm2⟩
        have q4 := q3.join ld
        simp only [List.map_cons, List.map_nil, List.cons_append, List.nil_append] at q4
        obtain ⟨pa, pc, rfl⟩ := (q4.own 0 rfl).isSlice
        simp -implicitDefEqProofs only [kz, kk0, kk1, kk2, kk3, ↓two_true, ↓two_false, mkv, aggAt, Nat.reduceLeDiff, Nat.reduceSub, Nat.reduceMul, implies_true, Nat.reduceEqDiff, reduceIte, Nat.reduceAdd, Nat.reduceBEq, reduceCtorEq, al66, ap29_29, bs29_0, bs29_1, cv5_3, ix22, ld5, ld66, ln22, st66, h0, h4, h5, h6, h7]
        refine st_box q4 fun H5 q5 => ?_
        simp -implicitDefEqProofs only [kz, kk0, kk1, kk2, kk3, ↓two_true, ↓two_false, mkv, aggAt, Nat.reduceLeDiff, Nat.reduceSub, Nat.reduceMul, implies_true, Nat.reduceEqDiff, reduceIte, Nat.reduceAdd, Nat.reduceBEq, reduceCtorEq, al66, ap29_29, bs29_0, bs29_1, cv5_3, ix22, ld5, ld66, ln22, st66, h0, h4, h5, h6, h7, q5.rd 0 rfl]
        refine st_set q5 0 rfl fun H6 q6 => ?_
        simp only [List.set_cons_zero] at q6
        simp -implicitDefEqProofs only [kz, kk0, kk1, kk2, kk3, ↓two_true, ↓two_false, mkv, aggAt, Nat.reduceLeDiff, Nat.reduceSub, Nat.reduceMul, implies_true, Nat.reduceEqDiff, reduceIte, Nat.reduceAdd, Nat.reduceBEq, reduceCtorEq, al66, ap29_29, bs29_0, bs29_1, cv5_3, ix22, ld5, ld66, ln22, st66, h0, h4, h5, h6, h7, q6.rd 0 rfl]
        cases hi : rdIns nfS (l.drop p) with
        | none =>
          rw [hi] at hm2
          simp only at hm2
          subst hm2
          rw [rdAll_bad hi] at hr
          have hS := rdS_bad hKD hn (by rw [hr]; rfl)
          rw [hS]
          obtain ⟨nw, hV⟩ := q6.new 3 rfl
          have hm1 : decide ((-1 : Int) < 0) = true := rfl
          simp -implicitDefEqProofs only [kz, kk0, kk1, kk2, kk3, ↓two_true, ↓two_false, mkv, aggAt, Nat.reduceLeDiff, Nat.reduceSub, Nat.reduceMul, implies_true, Nat.reduceEqDiff, reduceIte, Nat.reduceAdd, Nat.reduceBEq, reduceCtorEq, al66, ap29_29, bs29_0, bs29_1, cv5_3, ix22, ld5, ld66, ln22, st66, h0, h4, h5, h6, h7, hm1]
          exact ⟨⟨_, 0, [], rfl, nw, rfl, by omega⟩, q6.ext⟩
        | some z =>
          rw [hi] at hm2
          simp only at hm2
          obtain ⟨hz, p2, rfl, hp2, hz2⟩ := hm2
          have hneg : decide (((p2 : Nat) : Int) < 0) = false := decide_eq_false (by omega)
          simp -implicitDefEqProofs only [kz, kk0, kk1, kk2, kk3, ↓two_true, ↓two_false, mkv, aggAt, Nat.reduceLeDiff, Nat.reduceSub, Nat.reduceMul, implies_true, Nat.reduceEqDiff, reduceIte, Nat.reduceAdd, Nat.reduceBEq, reduceCtorEq, al66, ap29_29, bs29_0, bs29_1, cv5_3, ix22, ld5, ld66, ln22, st66, h0, h4, h5, h6, h7, hneg, q6.rd 0 rfl]
          refine st_cellsX ?_
          simp -implicitDefEqProofs only [kz, kk0, kk1, kk2, kk3, ↓two_true, ↓two_false, mkv, aggAt, Nat.reduceLeDiff, Nat.reduceSub, Nat.reduceMul, implies_true, Nat.reduceEqDiff, reduceIte, Nat.reduceAdd, Nat.reduceBEq, reduceCtorEq, al66, ap29_29, bs29_0, bs29_1, cv5_3, ix22, ld5, ld66, ln22, st66, h0, h4, h5, h6, h7]
          have q7 := q6.sel2 [2, 1, 3] (by decide) rfl
          simp only [List.filterMap_cons, List.filterMap_nil, List.getElem?_cons_zero, List.getElem?_cons_succ] at q7
          have hrk := (q7.own 1 rfl).kok (by omega)
          refine st_insC (s := 6) rfl q7 ⟨_, _, rfl, ⟨_, rfl⟩, _, _, rfl, ⟨_, rfl⟩, _, _, rfl, ⟨_, rfl⟩, _, _, rfl, ⟨_, rfl⟩, _, _, rfl, ⟨_, rfl⟩, _, _, rfl, hrk.1, rfl⟩ ?_ ?_ ?_ (by omega) fun b8 H8 q8 => ?_
          · simp only [List.forall_mem_cons, List.not_mem_nil, false_implies, implies_true, and_true]
            exact ⟨.inl ⟨_, rfl⟩, .inl ⟨_, rfl⟩, .inl ⟨_, rfl⟩, .inl ⟨_, rfl⟩, .inl ⟨_, rfl⟩, hrk.2.1⟩
          · simp [Dj, blkOf]
          · simp only [List.forall_mem_cons, List.not_mem_nil, false_implies, implies_true, and_true]
            exact ⟨fun b hb => by simp [blkOf] at hb, fun b hb => by simp [blkOf] at hb, fun b hb => by simp [blkOf] at hb, fun b hb => by simp [blkOf] at hb, fun b hb => by simp [blkOf] at hb, fun b hb => hb⟩
          · simp -implicitDefEqProofs only [kz, kk0, kk1, kk2, kk3, ↓two_true, ↓two_false, mkv, aggAt, Nat.reduceLeDiff, Nat.reduceSub, Nat.reduceMul, implies_true, Nat.reduceEqDiff, reduceIte, Nat.reduceAdd, Nat.reduceBEq, reduceCtorEq, al66, ap29_29, bs29_0, bs29_1, cv5_3, ix22, ld5, ld66, ln22, st66, h0, h4, h5, h6, h7, wm]
            simp only [List.map_cons, List.map_nil, cv_int, hrk.2.2] at q8
            obtain ⟨z1, z2⟩ := z
            simp only at hz hz2
            subst hz hz2
            refine ⟨k, by omega, _, _, m + 1, _, _, p2, rfl, rfl, rfl, by omega, hp2, q8, ?_⟩
            rw [hr]
            exact rdAll_ok hi
      · have hk0 : k = 0 := by have h5 := of_decide_eq_false u2; omega
        subst hk0
        simp only [rdAll, Option.map_some, List.append_nil] at hr
        have hS := rdS_go hKD hn hr
        have hmK : m = K := by omega
        subst hmK
        obtain ⟨nw, hV⟩ := q3.new 0 rfl
        have hp := specPack_ok nw.ot.frow (by omega)
        rw [hV] at hp
        try simp -implicitDefEqProofs only [kz, kk0, kk1, kk2, kk3, ↓two_true, ↓two_false, mkv, aggAt, Nat.reduceLeDiff, Nat.reduceSub, Nat.reduceMul, implies_true, Nat.reduceEqDiff, reduceIte, Nat.reduceAdd, Nat.reduceBEq, reduceCtorEq, al66, ap29_29, bs29_0, bs29_1, cv5_3, ix22, ld5, ld66, ln22, st66, h0, h4, h5, h6, h7]
        refine hp.mono ?_
        rintro _ H4 ⟨⟨w, rfl, bw⟩, hK4⟩
        have q4 := q3.extd hK4
        have c1 := bw.row.str (P := Try.prog) (s := 22) (d := 9) (e := 5) (by kernel_rfl) (by kernel_rfl) (by kernel_rfl)
        have c2 := (hv0.ext q4.ext).str (P := Try.prog) (s := 22) (d := 9) (e := 5) (by kernel_rfl) (by kernel_rfl) (by kernel_rfl)
        have bn := fun (x y : Operand) => bin_str_neq (P := Try.prog) (t := 9) (x := x) (y := y) (p := strOf (pkA (insL V m))) (q := strOf l)
        rw [str_beq byOk_pkA hy] at bn
        cases hc : cdOk (insL V m) with
        | false =>
          rw [hc, if_neg (by simp)] at hS
          rw [hS]
          simp -implicitDefEqProofs only [kz, kk0, kk1, kk2, kk3, ↓two_true, ↓two_false, mkv, aggAt, Nat.reduceLeDiff, Nat.reduceSub, Nat.reduceMul, implies_true, Nat.reduceEqDiff, reduceIte, Nat.reduceAdd, Nat.reduceBEq, reduceCtorEq, al66, ap29_29, bs29_0, bs29_1, cv5_3, ix22, ld5, ld66, ln22, st66, h0, h4, h5, h6, h7, hc, Bool.not_false]
          obtain ⟨nw, hV⟩ := q4.new 1 rfl
          exact ⟨⟨_, 0, [], rfl, nw, rfl, by omega⟩, q4.ext⟩
        | true =>
          simp -implicitDefEqProofs only [kz, kk0, kk1, kk2, kk3, ↓two_true, ↓two_false, mkv, aggAt, Nat.reduceLeDiff, Nat.reduceSub, Nat.reduceMul, implies_true, Nat.reduceEqDiff, reduceIte, Nat.reduceAdd, Nat.reduceBEq, reduceCtorEq, al66, ap29_29, bs29_0, bs29_1, cv5_3, ix22, ld5, ld66, ln22, st66, h0, h4, h5, h6, h7, hc, Bool.not_true, c1, c2, bn]
          rw [hc] at hS
          simp only [true_and] at hS
          refine two_intro (fun u3 => ?_) (fun u3 => ?_)
          · have hne : ¬ pkA (insL V m) = l := by simpa using u3
            rw [if_neg hne] at hS
            rw [hS]
            try simp -implicitDefEqProofs only [kz, kk0, kk1, kk2, kk3, ↓two_true, ↓two_false, mkv, aggAt, Nat.reduceLeDiff, Nat.reduceSub, Nat.reduceMul, implies_true, Nat.reduceEqDiff, reduceIte, Nat.reduceAdd, Nat.reduceBEq, reduceCtorEq, al66, ap29_29, bs29_0, bs29_1, cv5_3, ix22, ld5, ld66, ln22, st66, h0, h4, h5, h6, h7]
            obtain ⟨nw, hV⟩ := q4.new 1 rfl
            exact ⟨⟨_, 0, [], rfl, nw, rfl, by omega⟩, q4.ext⟩
          · have he : pkA (insL V m) = l := by simpa using u3
            rw [if_pos he] at hS
            rw [hS]
            try simp -implicitDefEqProofs only [kz, kk0, kk1, kk2, kk3, ↓two_true, ↓two_false, mkv, aggAt, Nat.reduceLeDiff, Nat.reduceSub, Nat.reduceMul, implies_true, Nat.reduceEqDiff, reduceIte, Nat.reduceAdd, Nat.reduceBEq, reduceCtorEq, al66, ap29_29, bs29_0, bs29_1, cv5_3, ix22, ld5, ld66, ln22, st66, h0, h4, h5, h6, h7]
            obtain ⟨nw, hV⟩ := q4.new 0 rfl
            exact ⟨⟨_, m, xs, rfl, nw, hV, by omega⟩, q4.ext⟩

theorem add_str {P : Program} {t : TypeId} {x y : Operand} {p q : ByteArray} : aBin P .add t x y (.string p) (.string q) = if p.size + q.size ≤ 9223372036854775807 then some (.string (p ++ q)) else none := by
  split
  · rename_i h; exact bin_str_add h
  · rename_i h
    have : (((p.size + q.size : Nat) : Int) > IntKind.i64.max) := by
      have : IntKind.i64.max = 9223372036854775807 := by decide
      omega
    simp only [aBin, scal, scal1, eqGuard, binOp, Op.stringOp, runP, told, pure, bind, Sem.bind, if_pos this]
    simp [runP, unsupported, Sem.bind]
def strs (N : Nat) (l : List Value) : Bool := l.all fun v => match v with | .string s => decide (s.size ≤ N) | _ => false
theorem strs_get {N : Nat} {l : List Value} {i : Nat} (h : strs N l = true) (hi : i < l.length) : ∃ s : ByteArray, l[i]? = some (.string s) ∧ s.size ≤ N := by
  have h1 := List.all_eq_true.1 h l[i] (List.getElem_mem hi)
  rw [List.getElem?_eq_getElem hi]
  cases hv : l[i] with
  | string s => rw [hv] at h1; exact ⟨s, rfl, of_decide_eq_true h1⟩
  | _ => rw [hv] at h1; cases h1
/-- A drawn text. -/
def StrA (cb : Nat) (H : AH) (N : Nat) (r : Value) (H' : AH) : Prop := (∃ s : ByteArray, r = .string s ∧ s.size ≤ N) ∧ Frm cb H H'

theorem l1Pick_gen {H : AH} {cb b n N : Nat} {cs : List Value} (hc : Cur H cb) (hb : H[b]? = some ⟨cs, .own⟩) (hbc : b ≠ cb) (hs : strs N cs = true) (hn : n = cs.length) (h0 : 0 < n) :
    CallsA Try.prog 94 #[.pointer (some ⟨cb, 0, none⟩), .slice (some ⟨b, 0, none⟩) n 1] H (StrA cb H N) := by
  refine w94 ?_
  unfold k94
  simp -implicitDefEqProofs only [kz, kk0, kk1, kk2, kk3, ↓two_true, ↓two_false, oS_some, oM_some, mkv, aggAt, Nat.reduceLeDiff, Nat.reduceSub, Nat.reduceMul, implies_true, Nat.reduceEqDiff, reduceIte, Nat.reduceAdd, Nat.reduceBEq, reduceCtorEq, ix98, ld9, ln98]
  refine (l1Below_ok hc).mono ?_
  rintro _ H1 ⟨⟨v, rfl, _, h2⟩, hf⟩
  obtain ⟨v0, v1⟩ := h2 (by omega)
  have hb1 := hf.at hb hbc
  obtain ⟨j, rfl⟩ : ∃ j : Nat, v = j := ⟨v.toNat, by omega⟩
  have hj : j < cs.length := by omega
  obtain ⟨s, hs1, hs2⟩ := strs_get hs hj
  simp -implicitDefEqProofs only [kz, kk0, kk1, kk2, kk3, ↓two_true, ↓two_false, oS_some, oM_some, mkv, aggAt, Nat.reduceLeDiff, Nat.reduceSub, Nat.reduceMul, implies_true, Nat.reduceEqDiff, reduceIte, Nat.reduceAdd, Nat.reduceBEq, reduceCtorEq, ix98, ld9, ln98, Int.toNat_natCast, Nat.mul_one, rd_own hb1, hs1]
  exact ⟨⟨by omega, by omega⟩, ⟨s, rfl, hs2⟩, hf⟩
set_option maxHeartbeats 4000000 in
theorem l1Pick_ok {H : AH} {cb n : Nat} {cs : List Value} (N : Nat) (hc : Cur H cb) (hs : strs N cs = true) (hn : n = cs.length) (h0 : 0 < n) :
    CallsA Try.prog 94 #[.pointer (some ⟨cb, 0, none⟩), .slice (some ⟨H.length, 0, none⟩) n 1] (H ++ [⟨cs, .own⟩]) (StrA cb H N) := by
  have hlt := hc.lt
  refine (l1Pick_gen hc.mono (by rw [gt0]; rfl) (by omega) hs hn h0).mono ?_
  rintro r H1 ⟨h1, h2⟩
  exact ⟨h1, (Frm.refl hc).app.trans h2⟩

end Go.Proofs.Ytdagncfnkenbfaa.AM
