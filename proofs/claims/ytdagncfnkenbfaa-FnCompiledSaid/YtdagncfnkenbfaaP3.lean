/- What the functions answer, part 3. -/
import Derived.Test.YtdagncfnkenbfaaP2
set_option linter.unusedVariables false
set_option linter.unusedSimpArgs false
set_option linter.defProp false
set_option maxRecDepth 100000
/- What the functions answer, part 3. -/
namespace Go.Proofs.Ytdagncfnkenbfaa.AM
open Go Go.Proofs.Ytdagncfnkenbfaa Go.Proofs
set_option maxHeartbeats 4000000 in
theorem implPack_ok {H : AH} {v : Value} {n : Nat} {xs : List Value} (hv : FRow H v kInstr n xs) (hl : n ≤ 1048576) :
    CallsA Try.prog 24 #[v] H fun r H' => (∃ w, r = .tuple #[w, .bool (cdOk (insL (cvs H xs) n))] ∧ ByNew H H' w (pkA (insL (cvs H xs) n))) ∧ ∃ K, H' = H ++ K := by
  have hc := implCodeOk_ok hv hl
  obtain ⟨a, c, rfl, gv⟩ := hv.opn 6 rfl
  generalize hL : insL (cvs H xs) n = l at *
  have hll : l.length = n := by rw [← hL, insL_len]
  have q := (LX.nil (H := H))
  refine w24 ?_
  unfold k24
  simp -implicitDefEqProofs only [kz, kk0, kk1, kk2, kk3, ↓two_true, ↓two_false, mkv, aggAt, Nat.reduceLeDiff, Nat.reduceSub, Nat.reduceMul, implies_true, Nat.reduceEqDiff, reduceIte, Nat.reduceAdd, Nat.reduceBEq, reduceCtorEq, al66, ap22_22, bs22_1, bs22_2, bs22_5, cv3_5, fa63_0, fa63_1, fa63_2, fa66_0, fa66_1, fa66_2, fa66_3, ix29, ix64, ld3, ld64, ld66, ln29, ln64, st66]
  refine hc.mono ?_
  rintro _ H1 ⟨rfl, hK1⟩
  have q1 := q.extd hK1
  simp -implicitDefEqProofs only [kz, kk0, kk1, kk2, kk3, ↓two_true, ↓two_false, mkv, aggAt, Nat.reduceLeDiff, Nat.reduceSub, Nat.reduceMul, implies_true, Nat.reduceEqDiff, reduceIte, Nat.reduceAdd, Nat.reduceBEq, reduceCtorEq, al66, ap22_22, bs22_1, bs22_2, bs22_5, cv3_5, fa63_0, fa63_1, fa63_2, fa66_0, fa66_1, fa66_2, fa66_3, ix29, ix64, ld3, ld64, ld66, ln29, ln64, st66]
  refine two_intro (fun u1 => ?_) (fun u1 => ?_)
  · have hk : cdOk l = false := by simpa using u1
    rw [hk]
    exact ⟨⟨_, rfl, .inl ⟨rfl, by unfold pkA; rw [hk]; rfl⟩⟩, hK1⟩
  · have hk : cdOk l = true := by simpa using u1
    have hk' := hk
    unfold cdOk at hk'
    simp only [Bool.and_eq_true] at hk'
    have hb2 : 1 ≤ n ∧ n ≤ 60 := by have := hk'.1; rw [hll] at this; simp [inB] at this; omega
    have hok := hk'.2.1
    clear hk'
    try simp -implicitDefEqProofs only [kz, kk0, kk1, kk2, kk3, ↓two_true, ↓two_false, mkv, aggAt, Nat.reduceLeDiff, Nat.reduceSub, Nat.reduceMul, implies_true, Nat.reduceEqDiff, reduceIte, Nat.reduceAdd, Nat.reduceBEq, reduceCtorEq, al66, ap22_22, bs22_1, bs22_2, bs22_5, cv3_5, fa63_0, fa63_1, fa63_2, fa66_0, fa66_1, fa66_2, fa66_3, ix29, ix64, ld3, ld64, ld66, ln29, ln64, st66]
    refine st_cells q1 fun H2 q2 => ?_
    simp -implicitDefEqProofs only [kz, kk0, kk1, kk2, kk3, ↓two_true, ↓two_false, mkv, aggAt, Nat.reduceLeDiff, Nat.reduceSub, Nat.reduceMul, implies_true, Nat.reduceEqDiff, reduceIte, Nat.reduceAdd, Nat.reduceBEq, reduceCtorEq, al66, ap22_22, bs22_1, bs22_2, bs22_5, cv3_5, fa63_0, fa63_1, fa63_2, fa66_0, fa66_1, fa66_2, fa66_3, ix29, ix64, ld3, ld64, ld66, ln29, ln64, st66]
    have e0 : [Value.int .u8 (IntKind.u8.wrap (n : Int))] = bts (pkT l 0) := by rw [← hll]; rfl
    rw [e0] at q2
    have hT0 : (pkT l 0).length = 1 := rfl
    refine rW_loopQ (σ := Nat × Nat) q2 [16, 17] (fun x tm => tm 4 = .slice (some ⟨x.2, 0, none⟩) (pkT l x.1).length 1 ∧ tm 18 = .int .i64 x.1 ∧ x.1 ≤ n) (fun x L => [.own (.box x.2 (bts (pkT l x.1)))]) (fun x => n - x.1) (0, H1.length) ⟨rfl, rfl, Nat.zero_le _⟩ rfl ?_
    rintro ⟨i, bo⟩ tm1 H3 ⟨lv1, lv2, -⟩ ⟨k4, ki, hi⟩ q3
    simp -implicitDefEqProofs only [kz, kk0, kk1, kk2, kk3, ↓two_true, ↓two_false, mkv, aggAt, Nat.reduceLeDiff, Nat.reduceSub, Nat.reduceMul, implies_true, Nat.reduceEqDiff, reduceIte, Nat.reduceAdd, Nat.reduceBEq, reduceCtorEq, al66, ap22_22, bs22_1, bs22_2, bs22_5, cv3_5, fa63_0, fa63_1, fa63_2, fa66_0, fa66_1, fa66_2, fa66_3, ix29, ix64, ld3, ld64, ld66, ln29, ln64, st66] at lv1 lv2
    simp only at k4 ki hi
    simp -implicitDefEqProofs only [kz, kk0, kk1, kk2, kk3, ↓two_true, ↓two_false, mkv, aggAt, Nat.reduceLeDiff, Nat.reduceSub, Nat.reduceMul, implies_true, Nat.reduceEqDiff, reduceIte, Nat.reduceAdd, Nat.reduceBEq, reduceCtorEq, al66, ap22_22, bs22_1, bs22_2, bs22_5, cv3_5, fa63_0, fa63_1, fa63_2, fa66_0, fa66_1, fa66_2, fa66_3, ix29, ix64, ld3, ld64, ld66, ln29, ln64, st66, lv1, lv2, ki, k4]
    refine two_intro (fun u2 => ?_) (fun u2 => ?_)
    · have hlt : i < n := by have h5 := of_decide_eq_true u2; omega
      obtain ⟨b, o, cs, rfl, rfl, hrd, hle, hcell⟩ := gv (by omega)
      have x1 := hv.elemn 6 rfl hlt
      have hin : l[i]? = some (insOf ((elm 6 xs i).map (cv H))) := by rw [← hL]; exact insL_get hlt
      have hpk := pkT_succ hin
      have hio : insOk (insOf ((elm 6 xs i).map (cv H))) = true := (List.all_eq_true.1 hok) _ (List.mem_of_getElem? hin)
      have g1 := rd_ext hrd q3.ext
      have l1 : ld Try.prog 66 (o + i * 6) cs = some (.agg (elm 6 xs i).toArray) := by rw [ld66]; exact (hcell _ hlt).1
      obtain ⟨op, ia, is, io, iw, y, ex, ky, ei⟩ := all2_instr x1
      rw [ei] at hpk hio
      clear hin
      generalize elm 6 xs i = x at *
      subst ex
      obtain ⟨a5, c5, e5⟩ := ky.1.slice
      have hr : IntRow H y (rowI H y) := ky.1
      have hrl := ky.2
      generalize rowI H y = m at *
      subst e5
      have wi : IntKind.i64.wrap ((i : Int) + 1) = ((i + 1 : Nat) : Int) := IntWalk.i64_in ((i : Int) + 1) (by omega)
      have hTl := pkT_len hok (i := i)
      simp -implicitDefEqProofs only [kz, kk0, kk1, kk2, kk3, ↓two_true, ↓two_false, mkv, aggAt, Nat.reduceLeDiff, Nat.reduceSub, Nat.reduceMul, implies_true, Nat.reduceEqDiff, reduceIte, Nat.reduceAdd, Nat.reduceBEq, reduceCtorEq, al66, ap22_22, bs22_1, bs22_2, bs22_5, cv3_5, fa63_0, fa63_1, fa63_2, fa66_0, fa66_1, fa66_2, fa66_3, ix29, ix64, ld3, ld64, ld66, ln29, ln64, st66, lv1, lv2, ki, k4, Int.toNat_natCast, Nat.mul_one, g1, l1]
      refine ⟨by omega, ?_⟩
      refine st_box q3 fun H4 q4 => ?_
      simp -implicitDefEqProofs only [kz, kk0, kk1, kk2, kk3, ↓two_true, ↓two_false, mkv, aggAt, Nat.reduceLeDiff, Nat.reduceSub, Nat.reduceMul, implies_true, Nat.reduceEqDiff, reduceIte, Nat.reduceAdd, Nat.reduceBEq, reduceCtorEq, al66, ap22_22, bs22_1, bs22_2, bs22_5, cv3_5, fa63_0, fa63_1, fa63_2, fa66_0, fa66_1, fa66_2, fa66_3, ix29, ix64, ld3, ld64, ld66, ln29, ln64, st66, lv1, lv2, ki, k4, q4.rd 0 rfl]
      refine st_set q4 0 rfl fun H5 q5 => ?_
      simp only [List.set_cons_zero, List.set_cons_succ] at q5
      simp -implicitDefEqProofs only [kz, kk0, kk1, kk2, kk3, ↓two_true, ↓two_false, mkv, aggAt, Nat.reduceLeDiff, Nat.reduceSub, Nat.reduceMul, implies_true, Nat.reduceEqDiff, reduceIte, Nat.reduceAdd, Nat.reduceBEq, reduceCtorEq, al66, ap22_22, bs22_1, bs22_2, bs22_5, cv3_5, fa63_0, fa63_1, fa63_2, fa66_0, fa66_1, fa66_2, fa66_3, ix29, ix64, ld3, ld64, ld66, ln29, ln64, st66, lv1, lv2, ki, k4, q5.rd 0 rfl]
      refine st_cells q5 fun H6 q6 => ?_
      simp -implicitDefEqProofs only [kz, kk0, kk1, kk2, kk3, ↓two_true, ↓two_false, mkv, aggAt, Nat.reduceLeDiff, Nat.reduceSub, Nat.reduceMul, implies_true, Nat.reduceEqDiff, reduceIte, Nat.reduceAdd, Nat.reduceBEq, reduceCtorEq, al66, ap22_22, bs22_1, bs22_2, bs22_5, cv3_5, fa63_0, fa63_1, fa63_2, fa66_0, fa66_1, fa66_2, fa66_3, ix29, ix64, ld3, ld64, ld66, ln29, ln64, st66, lv1, lv2, ki, k4, q6.rd 1 rfl]
      refine st_appB q6 2 0 rfl rfl (bts_len.symm) rfl rfl (by decide) (by omega) fun H7 q7 => ?_
      simp only [List.set_cons_zero, List.set_cons_succ] at q7
      simp -implicitDefEqProofs only [kz, kk0, kk1, kk2, kk3, ↓two_true, ↓two_false, mkv, aggAt, Nat.reduceLeDiff, Nat.reduceSub, Nat.reduceMul, implies_true, Nat.reduceEqDiff, reduceIte, Nat.reduceAdd, Nat.reduceBEq, reduceCtorEq, al66, ap22_22, bs22_1, bs22_2, bs22_5, cv3_5, fa63_0, fa63_1, fa63_2, fa66_0, fa66_1, fa66_2, fa66_3, ix29, ix64, ld3, ld64, ld66, ln29, ln64, st66, lv1, lv2, ki, k4, q7.rd 1 rfl]
      have e5 : bts (pkT l i) ++ [Value.int .u8 (IntKind.u8.wrap op), .int .u8 (IntKind.u8.wrap ia), .int .u8 (IntKind.u8.wrap is), .int .u8 (IntKind.u8.wrap io), .int .u8 (IntKind.u8.wrap iw)] = bts (pkT l i ++ [op, ia, is, io, iw].map IntKind.u8.wrap) := by rw [← bts_app]; rfl
      rw [e5] at q7
      have hWl : (pkT l i ++ [op, ia, is, io, iw].map IntKind.u8.wrap).length = (pkT l i).length + 5 := by simp
      by_cases hop : op = 1
      · subst hop
        have hnm := insOk_nums hio rfl
        simp only [numsOk, inB, Bool.and_eq_true, decide_eq_true_eq] at hnm
        obtain ⟨⟨hm1, hm2⟩, hnum⟩ := hnm
        try simp only at hm1 hm2 hnum
        have hsh := fun (t : TypeId) (p q : Operand) => bin_shr (P := Try.prog) (t := t) (x := p) (y := q) (k := .i64) (k' := .u64) (a := (m.length : Int)) (b := (8 : Int)) (by omega)
        simp only [show (2 : Int) ^ (min ((8 : Int).toNat) IntKind.i64.bits) = 256 by decide] at hsh
        simp -implicitDefEqProofs only [kz, kk0, kk1, kk2, kk3, ↓two_true, ↓two_false, mkv, aggAt, Nat.reduceLeDiff, Nat.reduceSub, Nat.reduceMul, implies_true, Nat.reduceEqDiff, reduceIte, Nat.reduceAdd, Nat.reduceBEq, reduceCtorEq, al66, ap22_22, bs22_1, bs22_2, bs22_5, cv3_5, fa63_0, fa63_1, fa63_2, fa66_0, fa66_1, fa66_2, fa66_3, ix29, ix64, ld3, ld64, ld66, ln29, ln64, st66, lv1, lv2, ki, k4, q7.rd 1 rfl, Int.reduceBEq, hsh]
        refine st_cells q7 fun H8 q8 => ?_
        simp -implicitDefEqProofs only [kz, kk0, kk1, kk2, kk3, ↓two_true, ↓two_false, mkv, aggAt, Nat.reduceLeDiff, Nat.reduceSub, Nat.reduceMul, implies_true, Nat.reduceEqDiff, reduceIte, Nat.reduceAdd, Nat.reduceBEq, reduceCtorEq, al66, ap22_22, bs22_1, bs22_2, bs22_5, cv3_5, fa63_0, fa63_1, fa63_2, fa66_0, fa66_1, fa66_2, fa66_3, ix29, ix64, ld3, ld64, ld66, ln29, ln64, st66, lv1, lv2, ki, k4, q8.rd 2 rfl]
        refine st_appB q8 3 0 rfl rfl (by rw [bts_len, hWl]) rfl rfl (by decide) (by omega) fun H9 q9 => ?_
        simp only [List.set_cons_zero, List.set_cons_succ] at q9
        simp -implicitDefEqProofs only [kz, kk0, kk1, kk2, kk3, ↓two_true, ↓two_false, mkv, aggAt, Nat.reduceLeDiff, Nat.reduceSub, Nat.reduceMul, implies_true, Nat.reduceEqDiff, reduceIte, Nat.reduceAdd, Nat.reduceBEq, reduceCtorEq, al66, ap22_22, bs22_1, bs22_2, bs22_5, cv3_5, fa63_0, fa63_1, fa63_2, fa66_0, fa66_1, fa66_2, fa66_3, ix29, ix64, ld3, ld64, ld66, ln29, ln64, st66, lv1, lv2, ki, k4, q9.rd 2 rfl]
        have e7 : bts (pkT l i ++ [1, ia, is, io, iw].map IntKind.u8.wrap) ++ [Value.int .u8 (IntKind.u8.wrap (m.length : Int)), .int .u8 (IntKind.u8.wrap ((m.length : Int).fdiv 256))] = bts (pkT l i ++ [1, ia, is, io, iw].map IntKind.u8.wrap ++ [IntKind.u8.wrap (m.length : Int), IntKind.u8.wrap ((m.length : Int) / 256)]) := by
          rw [Int.fdiv_eq_ediv_of_nonneg _ (by decide)]
          simp only [← bts_app]
          rfl
        rw [e7] at q9
        have hpI : pkI ⟨1, ia, is, io, iw, m⟩ = [1, ia, is, io, iw].map IntKind.u8.wrap ++ [IntKind.u8.wrap (m.length : Int), IntKind.u8.wrap ((m.length : Int) / 256)] ++ m.flatMap (fun n => le8 (n + 1000000000000)) := by
          unfold pkI; rw [if_pos rfl, List.append_assoc]
        rw [hpI] at hpk
        rw [← List.append_assoc, ← List.append_assoc] at hpk
        generalize hW : pkT l i ++ [1, ia, is, io, iw].map IntKind.u8.wrap ++ [IntKind.u8.wrap (m.length : Int), IntKind.u8.wrap ((m.length : Int) / 256)] = W at *
        have hW2 : W.length = (pkT l i).length + 5 + 2 := by rw [← hW]; simp
        clear hW e7 e5 hpI hsh
        refine rW_loopQ (σ := Nat × Nat) q9 [16, 17, 18, 59, 60] (fun x tm => tm 4 = .slice (some ⟨x.2, 0, none⟩) (W.length + x.1 * 8) 1 ∧ tm 61 = .int .i64 x.1 ∧ x.1 ≤ m.length) (fun x L => L.set 3 (.own (.box x.2 (bts (W ++ (m.take x.1).flatMap fun n => le8 (n + 1000000000000)))))) (fun x => m.length - x.1) (0, H8.length) ⟨by rw [hW2]; rfl, rfl, Nat.zero_le _⟩ (by simp only [List.take_zero, List.flatMap_nil, List.append_nil]; rfl) ?_
        rintro ⟨k, b2⟩ tm2 H10 ⟨mv1, mv2, mv3, mv4, mv5, -⟩ ⟨n4, nk, hkm⟩ q10
        simp -implicitDefEqProofs only [kz, kk0, kk1, kk2, kk3, ↓two_true, ↓two_false, mkv, aggAt, Nat.reduceLeDiff, Nat.reduceSub, Nat.reduceMul, implies_true, Nat.reduceEqDiff, reduceIte, Nat.reduceAdd, Nat.reduceBEq, reduceCtorEq, al66, ap22_22, bs22_1, bs22_2, bs22_5, cv3_5, fa63_0, fa63_1, fa63_2, fa66_0, fa66_1, fa66_2, fa66_3, ix29, ix64, ld3, ld64, ld66, ln29, ln64, st66, lv1, lv2, ki] at mv1 mv2 mv3 mv4 mv5
        simp only at n4 nk hkm
        simp only [List.set_cons_zero, List.set_cons_succ] at q10
        simp -implicitDefEqProofs only [kz, kk0, kk1, kk2, kk3, ↓two_true, ↓two_false, mkv, aggAt, Nat.reduceLeDiff, Nat.reduceSub, Nat.reduceMul, implies_true, Nat.reduceEqDiff, reduceIte, Nat.reduceAdd, Nat.reduceBEq, reduceCtorEq, al66, ap22_22, bs22_1, bs22_2, bs22_5, cv3_5, fa63_0, fa63_1, fa63_2, fa66_0, fa66_1, fa66_2, fa66_3, ix29, ix64, ld3, ld64, ld66, ln29, ln64, st66, mv1, mv2, mv3, mv4, mv5, n4, nk]
        refine two_intro (fun u3 => ?_) (fun u3 => ?_)
        · have hk2 : k < m.length := by have h5 := of_decide_eq_true u3; omega
          have wk : IntKind.i64.wrap ((k : Int) + 1) = ((k + 1 : Nat) : Int) := IntWalk.i64_in ((k : Int) + 1) (by omega)
          obtain ⟨a3, c3, e3, g3⟩ := (hr.ext q10.ext).op
          obtain ⟨b3, o3, cs3, rfl, rfl, fr3, -, fc3⟩ := g3 (by omega)
          simp only [Value.slice.injEq, true_and] at e3
          obtain ⟨rfl, rfl⟩ := e3
          have fc3 := fc3 k hk2
          have hnk := numOk_iff.1 (List.all_eq_true.1 hnum _ (List.getElem_mem hk2))
          simp -implicitDefEqProofs only [kz, kk0, kk1, kk2, kk3, ↓two_true, ↓two_false, mkv, aggAt, Nat.reduceLeDiff, Nat.reduceSub, Nat.reduceMul, implies_true, Nat.reduceEqDiff, reduceIte, Nat.reduceAdd, Nat.reduceBEq, reduceCtorEq, al66, ap22_22, bs22_1, bs22_2, bs22_5, cv3_5, fa63_0, fa63_1, fa63_2, fa66_0, fa66_1, fa66_2, fa66_3, ix29, ix64, ld3, ld64, ld66, ln29, ln64, st66, mv1, mv2, mv3, mv4, mv5, n4, nk, Int.toNat_natCast, Nat.mul_one, fr3, fc3]
          refine ⟨by omega, ?_⟩
          have hlW : (W ++ (m.take k).flatMap fun n => le8 (n + 1000000000000)).length = W.length + k * 8 := by rw [List.length_append, le8s_len, List.length_take, Nat.min_eq_left (by omega)]
          refine (putNum_ok (q10.bx 3 rfl) hlW.symm (by omega) ⟨by omega, by omega⟩).mono ?_
          rintro _ H11 ⟨b4, rfl, ha4, hb4⟩
          have q11 := q10.pushB 3 rfl ha4 hb4
          simp only [List.set_cons_zero, List.set_cons_succ] at q11
          simp -implicitDefEqProofs only [kz, kk0, kk1, kk2, kk3, ↓two_true, ↓two_false, mkv, aggAt, Nat.reduceLeDiff, Nat.reduceSub, Nat.reduceMul, implies_true, Nat.reduceEqDiff, reduceIte, Nat.reduceAdd, Nat.reduceBEq, reduceCtorEq, al66, ap22_22, bs22_1, bs22_2, bs22_5, cv3_5, fa63_0, fa63_1, fa63_2, fa66_0, fa66_1, fa66_2, fa66_3, ix29, ix64, ld3, ld64, ld66, ln29, ln64, st66, mv1, mv2, mv3, mv4, mv5, n4, nk, wk]
          refine ⟨(k + 1, b4), by simp only; omega, ⟨rfl, rfl, rfl, rfl, rfl, trivial⟩, ⟨?_, rfl, hk2⟩, ?_⟩
          · simp only [Nat.add_mul, Nat.one_mul]; rfl
          · simp only [List.set_cons_zero, List.set_cons_succ]
            rw [List.take_succ_eq_append_getElem hk2, List.flatMap_append, List.flatMap_cons, List.flatMap_nil, List.append_nil, ← List.append_assoc]
            exact q11
        · have hkl : k = m.length := by have h5 := of_decide_eq_false u3; omega
          subst hkl
          rw [List.take_length] at q10
          have hlW : (W ++ m.flatMap fun n => le8 (n + 1000000000000)).length = W.length + m.length * 8 := by rw [List.length_append, le8s_len]
          simp -implicitDefEqProofs only [kz, kk0, kk1, kk2, kk3, ↓two_true, ↓two_false, mkv, aggAt, Nat.reduceLeDiff, Nat.reduceSub, Nat.reduceMul, implies_true, Nat.reduceEqDiff, reduceIte, Nat.reduceAdd, Nat.reduceBEq, reduceCtorEq, al66, ap22_22, bs22_1, bs22_2, bs22_5, cv3_5, fa63_0, fa63_1, fa63_2, fa66_0, fa66_1, fa66_2, fa66_3, ix29, ix64, ld3, ld64, ld66, ln29, ln64, st66, mv1, mv2, mv3, mv4, mv5, n4, nk, wi]
          refine ⟨(i + 1, b2), by simp only; omega, ⟨?_, ?_, trivial⟩, ⟨?_, rfl, hlt⟩, ?_⟩
          · first | rfl | exact mv1.trans lv1.symm
          · first | rfl | exact mv2.trans lv2.symm
          · rw [hpk, hlW]
          · simp only
            rw [hpk]
            exact q10.pick [3] _ rfl (by decide)
      · have ho1 : (op == 1) = false := beq_eq_false_iff_ne.2 hop
        simp -implicitDefEqProofs only [kz, kk0, kk1, kk2, kk3, ↓two_true, ↓two_false, mkv, aggAt, Nat.reduceLeDiff, Nat.reduceSub, Nat.reduceMul, implies_true, Nat.reduceEqDiff, reduceIte, Nat.reduceAdd, Nat.reduceBEq, reduceCtorEq, al66, ap22_22, bs22_1, bs22_2, bs22_5, cv3_5, fa63_0, fa63_1, fa63_2, fa66_0, fa66_1, fa66_2, fa66_3, ix29, ix64, ld3, ld64, ld66, ln29, ln64, st66, lv1, lv2, ki, k4, ho1, wi]
        have hpI : pkI ⟨op, ia, is, io, iw, m⟩ = [op, ia, is, io, iw].map IntKind.u8.wrap := by unfold pkI; rw [if_neg hop, List.append_nil]
        refine ⟨(i + 1, H6.length), by simp only; omega, ⟨rfl, rfl, trivial⟩, ⟨?_, rfl, hlt⟩, ?_⟩
        · rw [hpk, hpI, hWl]
        · simp only
          rw [hpk, hpI]
          exact q7.pick [2] _ rfl (by decide)
    · have hil : i = n := by have h5 := of_decide_eq_false u2; omega
      subst hil
      have hpg : pkT l l.length = pkG l := by unfold pkT pkG; rw [List.take_length]
      rw [hll] at hpg
      rw [hpg] at q3
      rw [hk, hpg]
      have hA : pkA l = pkG l := by unfold pkA; rw [if_pos hk]
      rw [hA]
      exact ⟨⟨_, rfl, .inr ⟨bo, rfl, q3.bxlt 0 rfl, q3.bx 0 rfl⟩⟩, q3.ext⟩

theorem pkA_len {l : List Ins} : (pkA l).length ≤ 144421 := by
  unfold pkA
  split
  · rename_i h
    unfold cdOk at h
    simp only [Bool.and_eq_true, inB, decide_eq_true_eq] at h
    have h1 := pkT_len h.2.1 (i := l.length)
    have : pkT l l.length = pkG l := by unfold pkT pkG; rw [List.take_length]
    rw [this] at h1
    omega
  · simp

def orI (k : IntKind) (a b : Int) : Int := k.wrap ((BitVec.ofInt k.bits a ||| BitVec.ofInt k.bits b).toNat : Int)
theorem bin_or {P : Program} {t : TypeId} {x y : Operand} {k : IntKind} {a b : Int} : aBin P .or t x y (.int k a) (.int k b) = some (.int k (orI k a b)) := by
  simp [aBin, scal, scal1, eqGuard, binOp, Op.intBits, runP, told, pure, bind, Sem.bind, orI]
theorem bin_shl {P : Program} {t : TypeId} {x y : Operand} {k k' : IntKind} {a b : Int} (h : ¬ b < 0) : aBin P .shl t x y (.int k a) (.int k' b) = some (.int k (k.wrap (a * 2 ^ (min b.toNat k.bits)))) := by
  simp [aBin, scal, scal1, eqGuard, binOp, Op.shift, runP, told, pure, bind, Sem.bind, h]
theorem or_add {a b i : Nat} (h : b < 2 ^ i) (hs : 2 ^ i * a + b < 2 ^ 64) : (BitVec.ofInt 64 ((2 ^ i * a : Nat) : Int) ||| BitVec.ofInt 64 (b : Int)).toNat = 2 ^ i * a + b := by
  rw [BitVec.toNat_or, BitVec.ofInt_natCast, BitVec.ofInt_natCast, BitVec.toNat_ofNat, BitVec.toNat_ofNat, Nat.mod_eq_of_lt (by omega), Nat.mod_eq_of_lt (by omega), Nat.two_pow_add_eq_or_of_lt h]
theorem u64_in {x : Int} (h : 0 ≤ x ∧ x < 18446744073709551616) : IntKind.u64.wrap x = x := by
  unfold IntKind.wrap
  have e1 : IntKind.u64.signed = false := rfl
  have e2 : (2 : Int) ^ IntKind.u64.bits = 18446744073709551616 := by decide
  rw [e1, e2, if_neg (by simp)]
  omega
/-- A number of k bytes, the lowest first; what is not there is nought. -/
def loF : Nat → List Int → Int
  | 0, _ => 0
  | k + 1, r => r.headD 0 + 256 * loF k r.tail
/-- The numbers of a row of bytes. -/
def byOk (l : List Int) : Prop := ∀ x ∈ l, 0 ≤ x ∧ x ≤ 255
theorem byOk.tail {l : List Int} (h : byOk l) : byOk l.tail := fun x hx => h x (List.mem_of_mem_tail hx)
theorem byOk.drop {l : List Int} (h : byOk l) (k : Nat) : byOk (l.drop k) := fun x hx => h x (List.mem_of_mem_drop hx)
theorem byOk.head {l : List Int} (h : byOk l) : 0 ≤ l.headD 0 ∧ l.headD 0 ≤ 255 := by
  cases l with
  | nil => simp
  | cons x t => exact h x (List.mem_cons_self ..)
theorem loF_nn : ∀ {k : Nat} {r : List Int}, byOk r → 0 ≤ loF k r ∧ loF k r < 256 ^ k
  | 0, _, _ => by simp [loF]
  | k + 1, r, h => by
    have h1 := h.head
    have h2 := loF_nn (k := k) h.tail
    simp only [loF]
    rw [Int.pow_succ]
    omega
theorem loF_snoc : ∀ {k : Nat} {r : List Int}, loF (k + 1) r = loF k r + 256 ^ k * (r.drop k).headD 0
  | 0, r => by simp [loF]
  | k + 1, r => by
    have ih := loF_snoc (k := k) (r := r.tail)
    rw [loF, ih, loF, List.drop_tail, Int.pow_succ, Int.mul_add, ← Int.mul_assoc, Int.mul_comm 256 (256 ^ k), Int.add_assoc]
def rdNums (f : Int → Option Int) : Nat → List Int → Option (List Int × List Int)
  | 0, r => some ([], r)
  | k + 1, r => if r.length < 8 then none else match f (loF 8 r) with
    | none => none
    | some y => (rdNums f k (r.drop 8)).map fun z => (y :: z.1, z.2)
def rdIns (f : Int → Option Int) (r : List Int) : Option (List CV × List Int) :=
  if r.length < 5 then none
  else if r.headD 0 = 1 then
    (if r.length < 7 then none else (rdNums f (loF 2 (r.drop 5)).toNat (r.drop 7)).map fun z => ([.i (r.headD 0), .i (r.tail.headD 0), .i (r.tail.tail.headD 0), .i (r.tail.tail.tail.headD 0), .i (r.tail.tail.tail.tail.headD 0), .r z.1], z.2))
  else some ([.i (r.headD 0), .i (r.tail.headD 0), .i (r.tail.tail.headD 0), .i (r.tail.tail.tail.headD 0), .i (r.tail.tail.tail.tail.headD 0), .r []], r.drop 5)
def rdAll (f : Int → Option Int) : Nat → List Int → Option (List CV × List Int)
  | 0, r => some ([], r)
  | k + 1, r => match rdIns f r with
    | none => none
    | some z => (rdAll f k z.2).map fun w => (z.1 ++ w.1, w.2)
set_option maxHeartbeats 4000000 in
theorem rdAll_ok {f : Int → Option Int} {r r' : List Int} {cs V : List CV} {k : Nat} (h : rdIns f r = some (cs, r')) : (rdAll f (k + 1) r).map (fun w => (V ++ w.1, w.2)) = (rdAll f k r').map fun w => ((V ++ cs) ++ w.1, w.2) := by
  rw [rdAll, h]
  simp only [Option.map_map]
  congr 1
  funext w
  simp
theorem rdAll_bad {f : Int → Option Int} {r : List Int} {k : Nat} (h : rdIns f r = none) : rdAll f (k + 1) r = none := by
  rw [rdAll, h]
/-- How impl and spec take a number. -/
def nfI (y : Int) : Option Int := if y > 2000000000000 then none else some (y - 1000000000000)
theorem ByRow.tl {H : AH} {v : Value} {x : Int} {t : List Int} (h : ByRow H v (x :: t)) : ∃ b o, v = .slice (some ⟨b, o, none⟩) (t.length + 1) 1 ∧ ByRow H (.slice (some ⟨b, o + 1, none⟩) t.length 1) t := by
  rcases h with ⟨_, h2⟩ | ⟨b, o, cs, rfl, h1, h2, h3⟩
  · cases h2
  · refine ⟨b, o, rfl, .inr ⟨b, o + 1, cs, rfl, h1, by simp at h2; omega, ?_⟩⟩
    have h4 : (cs.drop o).take (t.length + 1) = .int .u8 x :: bts t := h3
    have h5 := congrArg (fun l => l.drop 1) h4
    simp only [List.drop_take, List.drop_drop, List.drop_succ_cons, List.drop_zero] at h5
    exact h5
structure RdSt (H : AH) (rb : Nat) (sl : Value) (bad : Bool) (r : List Int) : Prop where
  bx : H[rb]? = some ⟨[sl, .bool bad], .own⟩
  row : ByRow H sl r
  ne : blkOf sl ≠ some rb
structure Adv (H H' : AH) (rb : Nat) (sl : Value) (r : List Int) (sl' : Value) (bad' : Bool) (r' : List Int) : Prop where
  eq : H' = H.set rb ⟨[sl', .bool bad'], .own⟩
  row : ∀ G, ByRow G sl r → ByRow G sl' r'
  ne : blkOf sl ≠ some rb → blkOf sl' ≠ some rb
theorem Adv.st {H H' : AH} {rb : Nat} {sl sl' : Value} {bad bad' : Bool} {r r' : List Int} (a : Adv H H' rb sl r sl' bad' r') (h : RdSt H rb sl bad r) : RdSt H' rb sl' bad' r' := by
  have hl := (List.getElem?_eq_some_iff.1 h.bx).1
  have hn := a.ne h.ne
  refine ⟨by rw [a.eq, List.getElem?_set_self hl], (a.row H h.row).same fun b hb => ?_, hn⟩
  have : rb ≠ b := by rintro rfl; exact hn hb
  unfold rd
  rw [a.eq, List.getElem?_set_ne this]
theorem Adv.trans {H H1 H2 : AH} {rb : Nat} {sl sl1 sl2 : Value} {b1 b2 : Bool} {r r1 r2 : List Int} (a : Adv H H1 rb sl r sl1 b1 r1) (b : Adv H1 H2 rb sl1 r1 sl2 b2 r2) : Adv H H2 rb sl r sl2 b2 r2 :=
  ⟨by rw [b.eq, a.eq, list_set_set], fun G h => b.row G (a.row G h), fun h => b.ne (a.ne h)⟩

set_option maxHeartbeats 4000000 in
theorem rdOne_ok {H : AH} {rb : Nat} {sl : Value} {bad : Bool} {r : List Int} (h : RdSt H rb sl bad r) (hy : byOk r) (hl : r.length ≤ 1048576) :
    CallsA Try.prog 43 #[.pointer (some ⟨rb, 0, none⟩)] H fun res H' => ∃ sl', res = .int .i64 (r.headD 0) ∧ Adv H H' rb sl r sl' (bad || r.isEmpty) r.tail := by
  obtain ⟨hb, hr, hne⟩ := h
  obtain ⟨a, c, rfl, g⟩ := hr.op
  refine w43 ?_
  unfold k43
  simp -implicitDefEqProofs only [kz, kk0, kk1, kk2, kk3, ↓two_true, ↓two_false, oS_some, oM_some, mkv, aggAt, Nat.reduceLeDiff, Nat.reduceSub, Nat.reduceMul, implies_true, Nat.reduceEqDiff, reduceIte, Nat.reduceAdd, Nat.reduceBEq, reduceCtorEq, cv5_3, fa71_0, fa71_1, ix22, ld5, ld22, ln22, sn22, sl22, st4, st22, rd_own hb, wrt_own hb]
  refine two_intro (fun u => ?_) (fun u => ?_)
  · have h0 : r.length = 0 := by simpa using u
    obtain rfl : r = [] := List.eq_nil_of_length_eq_zero h0
    simp -implicitDefEqProofs only [kz, kk0, kk1, kk2, kk3, ↓two_true, ↓two_false, oS_some, oM_some, mkv, aggAt, Nat.reduceLeDiff, Nat.reduceSub, Nat.reduceMul, implies_true, Nat.reduceEqDiff, reduceIte, Nat.reduceAdd, Nat.reduceBEq, reduceCtorEq, cv5_3, fa71_0, fa71_1, ix22, ld5, ld22, ln22, sn22, sl22, st4, st22, rd_own hb, wrt_own hb]
    refine ⟨_, rfl, ?_, fun G h => h, fun h => h⟩
    simp
  · have h0 : r.length ≠ 0 := by simpa using u
    cases r with
    | nil => exact absurd rfl h0
    | cons x t =>
      obtain ⟨b, o, cs, rfl, rfl, hrd, hle, hcell⟩ := g (by simp)
      have hc := hcell 0 (by simp)
      simp only [List.getElem_cons_zero, Nat.add_zero] at hc
      have hx := hy x (List.mem_cons_self ..)
      have wx : IntKind.i64.wrap x = x := IntWalk.i64_in _ (by omega)
      have z0 : Int.toNat 0 = 0 := rfl
      have z1 : Int.toNat 1 = 1 := rfl
      have g0 : (0 : Int) ≤ 0 ∧ (0 : Int) < ((t.length + 1 : Nat) : Int) := by omega
      have g1 : (0 : Int) ≤ 1 ∧ (1 : Int) ≤ ((t.length + 1 : Nat) : Int) ∧ ((t.length + 1 : Nat) : Int) ≤ ((t.length + 1 : Nat) : Int) := by omega
      simp -implicitDefEqProofs only [kz, kk0, kk1, kk2, kk3, ↓two_true, ↓two_false, oS_some, oM_some, mkv, aggAt, Nat.reduceLeDiff, Nat.reduceSub, Nat.reduceMul, implies_true, Nat.reduceEqDiff, reduceIte, Nat.reduceAdd, Nat.reduceBEq, reduceCtorEq, cv5_3, fa71_0, fa71_1, ix22, ld5, ld22, ln22, sn22, sl22, st4, st22, rd_own hb, wrt_own hb, hrd, hc, wx, z0, z1, Nat.zero_mul, Nat.one_mul, Int.toNat_natCast, Nat.add_sub_cancel, if_pos g0, if_pos g1]
      refine ⟨.slice (some ⟨b, o + 1, none⟩) t.length 1, rfl, ⟨by simp, fun G hG => ?_, fun h e => h (by simpa [blkOf] using e)⟩⟩
      obtain ⟨b', o', e, h2⟩ := hG.tl
      simp only [List.length_cons, Value.slice.injEq, Option.some.injEq, Addr.mk.injEq] at e
      obtain ⟨⟨rfl, rfl, _⟩, _⟩ := e
      exact h2

set_option maxHeartbeats 4000000 in
theorem rdTwo_ok {H : AH} {rb : Nat} {sl : Value} {bad : Bool} {r : List Int} (h : RdSt H rb sl bad r) (hy : byOk r) (hl : r.length ≤ 1048576) :
    CallsA Try.prog 44 #[.pointer (some ⟨rb, 0, none⟩)] H fun res H' => ∃ sl', res = .int .i64 (loF 2 r) ∧ Adv H H' rb sl r sl' (bad || decide (r.length < 2)) (r.drop 2) := by
  refine w44 ?_
  unfold k44
  simp -implicitDefEqProofs only [kz, kk0, kk1, kk2, kk3, ↓two_true, ↓two_false, mkv, aggAt, Nat.reduceLeDiff, Nat.reduceSub, Nat.reduceMul, implies_true, Nat.reduceEqDiff, reduceIte, Nat.reduceAdd, Nat.reduceBEq, reduceCtorEq]
  refine (rdOne_ok h hy hl).mono ?_
  rintro _ H1 ⟨sl1, rfl, a1⟩
  have h1 := a1.st h
  simp -implicitDefEqProofs only [kz, kk0, kk1, kk2, kk3, ↓two_true, ↓two_false, mkv, aggAt, Nat.reduceLeDiff, Nat.reduceSub, Nat.reduceMul, implies_true, Nat.reduceEqDiff, reduceIte, Nat.reduceAdd, Nat.reduceBEq, reduceCtorEq]
  refine (rdOne_ok h1 hy.tail (by simp; omega)).mono ?_
  rintro _ H2 ⟨sl2, rfl, a2⟩
  have e1 := hy.head
  have e2 := hy.tail.head
  have w1 : IntKind.i64.wrap (256 * r.tail.headD 0) = 256 * r.tail.headD 0 := IntWalk.i64_in _ (by omega)
  have w2 : IntKind.i64.wrap (r.headD 0 + 256 * r.tail.headD 0) = r.headD 0 + 256 * r.tail.headD 0 := IntWalk.i64_in _ (by omega)
  simp -implicitDefEqProofs only [kz, kk0, kk1, kk2, kk3, ↓two_true, ↓two_false, mkv, aggAt, Nat.reduceLeDiff, Nat.reduceSub, Nat.reduceMul, implies_true, Nat.reduceEqDiff, reduceIte, Nat.reduceAdd, Nat.reduceBEq, reduceCtorEq, w1, w2]
  refine ⟨sl2, by simp [loF], ?_⟩
  have a3 := a1.trans a2
  have eb : (bad || r.isEmpty || r.tail.isEmpty) = (bad || decide (r.length < 2)) := by
    match r with
    | [] => simp
    | [x] => simp
    | x :: y :: t => simp; omega
  rw [eb] at a3
  have : r.drop 2 = r.tail.tail := by
    match r with
    | [] => rfl
    | [x] => rfl
    | x :: y :: t => rfl
  rw [this]
  exact a3

set_option maxHeartbeats 4000000 in
theorem rdNum_ok {H : AH} {rb : Nat} {sl : Value} {bad : Bool} {r : List Int} (h : RdSt H rb sl bad r) (hy : byOk r) (hl : r.length ≤ 1048576) :
    CallsA Try.prog 45 #[.pointer (some ⟨rb, 0, none⟩)] H fun res H' => ∃ sl', res = .int .i64 ((nfI (loF 8 r)).getD 0) ∧ Adv H H' rb sl r sl' (bad || decide (r.length < 8) || (nfI (loF 8 r)).isNone) (r.drop 8) := by
  refine w45 ?_
  unfold k45
  simp -implicitDefEqProofs only [kz, kk0, kk1, kk2, kk3, ↓two_true, ↓two_false, mkv, aggAt, Nat.reduceLeDiff, Nat.reduceSub, Nat.reduceMul, implies_true, Nat.reduceEqDiff, reduceIte, Nat.reduceAdd, Nat.reduceBEq, reduceCtorEq, cv3_101, cv101_3, fa71_1, st4]
  refine rW_loop (σ := Nat × Value) (fun x tm H' => tm 0 = .pointer (some ⟨rb, 0, none⟩) ∧ tm 3 = .int .u64 (loF x.1 r) ∧ tm 4 = .int .i64 x.1 ∧ x.1 ≤ 8 ∧ Adv H H' rb sl r x.2 (bad || decide (r.length < x.1)) (r.drop x.1)) (fun x => 8 - x.1) (0, sl) ?_ ?_
  · refine ⟨?_, ?_, ?_, Nat.zero_le _, ⟨?_, fun G h => h, fun h => h⟩⟩
    · simp -implicitDefEqProofs [kk0, kk1, kk2, kk3, rW_block, ↓two_true, ↓two_false, rW_cond, rO_guard, oS_some, oM_some, mkv, aggAt, Nat.reduceLeDiff, Nat.reduceSub, Nat.reduceMul, cond_true, cond_false, Option.bind_some, List.length_append, List.length_cons, List.length_nil, List.append_assoc, List.cons_append, List.nil_append, List.set_cons_zero, List.set_cons_succ, List.size_toArray, List.all_cons, List.all_nil, List.drop_zero, List.drop_succ_cons, List.take_succ_cons, List.take_zero, List.mem_cons, Prod.mk.injEq, List.not_mem_nil, implies_true, List.getElem?_toArray, List.getElem?_cons_zero, List.getElem?_cons_succ, List.getElem?_nil, Option.getD_some, Option.getD_none, Nat.reduceEqDiff, reduceIte, Nat.reduceAdd, List.map_toArray, List.map_cons, List.map_nil, Bool.false_eq_true, Nat.reduceBEq, Option.map_some, Option.map_none, reduceCtorEq, cv3_101, cv101_3, fa71_1, st4]
    · simp -implicitDefEqProofs [kk0, kk1, kk2, kk3, rW_block, ↓two_true, ↓two_false, rW_cond, rO_guard, oS_some, oM_some, mkv, aggAt, Nat.reduceLeDiff, Nat.reduceSub, Nat.reduceMul, cond_true, cond_false, Option.bind_some, List.length_append, List.length_cons, List.length_nil, List.append_assoc, List.cons_append, List.nil_append, List.set_cons_zero, List.set_cons_succ, List.size_toArray, List.all_cons, List.all_nil, List.drop_zero, List.drop_succ_cons, List.take_succ_cons, List.take_zero, List.mem_cons, Prod.mk.injEq, List.not_mem_nil, implies_true, List.getElem?_toArray, List.getElem?_cons_zero, List.getElem?_cons_succ, List.getElem?_nil, Option.getD_some, Option.getD_none, Nat.reduceEqDiff, reduceIte, Nat.reduceAdd, List.map_toArray, List.map_cons, List.map_nil, Bool.false_eq_true, Nat.reduceBEq, Option.map_some, Option.map_none, reduceCtorEq, cv3_101, cv101_3, fa71_1, st4, loF]
    · simp -implicitDefEqProofs [kk0, kk1, kk2, kk3, rW_block, ↓two_true, ↓two_false, rW_cond, rO_guard, oS_some, oM_some, mkv, aggAt, Nat.reduceLeDiff, Nat.reduceSub, Nat.reduceMul, cond_true, cond_false, Option.bind_some, List.length_append, List.length_cons, List.length_nil, List.append_assoc, List.cons_append, List.nil_append, List.set_cons_zero, List.set_cons_succ, List.size_toArray, List.all_cons, List.all_nil, List.drop_zero, List.drop_succ_cons, List.take_succ_cons, List.take_zero, List.mem_cons, Prod.mk.injEq, List.not_mem_nil, implies_true, List.getElem?_toArray, List.getElem?_cons_zero, List.getElem?_cons_succ, List.getElem?_nil, Option.getD_some, Option.getD_none, Nat.reduceEqDiff, reduceIte, Nat.reduceAdd, List.map_toArray, List.map_cons, List.map_nil, Bool.false_eq_true, Nat.reduceBEq, Option.map_some, Option.map_none, reduceCtorEq, cv3_101, cv101_3, fa71_1, st4]
    · have hlt := (List.getElem?_eq_some_iff.1 h.bx).1
      refine List.ext_getElem? fun k => ?_
      by_cases e : rb = k
      · subst e; rw [List.getElem?_set_self hlt, h.bx]; simp
      · rw [List.getElem?_set_ne e]
  · rintro ⟨i, sl1⟩ tm H1 ⟨h0, h3, h4, hi, a1⟩
    simp only at h0 h3 h4 hi a1
    have h1 := a1.st h
    simp -implicitDefEqProofs only [kz, kk0, kk1, kk2, kk3, ↓two_true, ↓two_false, mkv, aggAt, Nat.reduceLeDiff, Nat.reduceSub, Nat.reduceMul, implies_true, Nat.reduceEqDiff, reduceIte, Nat.reduceAdd, Nat.reduceBEq, reduceCtorEq, cv3_101, cv101_3, fa71_1, st4, h0, h3, h4]
    refine two_intro (fun u => ?_) (fun u => ?_)
    · have hi2 : i < 8 := by have h5 := of_decide_eq_true u; omega
      have wi : IntKind.i64.wrap ((i : Int) + 1) = ((i + 1 : Nat) : Int) := IntWalk.i64_in ((i : Int) + 1) (by omega)
      have w8 : IntKind.i64.wrap ((8 : Int) * (i : Int)) = (8 : Int) * (i : Int) := IntWalk.i64_in _ (by omega)
      try simp -implicitDefEqProofs only [kz, kk0, kk1, kk2, kk3, ↓two_true, ↓two_false, mkv, aggAt, Nat.reduceLeDiff, Nat.reduceSub, Nat.reduceMul, implies_true, Nat.reduceEqDiff, reduceIte, Nat.reduceAdd, Nat.reduceBEq, reduceCtorEq, cv3_101, cv101_3, fa71_1, st4, h0, h3, h4]
      refine (rdOne_ok h1 (hy.drop i) (by simp; omega)).mono ?_
      rintro _ H2 ⟨sl2, rfl, a2⟩
      have hx := (hy.drop i).head
      have wx : IntKind.u64.wrap ((r.drop i).headD 0) = (r.drop i).headD 0 := u64_in (by omega)
      obtain ⟨n1, n2⟩ := loF_nn (k := i) hy
      obtain ⟨n3, n4⟩ := loF_nn (k := i + 1) hy
      have es := loF_snoc (k := i) (r := r)
      have hsh := fun (t : TypeId) (p q : Operand) => bin_shl (P := Try.prog) (t := t) (x := p) (y := q) (k := .u64) (k' := .i64) (a := (r.drop i).headD 0) (b := (8 : Int) * (i : Int)) (by omega)
      have e28 : (2 : Int) ^ (min (((8 : Int) * (i : Int)).toNat) IntKind.u64.bits) = 256 ^ i := by
        rw [show ((8 : Int) * (i : Int)).toNat = 8 * i by omega, Nat.min_eq_left (by show 8 * i ≤ 64; omega), Int.pow_mul]; rfl
      have hmul : (r.drop i).headD 0 * 256 ^ i = 256 ^ i * (r.drop i).headD 0 := Int.mul_comm _ _
      have hbig : (256 : Int) ^ (i + 1) ≤ 18446744073709551616 := by
        have : i = 0 ∨ i = 1 ∨ i = 2 ∨ i = 3 ∨ i = 4 ∨ i = 5 ∨ i = 6 ∨ i = 7 := by omega
        rcases this with rfl | rfl | rfl | rfl | rfl | rfl | rfl | rfl <;> decide
      have hm0 : 0 ≤ 256 ^ i * (r.drop i).headD 0 := Int.mul_nonneg (Int.le_of_lt (Int.pow_pos (by decide))) hx.1
      have wsh : IntKind.u64.wrap ((r.drop i).headD 0 * 256 ^ i) = 256 ^ i * (r.drop i).headD 0 := by rw [hmul]; exact u64_in ⟨hm0, by omega⟩
      simp only [e28, wsh] at hsh
      have hor : orI .u64 (loF i r) (256 ^ i * (r.drop i).headD 0) = loF (i + 1) r := by
        obtain ⟨A, hA⟩ : ∃ A : Nat, loF i r = A := ⟨(loF i r).toNat, by omega⟩
        obtain ⟨D, hD⟩ : ∃ D : Nat, (r.drop i).headD 0 = D := ⟨((r.drop i).headD 0).toNat, by omega⟩
        have ep : (256 : Int) ^ i = ((2 ^ (8 * i) : Nat) : Int) := by rw [Nat.pow_mul]; simp
        have eb : (256 : Int) ^ i * (r.drop i).headD 0 = ((2 ^ (8 * i) * D : Nat) : Int) := by rw [hD, ep, Int.natCast_mul]
        have hA2 : A < 2 ^ (8 * i) := by rw [hA, ep] at n2; omega
        have hs : 2 ^ (8 * i) * D + A < 2 ^ 64 := by
          rw [es, hA, eb] at n4
          have : (2 : Nat) ^ 64 = 18446744073709551616 := by decide
          omega
        rw [eb, hA]
        have ho := or_add hA2 hs
        unfold orI
        show IntKind.u64.wrap ((BitVec.ofInt 64 (A : Int) ||| BitVec.ofInt 64 ((2 ^ (8 * i) * D : Nat) : Int)).toNat : Int) = _
        have h64 : (2 : Nat) ^ 64 = 18446744073709551616 := by decide
        have hu : IntKind.u64.wrap ((2 ^ (8 * i) * D + A : Nat) : Int) = ((2 ^ (8 * i) * D + A : Nat) : Int) := u64_in ⟨by omega, by omega⟩
        rw [BitVec.or_comm, ho, hu, es, hA, eb]
        omega
      simp -implicitDefEqProofs only [kz, kk0, kk1, kk2, kk3, ↓two_true, ↓two_false, mkv, aggAt, Nat.reduceLeDiff, Nat.reduceSub, Nat.reduceMul, implies_true, Nat.reduceEqDiff, reduceIte, Nat.reduceAdd, Nat.reduceBEq, reduceCtorEq, cv3_101, cv101_3, fa71_1, st4, h0, h3, h4, wi, w8, wx, hsh, bin_or, hor]
      have eb : (bad || decide (r.length < i) || (r.drop i).isEmpty) = (bad || decide (r.length < i + 1)) := by
        rw [Bool.or_assoc]
        congr 1
        rw [Bool.eq_iff_iff]
        simp
        omega
      have a3 := a1.trans a2
      rw [eb, List.tail_drop] at a3
      exact ⟨(i + 1, sl2), by simp only; omega, rfl, rfl, hi2, a3⟩
    · have hi2 : i = 8 := by have h5 := of_decide_eq_false u; omega
      subst hi2
      obtain ⟨n1, n2⟩ := loF_nn (k := 8) hy
      try simp -implicitDefEqProofs only [kz, kk0, kk1, kk2, kk3, ↓two_true, ↓two_false, mkv, aggAt, Nat.reduceLeDiff, Nat.reduceSub, Nat.reduceMul, implies_true, Nat.reduceEqDiff, reduceIte, Nat.reduceAdd, Nat.reduceBEq, reduceCtorEq, cv3_101, cv101_3, fa71_1, st4, h0, h3, h4, wrt_own h1.bx]
      refine two_intro (fun u2 => ?_) (fun u2 => ?_)
      · have hg : loF 8 r > 2000000000000 := of_decide_eq_true u2
        have en : nfI (loF 8 r) = none := by unfold nfI; rw [if_pos hg]
        rw [en]
        try simp -implicitDefEqProofs only [kz, kk0, kk1, kk2, kk3, ↓two_true, ↓two_false, oS_some, oM_some, mkv, aggAt, Nat.reduceLeDiff, Nat.reduceSub, Nat.reduceMul, implies_true, Nat.reduceEqDiff, reduceIte, Nat.reduceAdd, Nat.reduceBEq, reduceCtorEq, cv3_101, cv101_3, fa71_1, st4, h0, h3, h4, wrt_own h1.bx]
        refine ⟨sl1, ?_⟩
        have a2 : Adv H1 (H1.set rb ⟨[sl1, .bool true], .own⟩) rb sl1 (r.drop 8) sl1 true (r.drop 8) := ⟨rfl, fun G h => h, fun h => h⟩
        have a3 := a1.trans a2
        simpa using a3
      · have hg : ¬ loF 8 r > 2000000000000 := of_decide_eq_false u2
        have en : nfI (loF 8 r) = some (loF 8 r - 1000000000000) := by unfold nfI; rw [if_neg hg]
        rw [en]
        have w1 : IntKind.i64.wrap (loF 8 r) = loF 8 r := IntWalk.i64_in _ (by omega)
        have w2 : IntKind.i64.wrap (loF 8 r - 1000000000000) = loF 8 r - 1000000000000 := IntWalk.i64_in _ (by omega)
        simp -implicitDefEqProofs only [kz, kk0, kk1, kk2, kk3, ↓two_true, ↓two_false, mkv, aggAt, Nat.reduceLeDiff, Nat.reduceSub, Nat.reduceMul, implies_true, Nat.reduceEqDiff, reduceIte, Nat.reduceAdd, Nat.reduceBEq, reduceCtorEq, cv3_101, cv101_3, fa71_1, st4, h0, h3, h4, w1, w2]
        exact ⟨sl1, by simpa using a1⟩

theorem LB.ins {B : Nat → Prop} {c : Option Nat} {H0 H : AH} {L : List Ix} {x : Ix} (h : LB B c H0 H L) (hx : x.ok B H) (hb : ∀ b, x.bs b → ¬ B b ∧ H0.length ≤ b ∧ (∀ (i : Nat) y, L[i]? = some y → ¬ y.bs b) ∧ ∀ cb, c = some cb → cb ≠ b) : LB B c H0 H (x :: L) := by
  refine ⟨?_, ?_, ?_, h.len, h.keep, h.b0, h.bl, h.cur, ?_⟩
  · rintro (_ | i) y hy
    · cases hy; exact hx
    · exact h.ok i y hy
  · rintro (_ | i) y hy b hb2
    · cases hy; exact ⟨(hb b hb2).1, (hb b hb2).2.1⟩
    · exact h.fr i y hy b hb2
  · rintro (_ | i) (_ | j) y z hne hy hz b e1 e2
    · exact hne rfl
    · cases hy; exact (hb b e1).2.2.1 j z hz e2
    · cases hz; exact (hb b e2).2.2.1 i y hy e1
    · exact h.dj i j y z (by omega) hy hz b e1 e2
  · rintro cb e (_ | i) y hy h2
    · cases hy; exact (hb cb h2).2.2.2 cb e rfl
    · exact h.nc cb e i y hy h2
/-- A new element of a table that is held; the row of numbers in it is held no more by itself. -/
theorem st_insC {c : Option Nat} {H0 H : AH} {L' : List Ix} {v p : Value} {ks : List CK} {n s : Nat} {xs x : List Value} {V : List CV} {m : List Int} {Φ : Value → AH → Prop} (hs : ks.length = s)
    (q : LX c H0 H (.own (.cmp (.row v ks n xs) V) :: .own (.row p m) :: L')) (hx : All2 H ks x) (ho : ∀ y ∈ x, OwnC H y) (hdj : x.Pairwise Dj) (hp : ∀ y ∈ x, ∀ b, blkOf y = some b → blkOf p = some b) (hl : n + 1 ≤ 1073741824)
    (hk : ∀ b H', LX c H0 H' (.own (.cmp (.row (.slice (some ⟨b, 0, none⟩) (n + 1) s) ks (n + 1) (xs ++ x)) (V ++ x.map (cv H))) :: L') → Φ (.slice (some ⟨b, 0, none⟩) (n + 1) s) H') :
    oA (app s v (.slice (some ⟨H.length, 0, none⟩) 1 s) (H ++ [⟨x, .own⟩])) Φ := by
  subst hs
  obtain ⟨B, h⟩ := q
  obtain ⟨ht, hv⟩ := h.ok 0 _ rfl
  have ht : OT H v ks n xs := ht
  have hv : cvs H xs = V := hv
  have hpt : ∀ b, blkOf p = some b → ¬ (Comp.row v ks n xs).bs b := fun b hb hb2 => h.dj 1 0 _ _ (by omega) rfl rfl b hb hb2
  have hxv : ∀ y ∈ x, Dj v y := fun y hy b hb hb2 => hpt b (hp y hy b hb2) (.inl hb)
  have hxx : ∀ y ∈ x, ∀ z ∈ xs, Dj y z := fun y hy z hz b hb hb2 => hpt b (hp y hy b hb) (.inr ⟨z, hz, hb2⟩)
  refine oA_push ht.fown hx hxv hl fun b H' f a hc hb => hk b H' ?_
  have hlen := a.len
  have h1 := h.upd (H' := H') (x' := .own (.row (.slice none 0 0) [])) 0 rfl a.len (fun g hg hn => a.keep g hg (fun e => hn (.inl e))) OwnRow.nil (fun g hg => by simp [Ix.bs, It.bs, blkOf] at hg)
  have h2 : LB B c H0 H' L' := h1.tail.tail
  have hT : OT H' (.slice (some ⟨b, 0, none⟩) (n + 1) ks.length) ks (n + 1) (xs ++ x) := by
    refine OT.of f ?_ ?_
    · intro j y hy
      have hmem := List.mem_of_getElem? hy
      have hold : OwnC H y := by
        rcases List.mem_append.1 hmem with h1 | h1
        · obtain ⟨i, hi⟩ := List.mem_iff_getElem?.1 h1
          exact ht.own i y hi
        · exact ho y h1
      refine hold.same fun g hg => a.keep g (hold.lt g hg) fun e => ?_
      rcases List.mem_append.1 hmem with h1 | h1
      · obtain ⟨i, hi⟩ := List.mem_iff_getElem?.1 h1
        exact ht.out i y hi g e hg
      · exact hxv y h1 g e hg
    · intro i j y z hij hy hz
      rw [List.getElem?_append] at hy hz
      split at hy <;> split at hz
      · exact ht.dif i j y z hij hy hz
      · exact (hxx z (List.mem_of_getElem? hz) y (List.mem_of_getElem? hy)).symm
      · exact hxx y (List.mem_of_getElem? hy) z (List.mem_of_getElem? hz)
      · exact pw_get hdj _ _ y z (by omega) hy hz
  have hV : cvs H' (xs ++ x) = V ++ x.map (cv H) := by
    rw [← hv]
    unfold cvs
    rw [List.map_append, List.map_congr_left fun y hy => hc y (List.mem_append.2 (.inl hy)), List.map_congr_left fun y hy => hc y (List.mem_append.2 (.inr hy))]
  refine ⟨B, h2.ins ⟨hT, hV⟩ fun g hg => ?_⟩
  have cases3 : g = b ∨ (Comp.row v ks n xs).bs g ∨ blkOf p = some g := by
    rcases hg with hg | ⟨y, hy, hg⟩
    · left; simp [blkOf] at hg; exact hg.symm
    · rcases List.mem_append.1 hy with h3 | h3
      · exact .inr (.inl (.inr ⟨y, h3, hg⟩))
      · exact .inr (.inr (hp y h3 g hg))
  have hbn : H.length < b := hb
  rcases cases3 with rfl | h3 | h3
  · refine ⟨fun e => by have := (h.bl g e).1; omega, by have := h.len; omega, fun i y hy e => ?_, fun cb e e2 => ?_⟩
    · have := (h.ok (i + 2) y hy).lt g e; omega
    · have := (h.cur cb e).lt; omega
  · exact ⟨(h.fr 0 _ rfl g h3).1, (h.fr 0 _ rfl g h3).2, fun i y hy e => h.dj 0 (i + 2) _ y (by omega) rfl hy g h3 e, fun cb e e2 => h.nc cb e 0 _ rfl (by rw [e2]; exact h3)⟩
  · exact ⟨(h.fr 1 _ rfl g h3).1, (h.fr 1 _ rfl g h3).2, fun i y hy e => h.dj 1 (i + 2) _ y (by omega) rfl hy g h3 e, fun cb e e2 => h.nc cb e 1 _ rfl (by rw [e2]; exact h3)⟩
theorem LX.new {c : Option Nat} {H0 H : AH} {L : List Ix} {v : Value} {ks : List CK} {n : Nat} {xs : List Value} {V : List CV} (h : LX c H0 H L) (i : Nat) (hi : L[i]? = some (.own (.cmp (.row v ks n xs) V))) : New H0 H v ks n xs ∧ cvs H xs = V := by
  obtain ⟨B, h⟩ := h
  obtain ⟨h1, h2⟩ := h.ok i _ hi
  exact ⟨⟨h1, fun b hb => (h.fr i _ hi b hb).2⟩, h2⟩
theorem LX.nilT {c : Option Nat} {H0 H : AH} {L : List Ix} (h : LX c H0 H L) (ks : List CK) : LX c H0 H (.own (.cmp (.row (.slice none 0 0) ks 0 []) []) :: L) := by
  obtain ⟨B, h⟩ := h
  exact ⟨B, h.ins ⟨OT.of FOwn.nil (fun j y h => by simp at h) (fun i j x y _ h => by simp at h), rfl⟩ fun b hb => by rcases hb with hb | ⟨y, hy, _⟩ <;> simp [blkOf] at *⟩
theorem st_cellsX {Φ : Value → AH → Prop} {H : AH} {cs : List Value} {n s : Nat} (k : Φ (.slice (some ⟨H.length, 0, none⟩) n s) (H ++ [⟨cs, .own⟩])) : oM (some (cs, some (n, s))) H Φ := k
theorem LX.sel2 {c : Option Nat} {H0 H : AH} {L : List Ix} (h : LX c H0 H L) (is : List Nat) (hn : is.Nodup) (hb : (is.all fun i => decide (i < L.length)) = true) : LX c H0 H (is.filterMap fun i => L[i]?) := by
  refine h.pick is _ ?_ hn
  clear hn
  induction is with
  | nil => rfl
  | cons i is ih =>
    simp only [List.all_cons, Bool.and_eq_true, decide_eq_true_eq] at hb
    rw [List.map_cons, ih hb.2, List.filterMap_cons, List.getElem?_eq_getElem hb.1]
    rfl

def rdR (l : List Int) : Option (List CV) := match l with
  | [] => none
  | x :: t => match rdAll nfI x.toNat t with
    | some (V, []) => if cdOk (insL V x.toNat) = true then some V else none
    | _ => none
theorem rdNums_bad {f : Int → Option Int} {k : Nat} {r : List Int} (h : r.length < 8) (hk : 0 < k) : rdNums f k r = none := by
  cases k with
  | zero => omega
  | succ k => rw [rdNums, if_pos h]
theorem tails5 {r : List Int} : r.tail.tail.tail.tail.tail = r.drop 5 := by
  rw [← List.drop_one, ← List.drop_one, ← List.drop_one, ← List.drop_one, ← List.drop_one]
  simp only [List.drop_drop]
theorem bad5 {r : List Int} : (r.isEmpty || r.tail.isEmpty || r.tail.tail.isEmpty || r.tail.tail.tail.isEmpty || r.tail.tail.tail.tail.isEmpty) = decide (r.length < 5) := by
  match r with
  | [] => rfl
  | [_] => rfl
  | [_, _] => rfl
  | [_, _, _] => rfl
  | [_, _, _, _] => rfl
  | _ :: _ :: _ :: _ :: _ :: t => simp
theorem rdR_bad {l : List Int} {K : Nat} (hK : l.headD 0 = K) (h : l = [] ∨ rdAll nfI K l.tail = none) : rdR l = none := by
  cases l with
  | nil => rfl
  | cons x t =>
    rcases h with h | h
    · cases h
    · have hx : x = (K : Int) := hK
      subst hx
      simp only [rdR, Int.toNat_natCast]
      rw [show rdAll nfI K t = none from h]
theorem rdR_go {l : List Int} {K : Nat} {V : List CV} {r : List Int} (hK : l.headD 0 = K) (hn : l ≠ []) (h : rdAll nfI K l.tail = some (V, r)) : rdR l = if r = [] ∧ cdOk (insL V K) = true then some V else none := by
  cases l with
  | nil => exact absurd rfl hn
  | cons x t =>
    have hx : x = (K : Int) := hK
    subst hx
    simp only [rdR, Int.toNat_natCast]
    rw [show rdAll nfI K t = some (V, r) from h]
    cases r with
    | nil => simp
    | cons y s => simp
/-- The reader goes on from a list of bytes. -/
structure RdOn (H : AH) (sl : Value) (r : List Int) : Prop where
  row : ByRow H sl r
  by' : byOk r
  len : r.length ≤ 1048576
theorem RdOn.lt {H : AH} {sl : Value} {r : List Int} (h : RdOn H sl r) : ∀ b, blkOf sl = some b → b < H.length := by
  intro b hb
  rcases h.row with ⟨rfl, _⟩ | ⟨b', o, cs, rfl, h1, _⟩
  · simp [blkOf] at hb
  · simp [blkOf] at hb; subst hb
    exact rd_lt (by rw [h1]; rfl)
theorem RdOn.st {H0 H : AH} {L : List Ix} {sl : Value} {r : List Int} {rb : Nat} {bad : Bool} (h : RdOn H0 sl r) (q : LX none H0 H L) (i : Nat) (hi : L[i]? = some (.own (.box rb [sl, .bool bad]))) : RdSt H rb sl bad r :=
  ⟨q.bx i hi, h.row.ext q.ext, fun e => by have := h.lt rb e; have := q.bxlt i hi; omega⟩
theorem RdOn.next {H H1 H2 : AH} {sl sl' : Value} {r r' : List Int} {rb : Nat} {b : Bool} (h : RdOn H sl r) (a : Adv H1 H2 rb sl r sl' b r') (hs : ∀ x ∈ r', x ∈ r) (hl : r'.length ≤ r.length) : RdOn H sl' r' :=
  ⟨a.row H h.row, fun x hx => h.by' x (hs x hx), Nat.le_trans hl h.len⟩
theorem LX.adv {H0 H H' : AH} {L : List Ix} {rb : Nat} {sl sl' : Value} {bad bad' : Bool} {r r' : List Int} (q : LX none H0 H L) (i : Nat) (hi : L[i]? = some (.own (.box rb [sl, .bool bad]))) (a : Adv H H' rb sl r sl' bad' r') : LX none H0 H' (L.set i (.own (.box rb [sl', .bool bad']))) := by
  rw [a.eq]; exact q.set i hi _

set_option maxHeartbeats 4000000 in
theorem implRead_ok {H : AH} {v : Value} {l : List Int} (hv : ByRow H v l) (hy : byOk l) (hl : l.length ≤ 1048576) :
    CallsA Try.prog 14 #[v] H fun r H' => (∃ w m ys, r = .tuple #[w, .bool (rdR l).isSome] ∧ New H H' w kInstr m ys ∧ cvs H' ys = (rdR l).getD [] ∧ m ≤ 255) ∧ ∃ K, H' = H ++ K := by
  have q := (LX.nil (H := H))
  have r0 : RdOn H v l := ⟨hv, hy, hl⟩
  obtain ⟨va, vc, rfl, -⟩ := hv.op
  refine w14 ?_
  unfold k14
  simp -implicitDefEqProofs only [kz, kk0, kk1, kk2, kk3, ↓two_true, ↓two_false, mkv, aggAt, Nat.reduceLeDiff, Nat.reduceSub, Nat.reduceMul, implies_true, Nat.reduceEqDiff, reduceIte, Nat.reduceAdd, Nat.reduceBEq, reduceCtorEq, al66, ap29_29, ap64_64, bd66, bd71, bs29_1, bs64_1, fa63_0, fa63_1, fa63_2, fa66_0, fa66_2, fa66_3, fa71_0, fa71_1, ld3, ld4, ld22, ld64, ld66, ln22, st3, st64, st66]
  refine st_box q fun H1 q1 => ?_
  simp -implicitDefEqProofs only [kz, kk0, kk1, kk2, kk3, ↓two_true, ↓two_false, mkv, aggAt, Nat.reduceLeDiff, Nat.reduceSub, Nat.reduceMul, implies_true, Nat.reduceEqDiff, reduceIte, Nat.reduceAdd, Nat.reduceBEq, reduceCtorEq, al66, ap29_29, ap64_64, bd66, bd71, bs29_1, bs64_1, fa63_0, fa63_1, fa63_2, fa66_0, fa66_2, fa66_3, fa71_0, fa71_1, ld3, ld4, ld22, ld64, ld66, ln22, st3, st64, st66]
  refine (rdOne_ok (r0.st q1 0 rfl) hy hl).mono ?_
  rintro _ H2 ⟨sl2, rfl, a2⟩
  have q2 := q1.adv 0 rfl a2
  have r2 := r0.next a2 (fun x hx => List.mem_of_mem_tail hx) (by simp)
  simp only [List.set_cons_zero, Bool.false_or] at q2 a2
  simp -implicitDefEqProofs only [kz, kk0, kk1, kk2, kk3, ↓two_true, ↓two_false, mkv, aggAt, Nat.reduceLeDiff, Nat.reduceSub, Nat.reduceMul, implies_true, Nat.reduceEqDiff, reduceIte, Nat.reduceAdd, Nat.reduceBEq, reduceCtorEq, al66, ap29_29, ap64_64, bd66, bd71, bs29_1, bs64_1, fa63_0, fa63_1, fa63_2, fa66_0, fa66_2, fa66_3, fa71_0, fa71_1, ld3, ld4, ld22, ld64, ld66, ln22, st3, st64, st66, q2.rd 0 rfl]
  have hh := hy.head
  obtain ⟨K, hK⟩ : ∃ K : Nat, l.headD 0 = K := ⟨(l.headD 0).toNat, by omega⟩
  have hK255 : K ≤ 255 := by omega
  rw [hK]
  have q3 := q2.nilT kInstr
  refine rW_loop (σ := Nat) (fun k tm H' => ∃ a c m xs V sl bad r, tm 4 = .pointer (some ⟨H.length, 0, none⟩) ∧ tm 5 = .slice a m c ∧ tm 6 = .int .i64 k ∧ m + k ≤ K ∧ LX none H H' [.own (.cmp (.row (.slice a m c) kInstr m xs) V), .own (.box H.length [sl, .bool bad])] ∧ RdOn H sl r ∧
    (bad = false → rdAll nfI K l.tail = (rdAll nfI k r).map fun w => (V ++ w.1, w.2)) ∧ (bad = false → m + k = K ∧ l ≠ []) ∧ (bad = true → l = [] ∨ rdAll nfI K l.tail = none)) (fun k => k) K ?_ ?_
  · refine ⟨none, 0, 0, [], [], sl2, l.isEmpty, l.tail, ?_, ?_, ?_, by omega, q3, r2, fun _ => ?_, fun h => ⟨by omega, fun e => by rw [e] at h; cases h⟩, fun h => .inl ?_⟩
    · simp -implicitDefEqProofs [kk0, kk1, kk2, kk3, rW_block, ↓two_true, ↓two_false, rW_cond, rO_guard, oS_some, oM_some, mkv, aggAt, Nat.reduceLeDiff, Nat.reduceSub, Nat.reduceMul, cond_true, cond_false, Option.bind_some, List.length_append, List.length_cons, List.length_nil, List.append_assoc, List.cons_append, List.nil_append, List.set_cons_zero, List.set_cons_succ, List.size_toArray, List.all_cons, List.all_nil, List.drop_zero, List.drop_succ_cons, List.take_succ_cons, List.take_zero, List.mem_cons, Prod.mk.injEq, List.not_mem_nil, implies_true, List.getElem?_toArray, List.getElem?_cons_zero, List.getElem?_cons_succ, List.getElem?_nil, Option.getD_some, Option.getD_none, Nat.reduceEqDiff, reduceIte, Nat.reduceAdd, List.map_toArray, List.map_cons, List.map_nil, Bool.false_eq_true, Nat.reduceBEq, Option.map_some, Option.map_none, reduceCtorEq, al66, ap29_29, ap64_64, bd66, bd71, bs29_1, bs64_1, fa63_0, fa63_1, fa63_2, fa66_0, fa66_2, fa66_3, fa71_0, fa71_1, ld3, ld4, ld22, ld64, ld66, ln22, st3, st64, st66]
    · simp -implicitDefEqProofs [kk0, kk1, kk2, kk3, rW_block, ↓two_true, ↓two_false, rW_cond, rO_guard, oS_some, oM_some, mkv, aggAt, Nat.reduceLeDiff, Nat.reduceSub, Nat.reduceMul, cond_true, cond_false, Option.bind_some, List.length_append, List.length_cons, List.length_nil, List.append_assoc, List.cons_append, List.nil_append, List.set_cons_zero, List.set_cons_succ, List.size_toArray, List.all_cons, List.all_nil, List.drop_zero, List.drop_succ_cons, List.take_succ_cons, List.take_zero, List.mem_cons, Prod.mk.injEq, List.not_mem_nil, implies_true, List.getElem?_toArray, List.getElem?_cons_zero, List.getElem?_cons_succ, List.getElem?_nil, Option.getD_some, Option.getD_none, Nat.reduceEqDiff, reduceIte, Nat.reduceAdd, List.map_toArray, List.map_cons, List.map_nil, Bool.false_eq_true, Nat.reduceBEq, Option.map_some, Option.map_none, reduceCtorEq, al66, ap29_29, ap64_64, bd66, bd71, bs29_1, bs64_1, fa63_0, fa63_1, fa63_2, fa66_0, fa66_2, fa66_3, fa71_0, fa71_1, ld3, ld4, ld22, ld64, ld66, ln22, st3, st64, st66]
    · simp -implicitDefEqProofs [kk0, kk1, kk2, kk3, rW_block, ↓two_true, ↓two_false, rW_cond, rO_guard, oS_some, oM_some, mkv, aggAt, Nat.reduceLeDiff, Nat.reduceSub, Nat.reduceMul, cond_true, cond_false, Option.bind_some, List.length_append, List.length_cons, List.length_nil, List.append_assoc, List.cons_append, List.nil_append, List.set_cons_zero, List.set_cons_succ, List.size_toArray, List.all_cons, List.all_nil, List.drop_zero, List.drop_succ_cons, List.take_succ_cons, List.take_zero, List.mem_cons, Prod.mk.injEq, List.not_mem_nil, implies_true, List.getElem?_toArray, List.getElem?_cons_zero, List.getElem?_cons_succ, List.getElem?_nil, Option.getD_some, Option.getD_none, Nat.reduceEqDiff, reduceIte, Nat.reduceAdd, List.map_toArray, List.map_cons, List.map_nil, Bool.false_eq_true, Nat.reduceBEq, Option.map_some, Option.map_none, reduceCtorEq, al66, ap29_29, ap64_64, bd66, bd71, bs29_1, bs64_1, fa63_0, fa63_1, fa63_2, fa66_0, fa66_2, fa66_3, fa71_0, fa71_1, ld3, ld4, ld22, ld64, ld66, ln22, st3, st64, st66]
    · simp only [List.nil_append]
      cases rdAll nfI K l.tail <;> rfl
    · simpa using h
  · rintro k tm H3 ⟨a, c, m, xs, V, sl, bad, r, h4, h5, h6, hm, q, ro, g1, g0, g2⟩
    simp -implicitDefEqProofs only [kz, kk0, kk1, kk2, kk3, ↓two_true, ↓two_false, mkv, aggAt, Nat.reduceLeDiff, Nat.reduceSub, Nat.reduceMul, implies_true, Nat.reduceEqDiff, reduceIte, Nat.reduceAdd, Nat.reduceBEq, reduceCtorEq, al66, ap29_29, ap64_64, bd66, bd71, bs29_1, bs64_1, fa63_0, fa63_1, fa63_2, fa66_0, fa66_2, fa66_3, fa71_0, fa71_1, ld3, ld4, ld22, ld64, ld66, ln22, st3, st64, st66, h4, h5, h6, q.rd 1 rfl]
    refine two_intro (fun u1 => ?_) (fun u1 => ?_)
    · have hk1 : 0 < k := by have h5 := of_decide_eq_true u1; omega
      refine two_intro (fun u2 => ?_) (fun u2 => ?_)
      · obtain rfl : bad = false := by simpa using u2
        obtain ⟨g3, g4⟩ := g0 rfl
        have g1 := g1 rfl
        clear g0 g2
        obtain ⟨k, rfl⟩ : ∃ k', k = k' + 1 := ⟨k - 1, by omega⟩
        have wk : IntKind.i64.wrap (((k + 1 : Nat) : Int) - 1) = (k : Int) := by rw [IntWalk.i64_in _ (by omega)]; omega
        refine (rdOne_ok (ro.st q 1 rfl) ro.by' ro.len).mono ?_
        rintro _ H4 ⟨sl4, rfl, a4⟩
        have q4 := q.adv 1 rfl a4
        have r4 := ro.next a4 (fun x hx => List.mem_of_mem_tail hx) (by simp)
        simp only [List.set_cons_zero, List.set_cons_succ] at q4
        simp -implicitDefEqProofs only [kz, kk0, kk1, kk2, kk3, ↓two_true, ↓two_false, mkv, aggAt, Nat.reduceLeDiff, Nat.reduceSub, Nat.reduceMul, implies_true, Nat.reduceEqDiff, reduceIte, Nat.reduceAdd, Nat.reduceBEq, reduceCtorEq, al66, ap29_29, ap64_64, bd66, bd71, bs29_1, bs64_1, fa63_0, fa63_1, fa63_2, fa66_0, fa66_2, fa66_3, fa71_0, fa71_1, ld3, ld4, ld22, ld64, ld66, ln22, st3, st64, st66, h4, h5, h6]
        refine (rdOne_ok (r4.st q4 1 rfl) r4.by' r4.len).mono ?_
        rintro _ H5 ⟨sl5, rfl, a5⟩
        have q5 := q4.adv 1 rfl a5
        have r5 := r4.next a5 (fun x hx => List.mem_of_mem_tail hx) (by simp)
        simp only [List.set_cons_zero, List.set_cons_succ] at q5
        simp -implicitDefEqProofs only [kz, kk0, kk1, kk2, kk3, ↓two_true, ↓two_false, mkv, aggAt, Nat.reduceLeDiff, Nat.reduceSub, Nat.reduceMul, implies_true, Nat.reduceEqDiff, reduceIte, Nat.reduceAdd, Nat.reduceBEq, reduceCtorEq, al66, ap29_29, ap64_64, bd66, bd71, bs29_1, bs64_1, fa63_0, fa63_1, fa63_2, fa66_0, fa66_2, fa66_3, fa71_0, fa71_1, ld3, ld4, ld22, ld64, ld66, ln22, st3, st64, st66, h4, h5, h6]
        refine st_box q5 fun H6 q6 => ?_
        simp -implicitDefEqProofs only [kz, kk0, kk1, kk2, kk3, ↓two_true, ↓two_false, mkv, aggAt, Nat.reduceLeDiff, Nat.reduceSub, Nat.reduceMul, implies_true, Nat.reduceEqDiff, reduceIte, Nat.reduceAdd, Nat.reduceBEq, reduceCtorEq, al66, ap29_29, ap64_64, bd66, bd71, bs29_1, bs64_1, fa63_0, fa63_1, fa63_2, fa66_0, fa66_2, fa66_3, fa71_0, fa71_1, ld3, ld4, ld22, ld64, ld66, ln22, st3, st64, st66, h4, h5, h6, q6.rd 0 rfl]
        refine st_set q6 0 rfl fun H7 q7 => ?_
        simp only [List.set_cons_zero, List.set_cons_succ] at q7
        simp -implicitDefEqProofs only [kz, kk0, kk1, kk2, kk3, ↓two_true, ↓two_false, mkv, aggAt, Nat.reduceLeDiff, Nat.reduceSub, Nat.reduceMul, implies_true, Nat.reduceEqDiff, reduceIte, Nat.reduceAdd, Nat.reduceBEq, reduceCtorEq, al66, ap29_29, ap64_64, bd66, bd71, bs29_1, bs64_1, fa63_0, fa63_1, fa63_2, fa66_0, fa66_2, fa66_3, fa71_0, fa71_1, ld3, ld4, ld22, ld64, ld66, ln22, st3, st64, st66, h4, h5, h6]
        refine (rdOne_ok (r5.st q7 2 rfl) r5.by' r5.len).mono ?_
        rintro _ H8 ⟨sl8, rfl, a8⟩
        have q8 := q7.adv 2 rfl a8
        have r8 := r5.next a8 (fun x hx => List.mem_of_mem_tail hx) (by simp)
        simp only [List.set_cons_zero, List.set_cons_succ] at q8
        simp -implicitDefEqProofs only [kz, kk0, kk1, kk2, kk3, ↓two_true, ↓two_false, mkv, aggAt, Nat.reduceLeDiff, Nat.reduceSub, Nat.reduceMul, implies_true, Nat.reduceEqDiff, reduceIte, Nat.reduceAdd, Nat.reduceBEq, reduceCtorEq, al66, ap29_29, ap64_64, bd66, bd71, bs29_1, bs64_1, fa63_0, fa63_1, fa63_2, fa66_0, fa66_2, fa66_3, fa71_0, fa71_1, ld3, ld4, ld22, ld64, ld66, ln22, st3, st64, st66, h4, h5, h6, q8.rd 0 rfl]
        refine st_set q8 0 rfl fun H9 q9 => ?_
        simp only [List.set_cons_zero, List.set_cons_succ] at q9
        simp -implicitDefEqProofs only [kz, kk0, kk1, kk2, kk3, ↓two_true, ↓two_false, mkv, aggAt, Nat.reduceLeDiff, Nat.reduceSub, Nat.reduceMul, implies_true, Nat.reduceEqDiff, reduceIte, Nat.reduceAdd, Nat.reduceBEq, reduceCtorEq, al66, ap29_29, ap64_64, bd66, bd71, bs29_1, bs64_1, fa63_0, fa63_1, fa63_2, fa66_0, fa66_2, fa66_3, fa71_0, fa71_1, ld3, ld4, ld22, ld64, ld66, ln22, st3, st64, st66, h4, h5, h6]
        refine (rdOne_ok (r8.st q9 2 rfl) r8.by' r8.len).mono ?_
        rintro _ H10 ⟨sl10, rfl, a10⟩
        have q10 := q9.adv 2 rfl a10
        have r10 := r8.next a10 (fun x hx => List.mem_of_mem_tail hx) (by simp)
        simp only [List.set_cons_zero, List.set_cons_succ] at q10
        simp -implicitDefEqProofs only [kz, kk0, kk1, kk2, kk3, ↓two_true, ↓two_false, mkv, aggAt, Nat.reduceLeDiff, Nat.reduceSub, Nat.reduceMul, implies_true, Nat.reduceEqDiff, reduceIte, Nat.reduceAdd, Nat.reduceBEq, reduceCtorEq, al66, ap29_29, ap64_64, bd66, bd71, bs29_1, bs64_1, fa63_0, fa63_1, fa63_2, fa66_0, fa66_2, fa66_3, fa71_0, fa71_1, ld3, ld4, ld22, ld64, ld66, ln22, st3, st64, st66, h4, h5, h6, q10.rd 0 rfl]
        refine st_set q10 0 rfl fun H11 q11 => ?_
        simp only [List.set_cons_zero, List.set_cons_succ] at q11
        simp -implicitDefEqProofs only [kz, kk0, kk1, kk2, kk3, ↓two_true, ↓two_false, mkv, aggAt, Nat.reduceLeDiff, Nat.reduceSub, Nat.reduceMul, implies_true, Nat.reduceEqDiff, reduceIte, Nat.reduceAdd, Nat.reduceBEq, reduceCtorEq, al66, ap29_29, ap64_64, bd66, bd71, bs29_1, bs64_1, fa63_0, fa63_1, fa63_2, fa66_0, fa66_2, fa66_3, fa71_0, fa71_1, ld3, ld4, ld22, ld64, ld66, ln22, st3, st64, st66, h4, h5, h6]
        refine (rdOne_ok (r10.st q11 2 rfl) r10.by' r10.len).mono ?_
        rintro _ H12 ⟨sl12, rfl, a12⟩
        have q12 := q11.adv 2 rfl a12
        have r12 := r10.next a12 (fun x hx => List.mem_of_mem_tail hx) (by simp)
        simp only [List.set_cons_zero, List.set_cons_succ, Bool.false_or, bad5] at q12
        rw [tails5] at r12
        simp -implicitDefEqProofs only [kz, kk0, kk1, kk2, kk3, ↓two_true, ↓two_false, mkv, aggAt, Nat.reduceLeDiff, Nat.reduceSub, Nat.reduceMul, implies_true, Nat.reduceEqDiff, reduceIte, Nat.reduceAdd, Nat.reduceBEq, reduceCtorEq, al66, ap29_29, ap64_64, bd66, bd71, bs29_1, bs64_1, fa63_0, fa63_1, fa63_2, fa66_0, fa66_2, fa66_3, fa71_0, fa71_1, ld3, ld4, ld22, ld64, ld66, ln22, st3, st64, st66, h4, h5, h6, q12.rd 0 rfl]
        refine st_set q12 0 rfl fun H13 q13 => ?_
        simp only [List.set_cons_zero, List.set_cons_succ] at q13
        simp -implicitDefEqProofs only [kz, kk0, kk1, kk2, kk3, ↓two_true, ↓two_false, mkv, aggAt, Nat.reduceLeDiff, Nat.reduceSub, Nat.reduceMul, implies_true, Nat.reduceEqDiff, reduceIte, Nat.reduceAdd, Nat.reduceBEq, reduceCtorEq, al66, ap29_29, ap64_64, bd66, bd71, bs29_1, bs64_1, fa63_0, fa63_1, fa63_2, fa66_0, fa66_2, fa66_3, fa71_0, fa71_1, ld3, ld4, ld22, ld64, ld66, ln22, st3, st64, st66, h4, h5, h6, q13.rd 0 rfl]
        clear a4 a5 a8 a10 a12 q4 q5 q6 q7 q8 q9 q10 q11 q12 r4 r5 r8 r10
        refine two_intro (fun u3 => ?_) (fun u3 => ?_)
        · have hop : r.headD 0 = 1 := by simpa using u3
          refine (rdTwo_ok (r12.st q13 2 rfl) r12.by' r12.len).mono ?_
          rintro _ H14 ⟨sl14, rfl, a14⟩
          have q14 := q13.adv 2 rfl a14
          have r14 := r12.next a14 (fun x hx => List.mem_of_mem_drop hx) (by simp; omega)
          simp only [List.set_cons_zero, List.set_cons_succ, List.drop_drop, List.length_drop] at q14 r14
          obtain ⟨n1, n2⟩ := loF_nn (k := 2) (ro.by'.drop 5)
          obtain ⟨k2, hk2⟩ : ∃ k2 : Nat, loF 2 (r.drop 5) = k2 := ⟨(loF 2 (r.drop 5)).toNat, by omega⟩
          rw [hk2]
          have hk65 : k2 < 65536 := by have : (256 : Int) ^ 2 = 65536 := by decide
                                       omega
          obtain ⟨b7, hb7⟩ : ∃ b7 : Bool, (decide (r.length < 5) || decide (r.length - 5 < 2)) = b7 := ⟨_, rfl⟩
          rw [hb7] at q14
          have q15 := LX.nil0 q14
          have fin : ∀ (nums r' : List Int) (bad : Bool), (b7 = true → bad = true) → (b7 = false → bad = false → rdNums nfI k2 (r.drop 7) = some (nums, r')) → (b7 = false → bad = true → rdNums nfI k2 (r.drop 7) = none) →
              (bad = false → rdIns nfI r = some ([.i 1, .i (r.tail.headD 0), .i (r.tail.tail.headD 0), .i (r.tail.tail.tail.headD 0), .i (r.tail.tail.tail.tail.headD 0), .r nums], r')) ∧ (bad = true → rdIns nfI r = none) := by
            intro nums r' bad f1 f2 f3
            have hk2' : (loF 2 (r.drop 5)).toNat = k2 := by omega
            by_cases hl7 : r.length < 7
            · have hb : b7 = true := by rw [← hb7]; simp; omega
              have : rdIns nfI r = none := by
                unfold rdIns
                by_cases h5 : r.length < 5
                · rw [if_pos h5]
                · rw [if_neg h5, if_pos hop, if_pos hl7]
              exact ⟨fun e => (by rw [f1 hb] at e; exact absurd e (by decide)), fun _ => this⟩
            · have hb : b7 = false := by rw [← hb7]; simp; omega
              have e : rdIns nfI r = (rdNums nfI k2 (r.drop 7)).map fun z => ([.i 1, .i (r.tail.headD 0), .i (r.tail.tail.headD 0), .i (r.tail.tail.tail.headD 0), .i (r.tail.tail.tail.tail.headD 0), .r z.1], z.2) := by
                unfold rdIns
                rw [if_neg (by omega), if_pos hop, if_neg hl7, hk2', hop]
              exact ⟨fun h => by rw [e, f2 hb h]; rfl, fun h => by rw [e, f3 hb h]; rfl⟩
          simp -implicitDefEqProofs only [kz, kk0, kk1, kk2, kk3, ↓two_true, ↓two_false, mkv, aggAt, Nat.reduceLeDiff, Nat.reduceSub, Nat.reduceMul, implies_true, Nat.reduceEqDiff, reduceIte, Nat.reduceAdd, Nat.reduceBEq, reduceCtorEq, al66, ap29_29, ap64_64, bd66, bd71, bs29_1, bs64_1, fa63_0, fa63_1, fa63_2, fa66_0, fa66_2, fa66_3, fa71_0, fa71_1, ld3, ld4, ld22, ld64, ld66, ln22, st3, st64, st66, h4, h5, h6, hop] at q15 ⊢
          refine rW_loop (σ := Nat) (fun j tm H' => ∃ a' c' nums sl bad r', tm 4 = .pointer (some ⟨H.length, 0, none⟩) ∧ tm 5 = .slice a m c ∧ tm 6 = .int .i64 ((k + 1 : Nat) : Int) ∧ tm 7 = .pointer (some ⟨H5.length, 0, none⟩) ∧ tm 8 = .int .i64 j ∧
            LX none H H' [.own (.row (.slice a' nums.length c') nums), .own (.box H5.length [.int .i64 1, .int .i64 (r.tail.headD 0), .int .i64 (r.tail.tail.headD 0), .int .i64 (r.tail.tail.tail.headD 0), .int .i64 (r.tail.tail.tail.tail.headD 0), .slice a' nums.length c']), .own (.cmp (.row (.slice a m c) kInstr m xs) V), .own (.box H.length [sl, .bool bad])] ∧ RdOn H sl r' ∧ nums.length + j ≤ k2 ∧
            (b7 = true → bad = true) ∧ (b7 = false → bad = false → rdNums nfI k2 (r.drop 7) = (rdNums nfI j r').map fun z => (nums ++ z.1, z.2)) ∧ (b7 = false → bad = false → nums.length + j = k2) ∧ (b7 = false → bad = true → rdNums nfI k2 (r.drop 7) = none)) (fun j => j) k2 ?_ ?_
          · refine ⟨none, 0, [], sl14, b7, r.drop 7, ?_, ?_, ?_, ?_, ?_, q15, r14, by simp, fun h => h, fun _ _ => ?_, fun _ _ => by simp, fun h1 h2 => by rw [h1] at h2; cases h2⟩
            · first | rfl | exact h4
            · first | rfl | exact h5
            · first | rfl | exact h6
            · rfl
            · rfl
            · simp only [List.nil_append]
              cases rdNums nfI k2 (r.drop 7) <;> rfl
          · rintro j tm2 H16 ⟨a', c', nums, sl, bad, r', m4, m5, m6, m7, m8, q, ro2, hnl, e1, e2, e3, e4⟩
            simp -implicitDefEqProofs only [kz, kk0, kk1, kk2, kk3, ↓two_true, ↓two_false, mkv, aggAt, Nat.reduceLeDiff, Nat.reduceSub, Nat.reduceMul, implies_true, Nat.reduceEqDiff, reduceIte, Nat.reduceAdd, Nat.reduceBEq, reduceCtorEq, al66, ap29_29, ap64_64, bd66, bd71, bs29_1, bs64_1, fa63_0, fa63_1, fa63_2, fa66_0, fa66_2, fa66_3, fa71_0, fa71_1, ld3, ld4, ld22, ld64, ld66, ln22, st3, st64, st66, m4, m5, m6, m7, m8, q.rd 1 rfl, q.rd 3 rfl]
            refine two_intro (fun v1 => ?_) (fun v1 => ?_)
            · have hj1 : 0 < j := by have h5 := of_decide_eq_true v1; omega
              refine two_intro (fun v2 => ?_) (fun v2 => ?_)
              · obtain rfl : bad = false := by simpa using v2
                try simp -implicitDefEqProofs only [kz, kk0, kk1, kk2, kk3, ↓two_true, ↓two_false, mkv, aggAt, Nat.reduceLeDiff, Nat.reduceSub, Nat.reduceMul, implies_true, Nat.reduceEqDiff, reduceIte, Nat.reduceAdd, Nat.reduceBEq, reduceCtorEq, al66, ap29_29, ap64_64, bd66, bd71, bs29_1, bs64_1, fa63_0, fa63_1, fa63_2, fa66_0, fa66_2, fa66_3, fa71_0, fa71_1, ld3, ld4, ld22, ld64, ld66, ln22, st3, st64, st66, m4, m5, m6, m7, m8, q.rd 1 rfl, q.rd 3 rfl]
                refine (rdNum_ok (ro2.st q 3 rfl) ro2.by' ro2.len).mono ?_
                rintro _ H17 ⟨sl17, rfl, a17⟩
                have q17 := q.adv 3 rfl a17
                have r17 := ro2.next a17 (fun x hx => List.mem_of_mem_drop hx) (by simp)
                simp only [List.set_cons_zero, List.set_cons_succ, Bool.false_or] at q17
                simp -implicitDefEqProofs only [kz, kk0, kk1, kk2, kk3, ↓two_true, ↓two_false, mkv, aggAt, Nat.reduceLeDiff, Nat.reduceSub, Nat.reduceMul, implies_true, Nat.reduceEqDiff, reduceIte, Nat.reduceAdd, Nat.reduceBEq, reduceCtorEq, al66, ap29_29, ap64_64, bd66, bd71, bs29_1, bs64_1, fa63_0, fa63_1, fa63_2, fa66_0, fa66_2, fa66_3, fa71_0, fa71_1, ld3, ld4, ld22, ld64, ld66, ln22, st3, st64, st66, m4, m5, m6, m7, m8, q17.rd 1 rfl, q17.rd 3 rfl, q.rd 1 rfl, q.rd 3 rfl]
                refine st_lit [(nfI (loF 8 r')).getD 0] rfl rfl q17 fun H18 q18 => ?_
                simp -implicitDefEqProofs only [kz, kk0, kk1, kk2, kk3, ↓two_true, ↓two_false, mkv, aggAt, Nat.reduceLeDiff, Nat.reduceSub, Nat.reduceMul, implies_true, Nat.reduceEqDiff, reduceIte, Nat.reduceAdd, Nat.reduceBEq, reduceCtorEq, al66, ap29_29, ap64_64, bd66, bd71, bs29_1, bs64_1, fa63_0, fa63_1, fa63_2, fa66_0, fa66_2, fa66_3, fa71_0, fa71_1, ld3, ld4, ld22, ld64, ld66, ln22, st3, st64, st66, m4, m5, m6, m7, m8, q18.rd 2 rfl, q18.rd 4 rfl, q.rd 1 rfl, q.rd 3 rfl]
                refine st_app q18 1 rfl (q18.int 0 rfl) (by simp; omega) fun a2 c2 H19 q19 => ?_
                simp only [List.set_cons_zero, List.set_cons_succ, List.length_cons, List.length_nil, Nat.zero_add] at q19 ⊢
                simp -implicitDefEqProofs only [kz, kk0, kk1, kk2, kk3, ↓two_true, ↓two_false, mkv, aggAt, Nat.reduceLeDiff, Nat.reduceSub, Nat.reduceMul, implies_true, Nat.reduceEqDiff, reduceIte, Nat.reduceAdd, Nat.reduceBEq, reduceCtorEq, al66, ap29_29, ap64_64, bd66, bd71, bs29_1, bs64_1, fa63_0, fa63_1, fa63_2, fa66_0, fa66_2, fa66_3, fa71_0, fa71_1, ld3, ld4, ld22, ld64, ld66, ln22, st3, st64, st66, m4, m5, m6, m7, m8, q19.rd 2 rfl, q19.rd 4 rfl, q.rd 1 rfl, q.rd 3 rfl]
                refine st_set q19 2 rfl fun H20 q20 => ?_
                simp only [List.set_cons_zero, List.set_cons_succ] at q20
                obtain ⟨j, rfl⟩ : ∃ j', j = j' + 1 := ⟨j - 1, by omega⟩
                have wj : IntKind.i64.wrap (((j + 1 : Nat) : Int) - 1) = (j : Int) := by rw [IntWalk.i64_in _ (by omega)]; omega
                simp -implicitDefEqProofs only [kz, kk0, kk1, kk2, kk3, ↓two_true, ↓two_false, mkv, aggAt, Nat.reduceLeDiff, Nat.reduceSub, Nat.reduceMul, implies_true, Nat.reduceEqDiff, reduceIte, Nat.reduceAdd, Nat.reduceBEq, reduceCtorEq, al66, ap29_29, ap64_64, bd66, bd71, bs29_1, bs64_1, fa63_0, fa63_1, fa63_2, fa66_0, fa66_2, fa66_3, fa71_0, fa71_1, ld3, ld4, ld22, ld64, ld66, ln22, st3, st64, st66, m4, m5, m6, m7, m8, wj]
                have q21 := q20.sel2 [1, 2, 3, 4] (by decide) rfl
                simp only [List.filterMap_cons, List.filterMap_nil, List.getElem?_cons_zero, List.getElem?_cons_succ] at q21
                have hlen1 : (nums ++ [(nfI (loF 8 r')).getD 0]).length = nums.length + 1 := by simp
                refine ⟨j, by omega, a2, c2, nums ++ [(nfI (loF 8 r')).getD 0], sl17, _, r'.drop 8, rfl, by rw [hlen1]; exact q21, r17, by rw [hlen1]; omega, fun h => absurd (e1 h) (by decide), fun h1 h2 => ?_, fun h1 _ => by rw [hlen1]; have := e3 h1 rfl; omega, fun h1 h2 => ?_⟩
                · simp only [Bool.or_eq_false_iff, decide_eq_false_iff_not] at h2
                  rw [e2 h1 rfl, rdNums, if_neg h2.1]
                  cases hn : nfI (loF 8 r') with
                  | none => rw [hn] at h2; simp at h2
                  | some y =>
                    simp only [Option.getD_some]
                    cases rdNums nfI j (r'.drop 8) <;> simp
                · rw [e2 h1 rfl]
                  simp only [Bool.or_eq_true, decide_eq_true_eq] at h2
                  rcases h2 with h2 | h2
                  · rw [rdNums_bad h2 (by omega)]; rfl
                  · rw [rdNums]
                    split
                    · rfl
                    · cases hn : nfI (loF 8 r') with
                      | none => rfl
                      | some y => rw [hn] at h2; cases h2
              · obtain rfl : bad = true := by simpa using v2
                have fn := fin nums r' true e1 (fun _ h => by cases h) e4
                refine st_cellsX ?_
                simp -implicitDefEqProofs only [kz, kk0, kk1, kk2, kk3, ↓two_true, ↓two_false, mkv, aggAt, Nat.reduceLeDiff, Nat.reduceSub, Nat.reduceMul, implies_true, Nat.reduceEqDiff, reduceIte, Nat.reduceAdd, Nat.reduceBEq, reduceCtorEq, al66, ap29_29, ap64_64, bd66, bd71, bs29_1, bs64_1, fa63_0, fa63_1, fa63_2, fa66_0, fa66_2, fa66_3, fa71_0, fa71_1, ld3, ld4, ld22, ld64, ld66, ln22, st3, st64, st66, m4, m5, m6, m7, m8]
                have q22 := q.sel2 [2, 0, 1, 3] (by decide) rfl
                simp only [List.filterMap_cons, List.filterMap_nil, List.getElem?_cons_zero, List.getElem?_cons_succ] at q22
                have hrk := (q22.own 1 rfl).kok (by omega)
                refine st_insC (s := 6) rfl q22 ⟨_, _, rfl, ⟨_, rfl⟩, _, _, rfl, ⟨_, rfl⟩, _, _, rfl, ⟨_, rfl⟩, _, _, rfl, ⟨_, rfl⟩, _, _, rfl, ⟨_, rfl⟩, _, _, rfl, hrk.1, rfl⟩ ?_ ?_ ?_ (by omega) fun b H25 q25 => ?_
                · simp only [List.forall_mem_cons, List.not_mem_nil, false_implies, implies_true, and_true]
                  exact ⟨.inl ⟨_, rfl⟩, .inl ⟨_, rfl⟩, .inl ⟨_, rfl⟩, .inl ⟨_, rfl⟩, .inl ⟨_, rfl⟩, hrk.2.1⟩
                · simp [Dj, blkOf]
                · simp only [List.forall_mem_cons, List.not_mem_nil, false_implies, implies_true, and_true]
                  exact ⟨fun b hb => by simp [blkOf] at hb, fun b hb => by simp [blkOf] at hb, fun b hb => by simp [blkOf] at hb, fun b hb => by simp [blkOf] at hb, fun b hb => by simp [blkOf] at hb, fun b hb => hb⟩
                · simp -implicitDefEqProofs only [kz, kk0, kk1, kk2, kk3, ↓two_true, ↓two_false, mkv, aggAt, Nat.reduceLeDiff, Nat.reduceSub, Nat.reduceMul, implies_true, Nat.reduceEqDiff, reduceIte, Nat.reduceAdd, Nat.reduceBEq, reduceCtorEq, al66, ap29_29, ap64_64, bd66, bd71, bs29_1, bs64_1, fa63_0, fa63_1, fa63_2, fa66_0, fa66_2, fa66_3, fa71_0, fa71_1, ld3, ld4, ld22, ld64, ld66, ln22, st3, st64, st66, m4, m5, m6, m7, m8, wk]
                  simp only [List.map_cons, List.map_nil, cv_int, hrk.2.2] at q25
                  have q26 := q25.sel2 [0, 2] (by decide) rfl
                  simp only [List.filterMap_cons, List.filterMap_nil, List.getElem?_cons_zero, List.getElem?_cons_succ] at q26
                  refine ⟨k, by omega, _, _, m + 1, _, _, sl, _, r', rfl, rfl, by omega, q26, ro2, fun hb => ?_, fun _ => ⟨by omega, g4⟩, fun hb => .inr ?_⟩
                  · rw [g1]
                    exact rdAll_ok (fn.1 hb)
                  · rw [g1, rdAll_bad (fn.2 hb)]; rfl
            · have hj0 : j = 0 := by have h5 := of_decide_eq_false v1; omega
              subst hj0
              have fn := fin nums r' bad e1 (fun h1 h2 => by rw [e2 h1 h2, rdNums]; simp) e4
              refine st_cellsX ?_
              simp -implicitDefEqProofs only [kz, kk0, kk1, kk2, kk3, ↓two_true, ↓two_false, mkv, aggAt, Nat.reduceLeDiff, Nat.reduceSub, Nat.reduceMul, implies_true, Nat.reduceEqDiff, reduceIte, Nat.reduceAdd, Nat.reduceBEq, reduceCtorEq, al66, ap29_29, ap64_64, bd66, bd71, bs29_1, bs64_1, fa63_0, fa63_1, fa63_2, fa66_0, fa66_2, fa66_3, fa71_0, fa71_1, ld3, ld4, ld22, ld64, ld66, ln22, st3, st64, st66, m4, m5, m6, m7, m8]
              have q22 := q.sel2 [2, 0, 1, 3] (by decide) rfl
              simp only [List.filterMap_cons, List.filterMap_nil, List.getElem?_cons_zero, List.getElem?_cons_succ] at q22
              have hrk := (q22.own 1 rfl).kok (by omega)
              refine st_insC (s := 6) rfl q22 ⟨_, _, rfl, ⟨_, rfl⟩, _, _, rfl, ⟨_, rfl⟩, _, _, rfl, ⟨_, rfl⟩, _, _, rfl, ⟨_, rfl⟩, _, _, rfl, ⟨_, rfl⟩, _, _, rfl, hrk.1, rfl⟩ ?_ ?_ ?_ (by omega) fun b H25 q25 => ?_
              · simp only [List.forall_mem_cons, List.not_mem_nil, false_implies, implies_true, and_true]
                exact ⟨.inl ⟨_, rfl⟩, .inl ⟨_, rfl⟩, .inl ⟨_, rfl⟩, .inl ⟨_, rfl⟩, .inl ⟨_, rfl⟩, hrk.2.1⟩
              · simp [Dj, blkOf]
              · simp only [List.forall_mem_cons, List.not_mem_nil, false_implies, implies_true, and_true]
                exact ⟨fun b hb => by simp [blkOf] at hb, fun b hb => by simp [blkOf] at hb, fun b hb => by simp [blkOf] at hb, fun b hb => by simp [blkOf] at hb, fun b hb => by simp [blkOf] at hb, fun b hb => hb⟩
              · simp -implicitDefEqProofs only [kz, kk0, kk1, kk2, kk3, ↓two_true, ↓two_false, mkv, aggAt, Nat.reduceLeDiff, Nat.reduceSub, Nat.reduceMul, implies_true, Nat.reduceEqDiff, reduceIte, Nat.reduceAdd, Nat.reduceBEq, reduceCtorEq, al66, ap29_29, ap64_64, bd66, bd71, bs29_1, bs64_1, fa63_0, fa63_1, fa63_2, fa66_0, fa66_2, fa66_3, fa71_0, fa71_1, ld3, ld4, ld22, ld64, ld66, ln22, st3, st64, st66, m4, m5, m6, m7, m8, wk]
                simp only [List.map_cons, List.map_nil, cv_int, hrk.2.2] at q25
                have q26 := q25.sel2 [0, 2] (by decide) rfl
                simp only [List.filterMap_cons, List.filterMap_nil, List.getElem?_cons_zero, List.getElem?_cons_succ] at q26
                refine ⟨k, by omega, _, _, m + 1, _, _, sl, _, r', rfl, rfl, by omega, q26, ro2, fun hb => ?_, fun _ => ⟨by omega, g4⟩, fun hb => .inr ?_⟩
                · rw [g1]
                  exact rdAll_ok (fn.1 hb)
                · rw [g1, rdAll_bad (fn.2 hb)]; rfl
        · have hop : ¬ r.headD 0 = 1 := by simpa using u3
          try simp -implicitDefEqProofs only [kz, kk0, kk1, kk2, kk3, ↓two_true, ↓two_false, mkv, aggAt, Nat.reduceLeDiff, Nat.reduceSub, Nat.reduceMul, implies_true, Nat.reduceEqDiff, reduceIte, Nat.reduceAdd, Nat.reduceBEq, reduceCtorEq, al66, ap29_29, ap64_64, bd66, bd71, bs29_1, bs64_1, fa63_0, fa63_1, fa63_2, fa66_0, fa66_2, fa66_3, fa71_0, fa71_1, ld3, ld4, ld22, ld64, ld66, ln22, st3, st64, st66, h4, h5, h6, q13.rd 0 rfl]
          refine st_cellsX ?_
          simp -implicitDefEqProofs only [kz, kk0, kk1, kk2, kk3, ↓two_true, ↓two_false, mkv, aggAt, Nat.reduceLeDiff, Nat.reduceSub, Nat.reduceMul, implies_true, Nat.reduceEqDiff, reduceIte, Nat.reduceAdd, Nat.reduceBEq, reduceCtorEq, al66, ap29_29, ap64_64, bd66, bd71, bs29_1, bs64_1, fa63_0, fa63_1, fa63_2, fa66_0, fa66_2, fa66_3, fa71_0, fa71_1, ld3, ld4, ld22, ld64, ld66, ln22, st3, st64, st66, h4, h5, h6]
          have q14 := (LX.nil0 q13).sel2 [2, 0, 1, 3] (by decide) rfl
          simp only [List.filterMap_cons, List.filterMap_nil, List.getElem?_cons_zero, List.getElem?_cons_succ] at q14
          refine st_insC (s := 6) rfl q14 ⟨_, _, rfl, ⟨_, rfl⟩, _, _, rfl, ⟨_, rfl⟩, _, _, rfl, ⟨_, rfl⟩, _, _, rfl, ⟨_, rfl⟩, _, _, rfl, ⟨_, rfl⟩, _, _, rfl, (OwnRow.nil.kok (by simp)).1, rfl⟩ ?_ ?_ ?_ (by omega) fun b H15 q15 => ?_
          · simp only [List.forall_mem_cons, List.not_mem_nil, false_implies, implies_true, and_true]
            exact ⟨.inl ⟨_, rfl⟩, .inl ⟨_, rfl⟩, .inl ⟨_, rfl⟩, .inl ⟨_, rfl⟩, .inl ⟨_, rfl⟩, (OwnRow.nil.kok (by simp)).2.1⟩
          · simp [Dj, blkOf]
          · simp only [List.forall_mem_cons, List.not_mem_nil, false_implies, implies_true, and_true]
            exact ⟨fun b hb => by simp [blkOf] at hb, fun b hb => by simp [blkOf] at hb, fun b hb => by simp [blkOf] at hb, fun b hb => by simp [blkOf] at hb, fun b hb => by simp [blkOf] at hb, fun b hb => hb⟩
          · simp -implicitDefEqProofs only [kz, kk0, kk1, kk2, kk3, ↓two_true, ↓two_false, mkv, aggAt, Nat.reduceLeDiff, Nat.reduceSub, Nat.reduceMul, implies_true, Nat.reduceEqDiff, reduceIte, Nat.reduceAdd, Nat.reduceBEq, reduceCtorEq, al66, ap29_29, ap64_64, bd66, bd71, bs29_1, bs64_1, fa63_0, fa63_1, fa63_2, fa66_0, fa66_2, fa66_3, fa71_0, fa71_1, ld3, ld4, ld22, ld64, ld66, ln22, st3, st64, st66, h4, h5, h6, wk]
            simp only [List.map_cons, List.map_nil, cv_int, (OwnRow.nil (H := H13).kok (by simp)).2.2] at q15
            have q16 := q15.sel2 [0, 2] (by decide) rfl
            simp only [List.filterMap_cons, List.filterMap_nil, List.getElem?_cons_zero, List.getElem?_cons_succ] at q16
            refine ⟨k, by omega, _, _, m + 1, _, _, sl12, _, r.drop 5, rfl, rfl, by omega, q16, r12, fun hb => ?_, fun _ => ⟨by omega, g4⟩, fun hb => .inr ?_⟩
            · have h5' : ¬ r.length < 5 := by simpa using hb
              rw [g1]
              exact rdAll_ok (by unfold rdIns; rw [if_neg h5', if_neg hop])
            · have h5' : r.length < 5 := by simpa using hb
              rw [g1, rdAll_bad (by unfold rdIns; rw [if_pos h5'])]; rfl
      · obtain rfl : bad = true := by simpa using u2
        try simp -implicitDefEqProofs only [kz, kk0, kk1, kk2, kk3, ↓two_true, ↓two_false, mkv, aggAt, Nat.reduceLeDiff, Nat.reduceSub, Nat.reduceMul, implies_true, Nat.reduceEqDiff, reduceIte, Nat.reduceAdd, Nat.reduceBEq, reduceCtorEq, al66, ap29_29, ap64_64, bd66, bd71, bs29_1, bs64_1, fa63_0, fa63_1, fa63_2, fa66_0, fa66_2, fa66_3, fa71_0, fa71_1, ld3, ld4, ld22, ld64, ld66, ln22, st3, st64, st66, h4, h5, h6, q.rd 1 rfl]
        rw [rdR_bad hK (g2 rfl)]
        exact ⟨⟨_, 0, [], rfl, New.nil, rfl, by omega⟩, q.ext⟩
    · have hk0 : k = 0 := by have h5 := of_decide_eq_false u1; omega
      subst hk0
      cases bad with
      | true =>
        try simp -implicitDefEqProofs only [kz, kk0, kk1, kk2, kk3, ↓two_true, ↓two_false, mkv, aggAt, Nat.reduceLeDiff, Nat.reduceSub, Nat.reduceMul, implies_true, Nat.reduceEqDiff, reduceIte, Nat.reduceAdd, Nat.reduceBEq, reduceCtorEq, al66, ap29_29, ap64_64, bd66, bd71, bs29_1, bs64_1, fa63_0, fa63_1, fa63_2, fa66_0, fa66_2, fa66_3, fa71_0, fa71_1, ld3, ld4, ld22, ld64, ld66, ln22, st3, st64, st66, h4, h5, h6, q.rd 1 rfl]
        rw [rdR_bad hK (g2 rfl)]
        exact ⟨⟨_, 0, [], rfl, New.nil, rfl, by omega⟩, q.ext⟩
      | false =>
        obtain ⟨g3, g4⟩ := g0 rfl
        have g1 := g1 rfl
        simp only [rdAll, Option.map_some, List.append_nil] at g1
        have hR := rdR_go hK g4 g1
        obtain ⟨ra, rc, e, -⟩ := ro.row.op
        subst e
        obtain ⟨nw, hV⟩ := q.new 0 rfl
        have hmK : m = K := by omega
        subst hmK
        simp -implicitDefEqProofs only [kz, kk0, kk1, kk2, kk3, ↓two_true, ↓two_false, mkv, aggAt, Nat.reduceLeDiff, Nat.reduceSub, Nat.reduceMul, implies_true, Nat.reduceEqDiff, reduceIte, Nat.reduceAdd, Nat.reduceBEq, reduceCtorEq, al66, ap29_29, ap64_64, bd66, bd71, bs29_1, bs64_1, fa63_0, fa63_1, fa63_2, fa66_0, fa66_2, fa66_3, fa71_0, fa71_1, ld3, ld4, ld22, ld64, ld66, ln22, st3, st64, st66, h4, h5, h6, q.rd 1 rfl]
        refine two_intro (fun u2 => ?_) (fun u2 => ?_)
        · have hr : r ≠ [] := by rintro rfl; simp at u2
          rw [if_neg (fun h => hr h.1)] at hR
          try simp -implicitDefEqProofs only [kz, kk0, kk1, kk2, kk3, ↓two_true, ↓two_false, mkv, aggAt, Nat.reduceLeDiff, Nat.reduceSub, Nat.reduceMul, implies_true, Nat.reduceEqDiff, reduceIte, Nat.reduceAdd, Nat.reduceBEq, reduceCtorEq, al66, ap29_29, ap64_64, bd66, bd71, bs29_1, bs64_1, fa63_0, fa63_1, fa63_2, fa66_0, fa66_2, fa66_3, fa71_0, fa71_1, ld3, ld4, ld22, ld64, ld66, ln22, st3, st64, st66, h4, h5, h6, q.rd 1 rfl]
          rw [hR]
          exact ⟨⟨_, 0, [], rfl, New.nil, rfl, by omega⟩, q.ext⟩
        · have hr : r = [] := by
            cases r with
            | nil => rfl
            | cons x t => exfalso; simp at u2
          subst hr
          have hc := implCodeOk_ok nw.ot.frow (by omega)
          rw [hV] at hc
          refine hc.mono ?_
          rintro _ H30 ⟨rfl, hK30⟩
          have q30 := q.extd hK30
          simp only [true_and] at hR
          try simp -implicitDefEqProofs only [kz, kk0, kk1, kk2, kk3, ↓two_true, ↓two_false, mkv, aggAt, Nat.reduceLeDiff, Nat.reduceSub, Nat.reduceMul, implies_true, Nat.reduceEqDiff, reduceIte, Nat.reduceAdd, Nat.reduceBEq, reduceCtorEq, al66, ap29_29, ap64_64, bd66, bd71, bs29_1, bs64_1, fa63_0, fa63_1, fa63_2, fa66_0, fa66_2, fa66_3, fa71_0, fa71_1, ld3, ld4, ld22, ld64, ld66, ln22, st3, st64, st66, h4, h5, h6, q30.rd 1 rfl]
          refine two_intro (fun u3 => ?_) (fun u3 => ?_)
          · have hk : cdOk (insL V m) = false := by simpa using u3
            rw [hk, if_neg (by decide)] at hR
            try simp -implicitDefEqProofs only [kz, kk0, kk1, kk2, kk3, ↓two_true, ↓two_false, mkv, aggAt, Nat.reduceLeDiff, Nat.reduceSub, Nat.reduceMul, implies_true, Nat.reduceEqDiff, reduceIte, Nat.reduceAdd, Nat.reduceBEq, reduceCtorEq, al66, ap29_29, ap64_64, bd66, bd71, bs29_1, bs64_1, fa63_0, fa63_1, fa63_2, fa66_0, fa66_2, fa66_3, fa71_0, fa71_1, ld3, ld4, ld22, ld64, ld66, ln22, st3, st64, st66, h4, h5, h6, q30.rd 1 rfl]
            rw [hR]
            exact ⟨⟨_, 0, [], rfl, New.nil, rfl, by omega⟩, q30.ext⟩
          · have hk : cdOk (insL V m) = true := by simpa using u3
            rw [hk, if_pos rfl] at hR
            try simp -implicitDefEqProofs only [kz, kk0, kk1, kk2, kk3, ↓two_true, ↓two_false, mkv, aggAt, Nat.reduceLeDiff, Nat.reduceSub, Nat.reduceMul, implies_true, Nat.reduceEqDiff, reduceIte, Nat.reduceAdd, Nat.reduceBEq, reduceCtorEq, al66, ap29_29, ap64_64, bd66, bd71, bs29_1, bs64_1, fa63_0, fa63_1, fa63_2, fa66_0, fa66_2, fa66_3, fa71_0, fa71_1, ld3, ld4, ld22, ld64, ld66, ln22, st3, st64, st66, h4, h5, h6, q30.rd 1 rfl]
            rw [hR]
            obtain ⟨nw, hV⟩ := q30.new 0 rfl
            exact ⟨⟨_, m, xs, rfl, nw, hV, by omega⟩, q30.ext⟩

theorem u8_mod {x : Int} : IntKind.u8.wrap x = x % 256 := by
  unfold IntKind.wrap
  have e1 : IntKind.u8.signed = false := rfl
  have e2 : (2 : Int) ^ IntKind.u8.bits = 256 := by decide
  rw [e1, e2, if_neg (by simp)]
theorem u8_inB {x : Int} (h : 0 ≤ x ∧ x ≤ 255) : IntKind.u8.wrap x = x := by rw [u8_mod]; omega
theorem insL_cons {cs W : List CV} {k : Nat} (h : cs.length = 6) : insL (cs ++ W) (k + 1) = insOf cs :: insL W k := by
  unfold insL chunk
  rw [List.range_succ_eq_map, List.map_cons, List.map_cons, List.map_map, List.map_map, List.map_map]
  congr 1
  · rw [Nat.zero_mul, List.drop_zero, ← h, List.take_left]
  · refine List.map_congr_left fun i _ => ?_
    simp only [Function.comp_apply]
    rw [show (i + 1) * 6 = cs.length + i * 6 by omega, ← List.drop_drop, List.drop_left]
theorem strOf_go : ∀ {l : List Int} {r : ByteArray}, (l.foldl (fun r n => r.push (UInt8.ofNat n.toNat)) r).data.toList = r.data.toList ++ l.map fun n => UInt8.ofNat n.toNat
  | [], r => by simp
  | x :: t, r => by
    rw [List.foldl_cons, strOf_go, List.map_cons]
    have : (r.push (UInt8.ofNat x.toNat)).data.toList = r.data.toList ++ [UInt8.ofNat x.toNat] := by
      rw [ByteArray.push]
      simp
    rw [this, List.append_assoc]
    rfl
theorem strOf_list {l : List Int} : (strOf l).data.toList = l.map fun n => UInt8.ofNat n.toNat := by
  unfold strOf
  rw [strOf_go]
  rfl
theorem u8s_bts : ∀ {l : List Int}, u8s (bts l) = some l
  | [] => rfl
  | x :: t => by
    show (u8s (bts t)).map (x :: ·) = _
    rw [u8s_bts]; rfl
theorem ByRow.cells {H : AH} {v : Value} {l : List Int} (h : ByRow H v l) : aCells v 1 H.get = some (bts l) := by
  rcases h with ⟨rfl, rfl⟩ | ⟨b, o, cs, rfl, h1, h2, h3⟩
  · rfl
  · unfold rd rdB at h1
    show (match H.get b with | some ⟨cs, st⟩ => if st = St.dead then none else cellsAt cs o (l.length * 1) | none => none) = _
    unfold AH.get
    cases hb : H[b]? with
    | none => rw [hb] at h1; cases h1
    | some k =>
      rw [hb] at h1
      obtain ⟨ks, st⟩ := k
      cases st with
      | dead => cases h1
      | ro =>
        cases h1
        simp only [Nat.mul_one, cellsAt, if_pos h2, h3, reduceCtorEq, if_false]
      | own =>
        cases h1
        simp only [Nat.mul_one, cellsAt, if_pos h2, h3, reduceCtorEq, if_false]
theorem ByRow.str {P : Program} {H : AH} {v : Value} {l : List Int} {s d e : TypeId} (h : ByRow H v l) (hs : P.underlying s = some (.slice e)) (hd : P.underlying d = some .string) (he : P.underlying e = some (.int .u8)) : aConv P s d v H.get = some (.string (strOf l)) := by
  have h1 : scal1 v = false := by obtain ⟨a, c, rfl, -⟩ := h.op; rfl
  unfold aConv
  rw [if_neg (by rw [h1]; decide), hs, hd]
  simp only [he, h.cells, Option.bind_some, u8s_bts, Option.map_some]
theorem byOk_pkA_u {x : Int} : 0 ≤ IntKind.u8.wrap x ∧ IntKind.u8.wrap x ≤ 255 := by
  unfold IntKind.wrap
  have e1 : IntKind.u8.signed = false := rfl
  have e2 : (2 : Int) ^ IntKind.u8.bits = 256 := by decide
  rw [e1, e2, if_neg (by simp)]
  omega

theorem byOk_le8 {y : Int} : byOk (le8 y) := fun x hx => by
  obtain ⟨j, _, rfl⟩ := List.mem_map.1 hx
  exact byOk_pkA_u
theorem byOk_pkI {x : Ins} : byOk (pkI x) := fun y hy => by
  unfold pkI at hy
  rcases List.mem_append.1 hy with hy | hy
  · obtain ⟨z, _, rfl⟩ := List.mem_map.1 hy
    exact byOk_pkA_u
  · split at hy
    · rcases List.mem_append.1 hy with hy | hy
      · simp only [List.mem_cons, List.not_mem_nil, or_false] at hy
        rcases hy with rfl | rfl <;> exact byOk_pkA_u
      · obtain ⟨n, _, hy⟩ := List.mem_flatMap.1 hy
        exact byOk_le8 y hy
    · simp at hy
theorem byOk_pkA {l : List Ins} : byOk (pkA l) := fun y hy => by
  unfold pkA pkG at hy
  split at hy
  · rcases List.mem_cons.1 hy with rfl | hy
    · exact byOk_pkA_u
    · obtain ⟨n, _, hy⟩ := List.mem_flatMap.1 hy
      exact byOk_pkI y hy
  · simp at hy
theorem add_str {P : Program} {t : TypeId} {x y : Operand} {p q : ByteArray} : aBin P .add t x y (.string p) (.string q) = if p.size + q.size ≤ 9223372036854775807 then some (.string (p ++ q)) else none := by
  split
  · rename_i h; exact bin_str_add h
  · rename_i h
    have : (((p.size + q.size : Nat) : Int) > IntKind.i64.max) := by
      have : IntKind.i64.max = 9223372036854775807 := by decide
      omega
    simp only [aBin, scal, scal1, eqGuard, binOp, Op.stringOp, runP, told, pure, bind, Sem.bind, if_pos this]
    simp [runP, unsupported, Sem.bind]
def strs (N : Nat) (l : List Value) : Bool := l.all fun v => match v with | .string s => decide (s.size ≤ N) | _ => false
theorem strs_get {N : Nat} {l : List Value} {i : Nat} (h : strs N l = true) (hi : i < l.length) : ∃ s : ByteArray, l[i]? = some (.string s) ∧ s.size ≤ N := by
  have h1 := List.all_eq_true.1 h l[i] (List.getElem_mem hi)
  rw [List.getElem?_eq_getElem hi]
  cases hv : l[i] with
  | string s => rw [hv] at h1; exact ⟨s, rfl, of_decide_eq_true h1⟩
  | _ => rw [hv] at h1; cases h1
/-- A drawn text. -/
def StrA (cb : Nat) (H : AH) (N : Nat) (r : Value) (H' : AH) : Prop := (∃ s : ByteArray, r = .string s ∧ s.size ≤ N) ∧ Frm cb H H'

theorem l1Pick_gen {H : AH} {cb b n N : Nat} {cs : List Value} (hc : Cur H cb) (hb : H[b]? = some ⟨cs, .own⟩) (hbc : b ≠ cb) (hs : strs N cs = true) (hn : n = cs.length) (h0 : 0 < n) :
    CallsA Try.prog 94 #[.pointer (some ⟨cb, 0, none⟩), .slice (some ⟨b, 0, none⟩) n 1] H (StrA cb H N) := by
  refine w94 ?_
  unfold k94
  simp -implicitDefEqProofs only [kz, kk0, kk1, kk2, kk3, ↓two_true, ↓two_false, oS_some, oM_some, mkv, aggAt, Nat.reduceLeDiff, Nat.reduceSub, Nat.reduceMul, implies_true, Nat.reduceEqDiff, reduceIte, Nat.reduceAdd, Nat.reduceBEq, reduceCtorEq, ix98, ld9, ln98]
  refine (l1Below_ok hc).mono ?_
  rintro _ H1 ⟨⟨v, rfl, _, h2⟩, hf⟩
  obtain ⟨v0, v1⟩ := h2 (by omega)
  have hb1 := hf.at hb hbc
  obtain ⟨j, rfl⟩ : ∃ j : Nat, v = j := ⟨v.toNat, by omega⟩
  have hj : j < cs.length := by omega
  obtain ⟨s, hs1, hs2⟩ := strs_get hs hj
  simp -implicitDefEqProofs only [kz, kk0, kk1, kk2, kk3, ↓two_true, ↓two_false, oS_some, oM_some, mkv, aggAt, Nat.reduceLeDiff, Nat.reduceSub, Nat.reduceMul, implies_true, Nat.reduceEqDiff, reduceIte, Nat.reduceAdd, Nat.reduceBEq, reduceCtorEq, ix98, ld9, ln98, Int.toNat_natCast, Nat.mul_one, rd_own hb1, hs1]
  exact ⟨⟨by omega, by omega⟩, ⟨s, rfl, hs2⟩, hf⟩
set_option maxHeartbeats 4000000 in
theorem l1Pick_ok {H : AH} {cb n : Nat} {cs : List Value} (N : Nat) (hc : Cur H cb) (hs : strs N cs = true) (hn : n = cs.length) (h0 : 0 < n) :
    CallsA Try.prog 94 #[.pointer (some ⟨cb, 0, none⟩), .slice (some ⟨H.length, 0, none⟩) n 1] (H ++ [⟨cs, .own⟩]) (StrA cb H N) := by
  have hlt := hc.lt
  refine (l1Pick_gen hc.mono (by rw [gt0]; rfl) (by omega) hs hn h0).mono ?_
  rintro r H1 ⟨h1, h2⟩
  exact ⟨h1, (Frm.refl hc).app.trans h2⟩

set_option maxHeartbeats 4000000 in
theorem l8DrawFun_ok {H : AH} {cb : Nat} {two' : Bool} (hc : Cur H cb) : CallsA Try.prog 95 #[.pointer (some ⟨cb, 0, none⟩), .bool two'] H (StrA cb H 5) := by
  refine w95 ?_
  unfold k95
  simp -implicitDefEqProofs only [kz, kk0, kk1, kk2, kk3, ↓two_true, ↓two_false, oS_some, oM_some, mkv, aggAt, Nat.reduceLeDiff, Nat.reduceSub, Nat.reduceMul, implies_true, Nat.reduceEqDiff, reduceIte, Nat.reduceAdd, Nat.reduceBEq, reduceCtorEq, bs98_2, bs98_6, bs98_9, bs98_10, bs98_11]
  refine CallsA.mono (l1Pick_ok 1 hc (by rfl) rfl (by decide)) ?_
  rintro _ H1 ⟨⟨s, rfl, hs⟩, hf⟩
  cases two' with
  | true =>
    simp -implicitDefEqProofs only [kz, kk0, kk1, kk2, kk3, ↓two_true, ↓two_false, oS_some, oM_some, mkv, aggAt, Nat.reduceLeDiff, Nat.reduceSub, Nat.reduceMul, implies_true, Nat.reduceEqDiff, reduceIte, Nat.reduceAdd, Nat.reduceBEq, reduceCtorEq, bs98_2, bs98_6, bs98_9, bs98_10, bs98_11, add_str]
    refine (l1Once_ok hf.cur).mono ?_
    rintro _ H2 ⟨⟨b, rfl⟩, hg⟩
    have hf := hf.trans hg
    simp -implicitDefEqProofs only [kz, kk0, kk1, kk2, kk3, ↓two_true, ↓two_false, oS_some, oM_some, mkv, aggAt, Nat.reduceLeDiff, Nat.reduceSub, Nat.reduceMul, implies_true, Nat.reduceEqDiff, reduceIte, Nat.reduceAdd, Nat.reduceBEq, reduceCtorEq, bs98_2, bs98_6, bs98_9, bs98_10, bs98_11, add_str]
    refine two_intro (fun _ => ?_) (fun _ => ?_)
    · refine ⟨by show 2 + s.size ≤ _; omega, ⟨_, rfl, ?_⟩, hf⟩
      rw [ByteArray.size_append]; show 2 + s.size ≤ _; omega
    · refine (l1Once_ok hf.cur).mono ?_
      rintro _ H3 ⟨⟨b3, rfl⟩, hg⟩
      have hf := hf.trans hg
      simp -implicitDefEqProofs only [kz, kk0, kk1, kk2, kk3, ↓two_true, ↓two_false, oS_some, oM_some, mkv, aggAt, Nat.reduceLeDiff, Nat.reduceSub, Nat.reduceMul, implies_true, Nat.reduceEqDiff, reduceIte, Nat.reduceAdd, Nat.reduceBEq, reduceCtorEq, bs98_2, bs98_6, bs98_9, bs98_10, bs98_11, add_str]
      refine two_intro (fun _ => ?_) (fun _ => ?_)
      · refine ⟨by show s.size + 3 ≤ _; omega, ?_⟩
        refine CallsA.mono (l1Pick_ok 1 hf.cur (by rfl) rfl (by decide)) ?_
        rintro _ H4 ⟨⟨z, rfl, hz⟩, hg⟩
        have hf := hf.trans hg
        have h1 : (s ++ ⟨#[32, 46, 32]⟩ : ByteArray).size = s.size + 3 := by rw [ByteArray.size_append]; rfl
        simp -implicitDefEqProofs only [kz, kk0, kk1, kk2, kk3, ↓two_true, ↓two_false, oS_some, oM_some, mkv, aggAt, Nat.reduceLeDiff, Nat.reduceSub, Nat.reduceMul, implies_true, Nat.reduceEqDiff, reduceIte, Nat.reduceAdd, Nat.reduceBEq, reduceCtorEq, bs98_2, bs98_6, bs98_9, bs98_10, bs98_11, add_str]
        refine ⟨by omega, ⟨_, rfl, ?_⟩, hf⟩
        rw [ByteArray.size_append]; omega
      · refine (l1Once_ok hf.cur).mono ?_
        rintro _ H4 ⟨⟨b4, rfl⟩, hg⟩
        have hf := hf.trans hg
        simp -implicitDefEqProofs only [kz, kk0, kk1, kk2, kk3, ↓two_true, ↓two_false, oS_some, oM_some, mkv, aggAt, Nat.reduceLeDiff, Nat.reduceSub, Nat.reduceMul, implies_true, Nat.reduceEqDiff, reduceIte, Nat.reduceAdd, Nat.reduceBEq, reduceCtorEq, bs98_2, bs98_6, bs98_9, bs98_10, bs98_11, add_str]
        refine two_intro (fun _ => ?_) (fun _ => ?_)
        · exact ⟨⟨_, rfl, by omega⟩, hf⟩
        · refine CallsA.mono (l1Pick_ok 1 hf.cur (by rfl) rfl (by decide)) ?_
          rintro _ H5 ⟨⟨z, rfl, hz⟩, hg⟩
          simp -implicitDefEqProofs only [kz, kk0, kk1, kk2, kk3, ↓two_true, ↓two_false, oS_some, oM_some, mkv, aggAt, Nat.reduceLeDiff, Nat.reduceSub, Nat.reduceMul, implies_true, Nat.reduceEqDiff, reduceIte, Nat.reduceAdd, Nat.reduceBEq, reduceCtorEq, bs98_2, bs98_6, bs98_9, bs98_10, bs98_11, add_str]
          exact ⟨⟨_, rfl, by omega⟩, hf.trans hg⟩
  | false =>
    simp -implicitDefEqProofs only [kz, kk0, kk1, kk2, kk3, ↓two_true, ↓two_false, oS_some, oM_some, mkv, aggAt, Nat.reduceLeDiff, Nat.reduceSub, Nat.reduceMul, implies_true, Nat.reduceEqDiff, reduceIte, Nat.reduceAdd, Nat.reduceBEq, reduceCtorEq, bs98_2, bs98_6, bs98_9, bs98_10, bs98_11, add_str]
    refine (l1Once_ok hf.cur).mono ?_
    rintro _ H2 ⟨⟨b, rfl⟩, hg⟩
    have hf := hf.trans hg
    simp -implicitDefEqProofs only [kz, kk0, kk1, kk2, kk3, ↓two_true, ↓two_false, oS_some, oM_some, mkv, aggAt, Nat.reduceLeDiff, Nat.reduceSub, Nat.reduceMul, implies_true, Nat.reduceEqDiff, reduceIte, Nat.reduceAdd, Nat.reduceBEq, reduceCtorEq, bs98_2, bs98_6, bs98_9, bs98_10, bs98_11, add_str]
    refine two_intro (fun _ => ?_) (fun _ => ?_)
    · refine ⟨by show s.size + 1 ≤ _; omega, ?_⟩
      refine CallsA.mono (l1Pick_ok 1 hf.cur (by rfl) rfl (by decide)) ?_
      rintro _ H4 ⟨⟨z, rfl, hz⟩, hg⟩
      have hf := hf.trans hg
      have h1 : (s ++ ⟨#[32]⟩ : ByteArray).size = s.size + 1 := by rw [ByteArray.size_append]; rfl
      simp -implicitDefEqProofs only [kz, kk0, kk1, kk2, kk3, ↓two_true, ↓two_false, oS_some, oM_some, mkv, aggAt, Nat.reduceLeDiff, Nat.reduceSub, Nat.reduceMul, implies_true, Nat.reduceEqDiff, reduceIte, Nat.reduceAdd, Nat.reduceBEq, reduceCtorEq, bs98_2, bs98_6, bs98_9, bs98_10, bs98_11, add_str]
      refine ⟨by omega, ⟨_, rfl, ?_⟩, hf⟩
      rw [ByteArray.size_append]; omega
    · refine CallsA.mono (l1Pick_ok 1 hf.cur (by rfl) rfl (by decide)) ?_
      rintro _ H5 ⟨⟨z, rfl, hz⟩, hg⟩
      simp -implicitDefEqProofs only [kz, kk0, kk1, kk2, kk3, ↓two_true, ↓two_false, oS_some, oM_some, mkv, aggAt, Nat.reduceLeDiff, Nat.reduceSub, Nat.reduceMul, implies_true, Nat.reduceEqDiff, reduceIte, Nat.reduceAdd, Nat.reduceBEq, reduceCtorEq, bs98_2, bs98_6, bs98_9, bs98_10, bs98_11, add_str]
      exact ⟨⟨_, rfl, by omega⟩, hf.trans hg⟩

theorem conv1 {H : AH} {x : Int} : aConv Try.prog 22 9 (.slice (some ⟨H.length, 0, none⟩) 1 1) (H ++ [⟨[.int .u8 x], .own⟩] : AH).get = some (.string (strOf [x])) :=
  ByRow.str (H := H ++ [⟨[.int .u8 x], .own⟩]) (l := [x]) (e := 5) (.inr ⟨H.length, 0, [.int .u8 x], rfl, rd_own (by rw [gt0]; rfl), by simp, rfl⟩) (by kernel_rfl) (by kernel_rfl) (by kernel_rfl)
theorem strOf_size {l : List Int} : (strOf l).size = l.length := by
  have h := congrArg List.length (strOf_list (l := l))
  rw [Array.length_toList, List.length_map] at h
  exact h
theorem l8Digits_pos {H : AH} {n : Int} (h : 0 ≤ n ∧ n ≤ 1000000000000) : CallsA Try.prog 105 #[.int .i64 n] H fun r H' => (∃ s : ByteArray, r = .string s ∧ s.size ≤ 13) ∧ ∃ K, H' = H ++ K := by
  have d1 : decide (n < 0) = false := decide_eq_false (by omega)
  refine w105 ?_
  unfold k105
  simp -implicitDefEqProofs only [kz, kk0, kk1, kk2, kk3, ↓two_true, ↓two_false, oS_some, oM_some, mkv, aggAt, Nat.reduceLeDiff, Nat.reduceSub, Nat.reduceMul, implies_true, Nat.reduceEqDiff, reduceIte, Nat.reduceAdd, Nat.reduceBEq, reduceCtorEq, bs22_1, cv3_5, d1]
  refine two_intro (fun _ => ⟨⟨_, rfl, by decide⟩, [], by simp⟩) (fun h0 => ?_)
  have h0 : n ≠ 0 := by simpa using h0
  refine rW_loop (σ := Nat × Nat) (fun (m, k) tm H' => tm 0 = .int .i64 m ∧ (∃ s : ByteArray, tm 3 = .string s ∧ s.size = k) ∧ k ≤ 13 ∧ m < 10 ^ (13 - k) ∧ ∃ K, H' = H ++ K) (fun x => x.1) (n.toNat, 0) ?_ ?_
  · refine ⟨?_, ⟨_, rfl, rfl⟩, by omega, ?_, [], by simp⟩
    · simp -implicitDefEqProofs only [kz, kk0, kk1, kk2, kk3, ↓two_true, ↓two_false, oS_some, oM_some, mkv, aggAt, Nat.reduceLeDiff, Nat.reduceSub, Nat.reduceMul, implies_true, Nat.reduceEqDiff, reduceIte, Nat.reduceAdd, Nat.reduceBEq, reduceCtorEq, bs22_1, cv3_5]
      congr 1; omega
    · have : (10 : Nat) ^ (13 - 0) = 10000000000000 := by decide
      omega
  · rintro ⟨m, k⟩ tm H1 ⟨t0, ⟨s, t3, hk⟩, hk13, hm, he⟩
    simp -implicitDefEqProofs only [kz, kk0, kk1, kk2, kk3, ↓two_true, ↓two_false, oS_some, oM_some, mkv, aggAt, Nat.reduceLeDiff, Nat.reduceSub, Nat.reduceMul, implies_true, Nat.reduceEqDiff, reduceIte, Nat.reduceAdd, Nat.reduceBEq, reduceCtorEq, bs22_1, cv3_5, t0, t3]
    refine two_intro (fun u => ?_) (fun u => ?_)
    · have hm0 : 0 < m := by have := of_decide_eq_true u; omega
      have hk12 : k < 13 := by
        rcases Nat.lt_or_ge k 13 with e | e
        · exact e
        · have : k = 13 := by omega
          subst this
          simp at hm; omega
      have hm13 : (10 : Nat) ^ (13 - k) ≤ 10 ^ 13 := Nat.pow_le_pow_right (by decide) (by omega)
      have h13 : (10 : Nat) ^ 13 = 10000000000000 := by decide
      have r1 : (m : Int).tmod 10 = ((m % 10 : Nat) : Int) := by rw [Int.tmod_eq_emod_of_nonneg (by omega)]; omega
      have q1 : (m : Int).tdiv 10 = ((m / 10 : Nat) : Int) := by rw [Int.tdiv_eq_ediv_of_nonneg (by omega)]; omega
      simp -implicitDefEqProofs only [kz, kk0, kk1, kk2, kk3, ↓two_true, ↓two_false, oS_some, oM_some, mkv, aggAt, Nat.reduceLeDiff, Nat.reduceSub, Nat.reduceMul, implies_true, Nat.reduceEqDiff, reduceIte, Nat.reduceAdd, Nat.reduceBEq, reduceCtorEq, bs22_1, cv3_5, t0, t3, bin_rem (show (10 : Int) ≠ 0 by decide), bin_quo (show (10 : Int) ≠ 0 by decide), r1, q1, conv1, add_str]
      have z1 : ∀ x : Int, (strOf [x]).size = 1 := fun x => strOf_size
      refine ⟨by rw [z1]; omega, (m / 10, k + 1), by simp only; omega, ?_, ⟨_, rfl, by rw [ByteArray.size_append, z1]; omega⟩, hk12, ?_, app_ext he⟩
      · rw [IntWalk.i64_in _ (by omega)]
      · have e1 : 13 - k = (13 - (k + 1)) + 1 := by omega
        rw [e1, Nat.pow_succ] at hm
        simp only
        generalize (10 : Nat) ^ (13 - (k + 1)) = w at *
        omega
    · try simp -implicitDefEqProofs only [kz, kk0, kk1, kk2, kk3, ↓two_true, ↓two_false, oS_some, oM_some, mkv, aggAt, Nat.reduceLeDiff, Nat.reduceSub, Nat.reduceMul, implies_true, Nat.reduceEqDiff, reduceIte, Nat.reduceAdd, Nat.reduceBEq, reduceCtorEq, bs22_1, cv3_5, t0, t3]
      exact ⟨⟨s, rfl, by omega⟩, he⟩
set_option maxHeartbeats 4000000 in
theorem l8Digits_ok {H : AH} {n : Int} (h : -1000000000000 ≤ n ∧ n ≤ 1000000000000) : CallsA Try.prog 105 #[.int .i64 n] H fun r H' => (∃ s : ByteArray, r = .string s ∧ s.size ≤ 14) ∧ ∃ K, H' = H ++ K := by
  rcases Int.lt_or_le n 0 with hn | hn
  · have d1 : decide (n < 0) = true := decide_eq_true hn
    have w1 : IntKind.i64.wrap (0 - n) = 0 - n := IntWalk.i64_in _ (by omega)
    refine w105 ?_
    unfold k105
    simp -implicitDefEqProofs only [kz, kk0, kk1, kk2, kk3, ↓two_true, ↓two_false, oS_some, oM_some, mkv, aggAt, Nat.reduceLeDiff, Nat.reduceSub, Nat.reduceMul, implies_true, Nat.reduceEqDiff, reduceIte, Nat.reduceAdd, Nat.reduceBEq, reduceCtorEq, bs22_1, cv3_5, d1, w1]
    refine (l8Digits_pos (by omega)).mono ?_
    rintro _ H1 ⟨⟨s, rfl, hs⟩, he⟩
    simp -implicitDefEqProofs only [kz, kk0, kk1, kk2, kk3, ↓two_true, ↓two_false, oS_some, oM_some, mkv, aggAt, Nat.reduceLeDiff, Nat.reduceSub, Nat.reduceMul, implies_true, Nat.reduceEqDiff, reduceIte, Nat.reduceAdd, Nat.reduceBEq, reduceCtorEq, bs22_1, cv3_5, add_str]
    refine ⟨by show 1 + s.size ≤ _; omega, ⟨_, rfl, ?_⟩, he⟩
    rw [ByteArray.size_append]; show 1 + s.size ≤ _; omega
  · refine (l8Digits_pos ⟨hn, h.2⟩).mono ?_
    rintro _ H1 ⟨⟨s, rfl, hs⟩, he⟩
    exact ⟨⟨s, rfl, by omega⟩, he⟩

set_option maxHeartbeats 4000000 in
theorem l8Op_step {cb d : Nat} {M M1 : Nat} (hM : 60 ≤ M) (h1 : d ≠ 0 → M1 + 4 ≤ M) (hM2 : M ≤ 1000000)
    (ih : d ≠ 0 → ∀ {H : AH}, Cur H cb → CallsA Try.prog 69 #[.pointer (some ⟨cb, 0, none⟩), .int .i64 ((d : Int) - 1)] H (StrA cb H M1)) {H : AH} (hc : Cur H cb) (hd : d ≤ 100) :
    CallsA Try.prog 93 #[.pointer (some ⟨cb, 0, none⟩), .int .i64 d] H (StrA cb H M) := by
  have wd : IntKind.i64.wrap ((d : Int) - 1) = (d : Int) - 1 := IntWalk.i64_in _ (by omega)
  refine w93 ?_
  unfold k93
  have hf := Frm.refl hc
  by_cases hd0 : d = 0
  · have dd : decide ((d : Int) > 0) = false := decide_eq_false (by omega)
    simp -implicitDefEqProofs only [kz, kk0, kk1, kk2, kk3, ↓two_true, ↓two_false, oS_some, oM_some, mkv, aggAt, Nat.reduceLeDiff, Nat.reduceSub, Nat.reduceMul, implies_true, Nat.reduceEqDiff, reduceIte, Nat.reduceAdd, Nat.reduceBEq, reduceCtorEq, bs98_3, bs98_6, add_str, wd, dd]
    refine (l1Once_ok hf.cur).mono ?_
    rintro _ H2 ⟨⟨b2, rfl⟩, hg⟩
    have hf := hf.trans hg
    simp -implicitDefEqProofs only [kz, kk0, kk1, kk2, kk3, ↓two_true, ↓two_false, oS_some, oM_some, mkv, aggAt, Nat.reduceLeDiff, Nat.reduceSub, Nat.reduceMul, implies_true, Nat.reduceEqDiff, reduceIte, Nat.reduceAdd, Nat.reduceBEq, reduceCtorEq, bs98_3, bs98_6, add_str]
    refine two_intro (fun _ => ?_) (fun _ => ?_)
    · refine CallsA.mono (l1Pick_ok 3 hf.cur (by rfl) rfl (by decide)) ?_
      rintro _ H4 ⟨⟨z, rfl, hz⟩, hg⟩
      simp -implicitDefEqProofs only [kz, kk0, kk1, kk2, kk3, ↓two_true, ↓two_false, oS_some, oM_some, mkv, aggAt, Nat.reduceLeDiff, Nat.reduceSub, Nat.reduceMul, implies_true, Nat.reduceEqDiff, reduceIte, Nat.reduceAdd, Nat.reduceBEq, reduceCtorEq, bs98_3, bs98_6, add_str]
      exact ⟨⟨_, rfl, by omega⟩, hf.trans hg⟩
    · refine (l1DrawNum_ok hf.cur).mono ?_
      rintro _ H3 ⟨⟨n, rfl, hn⟩, hg⟩
      have hf := hf.trans hg
      have hn' : -1000000000000 ≤ n ∧ n ≤ 1000000000000 := by simpa [numOk, inB] using hn
      simp -implicitDefEqProofs only [kz, kk0, kk1, kk2, kk3, ↓two_true, ↓two_false, oS_some, oM_some, mkv, aggAt, Nat.reduceLeDiff, Nat.reduceSub, Nat.reduceMul, implies_true, Nat.reduceEqDiff, reduceIte, Nat.reduceAdd, Nat.reduceBEq, reduceCtorEq, bs98_3, bs98_6, add_str]
      refine (l8Digits_ok hn').mono ?_
      rintro _ H4 ⟨⟨s, rfl, hs⟩, K4, rfl⟩
      have hf := hf.app (L := K4)
      simp -implicitDefEqProofs only [kz, kk0, kk1, kk2, kk3, ↓two_true, ↓two_false, oS_some, oM_some, mkv, aggAt, Nat.reduceLeDiff, Nat.reduceSub, Nat.reduceMul, implies_true, Nat.reduceEqDiff, reduceIte, Nat.reduceAdd, Nat.reduceBEq, reduceCtorEq, bs98_3, bs98_6, add_str]
      refine rW_loop (σ := Nat) (fun i tm H' => tm 0 = .pointer (some ⟨cb, 0, none⟩) ∧ (∃ s : ByteArray, tm 5 = .string s ∧ s.size ≤ 14 + 15 * i) ∧ tm 6 = .int .i64 i ∧ i ≤ 3 ∧ Frm cb H H') (fun i => 3 - i) 0 ?_ ?_
      · exact ⟨rfl, ⟨s, rfl, by omega⟩, rfl, by omega, hf⟩
      · clear hf hg hs hn hn'
        rintro i tm H5 ⟨t0, ⟨s, t5, hs⟩, t6, hi, hf⟩
        simp -implicitDefEqProofs only [kz, kk0, kk1, kk2, kk3, ↓two_true, ↓two_false, oS_some, oM_some, mkv, aggAt, Nat.reduceLeDiff, Nat.reduceSub, Nat.reduceMul, implies_true, Nat.reduceEqDiff, reduceIte, Nat.reduceAdd, Nat.reduceBEq, reduceCtorEq, bs98_3, bs98_6, add_str, t0, t5, t6]
        refine (l1Below_ok hf.cur).mono ?_
        rintro _ H6 ⟨⟨v, rfl, -, hv⟩, hg⟩
        have hv := hv (by decide)
        have hf := hf.trans hg
        simp -implicitDefEqProofs only [kz, kk0, kk1, kk2, kk3, ↓two_true, ↓two_false, oS_some, oM_some, mkv, aggAt, Nat.reduceLeDiff, Nat.reduceSub, Nat.reduceMul, implies_true, Nat.reduceEqDiff, reduceIte, Nat.reduceAdd, Nat.reduceBEq, reduceCtorEq, bs98_3, bs98_6, add_str, t0, t5, t6]
        refine two_intro (fun u => ?_) (fun u => ?_)
        · have hi3 : i < 3 := by have := of_decide_eq_true u; omega
          refine ⟨by show s.size + 1 ≤ _; omega, ?_⟩
          have e1 : (s ++ ⟨#[32]⟩ : ByteArray).size = s.size + 1 := by rw [ByteArray.size_append]; rfl
          generalize (s ++ ⟨#[32]⟩ : ByteArray) = s1 at *
          refine (l1Below_ok hf.cur).mono ?_
          rintro _ H7 ⟨⟨x, rfl, -, hx⟩, hg⟩
          have hx := hx (by decide)
          have hf := hf.trans hg
          have wx : IntKind.i64.wrap (x - 2) = x - 2 := IntWalk.i64_in _ (by omega)
          simp -implicitDefEqProofs only [kz, kk0, kk1, kk2, kk3, ↓two_true, ↓two_false, oS_some, oM_some, mkv, aggAt, Nat.reduceLeDiff, Nat.reduceSub, Nat.reduceMul, implies_true, Nat.reduceEqDiff, reduceIte, Nat.reduceAdd, Nat.reduceBEq, reduceCtorEq, bs98_3, bs98_6, add_str, t0, t5, t6, wx]
          refine (l8Digits_ok (by omega)).mono ?_
          rintro _ H8 ⟨⟨z, rfl, hz⟩, K8, rfl⟩
          have hf := hf.app (L := K8)
          have wi : IntKind.i64.wrap ((i : Int) + 1) = ((i + 1 : Nat) : Int) := IntWalk.i64_in ((i : Int) + 1) (by omega)
          simp -implicitDefEqProofs only [kz, kk0, kk1, kk2, kk3, ↓two_true, ↓two_false, oS_some, oM_some, mkv, aggAt, Nat.reduceLeDiff, Nat.reduceSub, Nat.reduceMul, implies_true, Nat.reduceEqDiff, reduceIte, Nat.reduceAdd, Nat.reduceBEq, reduceCtorEq, bs98_3, bs98_6, add_str, t0, t5, t6, wi]
          refine ⟨by omega, i + 1, by omega, ?_⟩
          first | exact ⟨⟨_, rfl, by rw [ByteArray.size_append]; omega⟩, rfl, hi3, hf⟩ | exact ⟨⟨_, rfl, by rw [ByteArray.size_append]; omega⟩, hi3, hf⟩
        · try simp -implicitDefEqProofs only [kz, kk0, kk1, kk2, kk3, ↓two_true, ↓two_false, oS_some, oM_some, mkv, aggAt, Nat.reduceLeDiff, Nat.reduceSub, Nat.reduceMul, implies_true, Nat.reduceEqDiff, reduceIte, Nat.reduceAdd, Nat.reduceBEq, reduceCtorEq, bs98_3, bs98_6, add_str, t0, t5, t6]
          refine (l1Once_ok hf.cur).mono ?_
          rintro _ H7 ⟨⟨b7, rfl⟩, hg⟩
          have hf := hf.trans hg
          simp -implicitDefEqProofs only [kz, kk0, kk1, kk2, kk3, ↓two_true, ↓two_false, oS_some, oM_some, mkv, aggAt, Nat.reduceLeDiff, Nat.reduceSub, Nat.reduceMul, implies_true, Nat.reduceEqDiff, reduceIte, Nat.reduceAdd, Nat.reduceBEq, reduceCtorEq, bs98_3, bs98_6, add_str, t0, t5, t6]
          refine two_intro (fun _ => ?_) (fun _ => ?_)
          · refine CallsA.mono (l1Pick_ok 3 hf.cur (by rfl) rfl (by decide)) ?_
            rintro _ H8 ⟨⟨z, rfl, hz⟩, hg⟩
            simp -implicitDefEqProofs only [kz, kk0, kk1, kk2, kk3, ↓two_true, ↓two_false, oS_some, oM_some, mkv, aggAt, Nat.reduceLeDiff, Nat.reduceSub, Nat.reduceMul, implies_true, Nat.reduceEqDiff, reduceIte, Nat.reduceAdd, Nat.reduceBEq, reduceCtorEq, bs98_3, bs98_6, add_str, t0, t5, t6]
            exact ⟨⟨_, rfl, by omega⟩, hf.trans hg⟩
          · exact ⟨⟨s, rfl, by omega⟩, hf⟩
  · have dd : decide ((d : Int) > 0) = true := decide_eq_true (by omega)
    simp -implicitDefEqProofs only [kz, kk0, kk1, kk2, kk3, ↓two_true, ↓two_false, oS_some, oM_some, mkv, aggAt, Nat.reduceLeDiff, Nat.reduceSub, Nat.reduceMul, implies_true, Nat.reduceEqDiff, reduceIte, Nat.reduceAdd, Nat.reduceBEq, reduceCtorEq, bs98_3, bs98_6, add_str, wd, dd]
    refine (l1Once_ok hf.cur).mono ?_
    rintro _ H1 ⟨⟨b1, rfl⟩, hg⟩
    have hf := hf.trans hg
    simp -implicitDefEqProofs only [kz, kk0, kk1, kk2, kk3, ↓two_true, ↓two_false, oS_some, oM_some, mkv, aggAt, Nat.reduceLeDiff, Nat.reduceSub, Nat.reduceMul, implies_true, Nat.reduceEqDiff, reduceIte, Nat.reduceAdd, Nat.reduceBEq, reduceCtorEq, bs98_3, bs98_6, add_str, wd]
    refine two_intro (fun _ => ?_) (fun _ => ?_)
    · refine (ih hd0 hf.cur).mono ?_
      rintro _ H2 ⟨⟨s, rfl, hs⟩, hg⟩
      have hm := h1 hd0
      simp -implicitDefEqProofs only [kz, kk0, kk1, kk2, kk3, ↓two_true, ↓two_false, oS_some, oM_some, mkv, aggAt, Nat.reduceLeDiff, Nat.reduceSub, Nat.reduceMul, implies_true, Nat.reduceEqDiff, reduceIte, Nat.reduceAdd, Nat.reduceBEq, reduceCtorEq, bs98_3, bs98_6, add_str, wd]
      have e1 : (⟨#[40, 32]⟩ ++ s : ByteArray).size = s.size + 2 := by rw [ByteArray.size_append]; show 2 + s.size = _; omega
      refine ⟨by show 2 + s.size ≤ _; omega, ⟨by rw [e1]; show s.size + 2 + 2 ≤ _; omega, ⟨_, rfl, ?_⟩, hf.trans hg⟩⟩
      rw [ByteArray.size_append, e1]; show s.size + 2 + 2 ≤ _; omega
    · refine (l1Once_ok hf.cur).mono ?_
      rintro _ H2 ⟨⟨b2, rfl⟩, hg⟩
      have hf := hf.trans hg
      simp -implicitDefEqProofs only [kz, kk0, kk1, kk2, kk3, ↓two_true, ↓two_false, oS_some, oM_some, mkv, aggAt, Nat.reduceLeDiff, Nat.reduceSub, Nat.reduceMul, implies_true, Nat.reduceEqDiff, reduceIte, Nat.reduceAdd, Nat.reduceBEq, reduceCtorEq, bs98_3, bs98_6, add_str]
      refine two_intro (fun _ => ?_) (fun _ => ?_)
      · refine CallsA.mono (l1Pick_ok 3 hf.cur (by rfl) rfl (by decide)) ?_
        rintro _ H4 ⟨⟨z, rfl, hz⟩, hg⟩
        simp -implicitDefEqProofs only [kz, kk0, kk1, kk2, kk3, ↓two_true, ↓two_false, oS_some, oM_some, mkv, aggAt, Nat.reduceLeDiff, Nat.reduceSub, Nat.reduceMul, implies_true, Nat.reduceEqDiff, reduceIte, Nat.reduceAdd, Nat.reduceBEq, reduceCtorEq, bs98_3, bs98_6, add_str]
        exact ⟨⟨_, rfl, by omega⟩, hf.trans hg⟩
      · refine (l1DrawNum_ok hf.cur).mono ?_
        rintro _ H3 ⟨⟨n, rfl, hn⟩, hg⟩
        have hf := hf.trans hg
        have hn' : -1000000000000 ≤ n ∧ n ≤ 1000000000000 := by simpa [numOk, inB] using hn
        simp -implicitDefEqProofs only [kz, kk0, kk1, kk2, kk3, ↓two_true, ↓two_false, oS_some, oM_some, mkv, aggAt, Nat.reduceLeDiff, Nat.reduceSub, Nat.reduceMul, implies_true, Nat.reduceEqDiff, reduceIte, Nat.reduceAdd, Nat.reduceBEq, reduceCtorEq, bs98_3, bs98_6, add_str]
        refine (l8Digits_ok hn').mono ?_
        rintro _ H4 ⟨⟨s, rfl, hs⟩, K4, rfl⟩
        have hf := hf.app (L := K4)
        simp -implicitDefEqProofs only [kz, kk0, kk1, kk2, kk3, ↓two_true, ↓two_false, oS_some, oM_some, mkv, aggAt, Nat.reduceLeDiff, Nat.reduceSub, Nat.reduceMul, implies_true, Nat.reduceEqDiff, reduceIte, Nat.reduceAdd, Nat.reduceBEq, reduceCtorEq, bs98_3, bs98_6, add_str]
        refine rW_loop (σ := Nat) (fun i tm H' => tm 0 = .pointer (some ⟨cb, 0, none⟩) ∧ (∃ s : ByteArray, tm 5 = .string s ∧ s.size ≤ 14 + 15 * i) ∧ tm 6 = .int .i64 i ∧ i ≤ 3 ∧ Frm cb H H') (fun i => 3 - i) 0 ?_ ?_
        · exact ⟨rfl, ⟨s, rfl, by omega⟩, rfl, by omega, hf⟩
        · clear hf hg hs hn hn'
          rintro i tm H5 ⟨t0, ⟨s, t5, hs⟩, t6, hi, hf⟩
          simp -implicitDefEqProofs only [kz, kk0, kk1, kk2, kk3, ↓two_true, ↓two_false, oS_some, oM_some, mkv, aggAt, Nat.reduceLeDiff, Nat.reduceSub, Nat.reduceMul, implies_true, Nat.reduceEqDiff, reduceIte, Nat.reduceAdd, Nat.reduceBEq, reduceCtorEq, bs98_3, bs98_6, add_str, t0, t5, t6]
          refine (l1Below_ok hf.cur).mono ?_
          rintro _ H6 ⟨⟨v, rfl, -, hv⟩, hg⟩
          have hv := hv (by decide)
          have hf := hf.trans hg
          simp -implicitDefEqProofs only [kz, kk0, kk1, kk2, kk3, ↓two_true, ↓two_false, oS_some, oM_some, mkv, aggAt, Nat.reduceLeDiff, Nat.reduceSub, Nat.reduceMul, implies_true, Nat.reduceEqDiff, reduceIte, Nat.reduceAdd, Nat.reduceBEq, reduceCtorEq, bs98_3, bs98_6, add_str, t0, t5, t6]
          refine two_intro (fun u => ?_) (fun u => ?_)
          · have hi3 : i < 3 := by have := of_decide_eq_true u; omega
            refine ⟨by show s.size + 1 ≤ _; omega, ?_⟩
            have e1 : (s ++ ⟨#[32]⟩ : ByteArray).size = s.size + 1 := by rw [ByteArray.size_append]; rfl
            generalize (s ++ ⟨#[32]⟩ : ByteArray) = s1 at *
            refine (l1Below_ok hf.cur).mono ?_
            rintro _ H7 ⟨⟨x, rfl, -, hx⟩, hg⟩
            have hx := hx (by decide)
            have hf := hf.trans hg
            have wx : IntKind.i64.wrap (x - 2) = x - 2 := IntWalk.i64_in _ (by omega)
            simp -implicitDefEqProofs only [kz, kk0, kk1, kk2, kk3, ↓two_true, ↓two_false, oS_some, oM_some, mkv, aggAt, Nat.reduceLeDiff, Nat.reduceSub, Nat.reduceMul, implies_true, Nat.reduceEqDiff, reduceIte, Nat.reduceAdd, Nat.reduceBEq, reduceCtorEq, bs98_3, bs98_6, add_str, t0, t5, t6, wx]
            refine (l8Digits_ok (by omega)).mono ?_
            rintro _ H8 ⟨⟨z, rfl, hz⟩, K8, rfl⟩
            have hf := hf.app (L := K8)
            have wi : IntKind.i64.wrap ((i : Int) + 1) = ((i + 1 : Nat) : Int) := IntWalk.i64_in ((i : Int) + 1) (by omega)
            simp -implicitDefEqProofs only [kz, kk0, kk1, kk2, kk3, ↓two_true, ↓two_false, oS_some, oM_some, mkv, aggAt, Nat.reduceLeDiff, Nat.reduceSub, Nat.reduceMul, implies_true, Nat.reduceEqDiff, reduceIte, Nat.reduceAdd, Nat.reduceBEq, reduceCtorEq, bs98_3, bs98_6, add_str, t0, t5, t6, wi]
            refine ⟨by omega, i + 1, by omega, ?_⟩
            first | exact ⟨⟨_, rfl, by rw [ByteArray.size_append]; omega⟩, rfl, hi3, hf⟩ | exact ⟨⟨_, rfl, by rw [ByteArray.size_append]; omega⟩, hi3, hf⟩
          · try simp -implicitDefEqProofs only [kz, kk0, kk1, kk2, kk3, ↓two_true, ↓two_false, oS_some, oM_some, mkv, aggAt, Nat.reduceLeDiff, Nat.reduceSub, Nat.reduceMul, implies_true, Nat.reduceEqDiff, reduceIte, Nat.reduceAdd, Nat.reduceBEq, reduceCtorEq, bs98_3, bs98_6, add_str, t0, t5, t6]
            refine (l1Once_ok hf.cur).mono ?_
            rintro _ H7 ⟨⟨b7, rfl⟩, hg⟩
            have hf := hf.trans hg
            simp -implicitDefEqProofs only [kz, kk0, kk1, kk2, kk3, ↓two_true, ↓two_false, oS_some, oM_some, mkv, aggAt, Nat.reduceLeDiff, Nat.reduceSub, Nat.reduceMul, implies_true, Nat.reduceEqDiff, reduceIte, Nat.reduceAdd, Nat.reduceBEq, reduceCtorEq, bs98_3, bs98_6, add_str, t0, t5, t6]
            refine two_intro (fun _ => ?_) (fun _ => ?_)
            · refine CallsA.mono (l1Pick_ok 3 hf.cur (by rfl) rfl (by decide)) ?_
              rintro _ H8 ⟨⟨z, rfl, hz⟩, hg⟩
              simp -implicitDefEqProofs only [kz, kk0, kk1, kk2, kk3, ↓two_true, ↓two_false, oS_some, oM_some, mkv, aggAt, Nat.reduceLeDiff, Nat.reduceSub, Nat.reduceMul, implies_true, Nat.reduceEqDiff, reduceIte, Nat.reduceAdd, Nat.reduceBEq, reduceCtorEq, bs98_3, bs98_6, add_str, t0, t5, t6]
              exact ⟨⟨_, rfl, by omega⟩, hf.trans hg⟩
            · exact ⟨⟨s, rfl, by omega⟩, hf⟩
set_option maxHeartbeats 4000000 in
theorem l8Line_step {cb d : Nat} {M M1 : Nat} (h1 : if d = 0 then M1 ≤ M else 2 * M1 + 8 ≤ M) (h60 : 60 ≤ M) (hM2 : M ≤ 1000000)
    (io : ∀ {H : AH}, Cur H cb → CallsA Try.prog 93 #[.pointer (some ⟨cb, 0, none⟩), .int .i64 ((d - 1 : Nat) : Int)] H (StrA cb H M1))
    (il : d ≠ 0 → ∀ {H : AH}, Cur H cb → CallsA Try.prog 69 #[.pointer (some ⟨cb, 0, none⟩), .int .i64 ((d - 1 : Nat) : Int)] H (StrA cb H M1)) {H : AH} (hc : Cur H cb) (hd : d ≤ 100) :
    CallsA Try.prog 69 #[.pointer (some ⟨cb, 0, none⟩), .int .i64 d] H (StrA cb H M) := by
  refine w69 ?_
  unfold k69
  have hf := Frm.refl hc
  by_cases hd0 : d = 0
  · subst hd0
    rw [if_pos rfl] at h1
    have dd : decide (((0 : Nat) : Int) ≤ 0) = true := rfl
    simp -implicitDefEqProofs only [kz, kk0, kk1, kk2, kk3, ↓two_true, ↓two_false, oS_some, oM_some, mkv, aggAt, Nat.reduceLeDiff, Nat.reduceSub, Nat.reduceMul, implies_true, Nat.reduceEqDiff, reduceIte, Nat.reduceAdd, Nat.reduceBEq, reduceCtorEq, bs98_3, bs98_12, add_str, dd]
    refine (io hc).mono ?_
    rintro _ H1 ⟨⟨s, rfl, hs⟩, hg⟩
    simp -implicitDefEqProofs only [kz, kk0, kk1, kk2, kk3, ↓two_true, ↓two_false, oS_some, oM_some, mkv, aggAt, Nat.reduceLeDiff, Nat.reduceSub, Nat.reduceMul, implies_true, Nat.reduceEqDiff, reduceIte, Nat.reduceAdd, Nat.reduceBEq, reduceCtorEq, bs98_3, bs98_12, add_str]
    exact ⟨⟨s, rfl, by omega⟩, hg⟩
  · rw [if_neg hd0] at h1
    have il := fun {H : AH} => il hd0 (H := H)
    have dd : decide ((d : Int) ≤ 0) = false := decide_eq_false (by omega)
    have wd : IntKind.i64.wrap ((d : Int) - 1) = ((d - 1 : Nat) : Int) := by rw [IntWalk.i64_in _ (by omega)]; omega
    generalize d - 1 = e at *
    simp -implicitDefEqProofs only [kz, kk0, kk1, kk2, kk3, ↓two_true, ↓two_false, oS_some, oM_some, mkv, aggAt, Nat.reduceLeDiff, Nat.reduceSub, Nat.reduceMul, implies_true, Nat.reduceEqDiff, reduceIte, Nat.reduceAdd, Nat.reduceBEq, reduceCtorEq, bs98_3, bs98_12, add_str, dd, wd]
    refine (l1Below_ok hf.cur).mono ?_
    rintro _ H1 ⟨⟨v, rfl, -, hv⟩, hg⟩
    have hv := hv (by decide)
    have hf := hf.trans hg
    simp -implicitDefEqProofs only [kz, kk0, kk1, kk2, kk3, ↓two_true, ↓two_false, oS_some, oM_some, mkv, aggAt, Nat.reduceLeDiff, Nat.reduceSub, Nat.reduceMul, implies_true, Nat.reduceEqDiff, reduceIte, Nat.reduceAdd, Nat.reduceBEq, reduceCtorEq, bs98_3, bs98_12, add_str, wd]
    have c0 : ∀ {H1 : AH}, Frm cb H H1 → CallsA Try.prog 94 #[.pointer (some ⟨cb, 0, none⟩), .slice (some ⟨H1.length, 0, none⟩) 3 1] (H1 ++ [⟨[.string ⟨#[65]⟩, .string ⟨#[66]⟩, .string ⟨#[67]⟩], .own⟩]) (StrA cb H1 1) := fun hf => l1Pick_ok 1 hf.cur (by rfl) rfl (by decide)
    refine two_intro (fun _ => ?_) (fun _ => ?_)
    · refine (c0 hf).mono ?_
      rintro _ H2 ⟨⟨z, rfl, hz⟩, hg⟩
      have hf := hf.trans hg
      simp -implicitDefEqProofs only [kz, kk0, kk1, kk2, kk3, ↓two_true, ↓two_false, oS_some, oM_some, mkv, aggAt, Nat.reduceLeDiff, Nat.reduceSub, Nat.reduceMul, implies_true, Nat.reduceEqDiff, reduceIte, Nat.reduceAdd, Nat.reduceBEq, reduceCtorEq, bs98_3, bs98_12, add_str, wd]
      have e1 : (z ++ ⟨#[32, 58, 32]⟩ : ByteArray).size = z.size + 3 := by rw [ByteArray.size_append]; rfl
      refine ⟨by show z.size + 3 ≤ _; omega, (il hf.cur).mono ?_⟩
      rintro _ H3 ⟨⟨s, rfl, hs⟩, hg⟩
      simp -implicitDefEqProofs only [kz, kk0, kk1, kk2, kk3, ↓two_true, ↓two_false, oS_some, oM_some, mkv, aggAt, Nat.reduceLeDiff, Nat.reduceSub, Nat.reduceMul, implies_true, Nat.reduceEqDiff, reduceIte, Nat.reduceAdd, Nat.reduceBEq, reduceCtorEq, bs98_3, bs98_12, add_str, wd]
      refine ⟨by omega, ⟨_, rfl, ?_⟩, hf.trans hg⟩
      rw [ByteArray.size_append]; omega
    · have dA : CallsA Try.prog 95 #[.pointer (some ⟨cb, 0, none⟩), .bool false] H1 (StrA cb H1 5) := l8DrawFun_ok hf.cur
      have caseA : ∀ tm : Tm, True := fun _ => trivial
      by_cases hv1 : v = 1
      · subst hv1
        simp -implicitDefEqProofs only [kz, kk0, kk1, kk2, kk3, ↓two_true, ↓two_false, oS_some, oM_some, mkv, aggAt, Nat.reduceLeDiff, Nat.reduceSub, Nat.reduceMul, implies_true, Nat.reduceEqDiff, reduceIte, Nat.reduceAdd, Nat.reduceBEq, reduceCtorEq, bs98_3, bs98_12, add_str, wd, beq_self_eq_true]
        refine dA.mono ?_
        rintro _ H2 ⟨⟨z, rfl, hz⟩, hg⟩
        have hf := hf.trans hg
        simp -implicitDefEqProofs only [kz, kk0, kk1, kk2, kk3, ↓two_true, ↓two_false, oS_some, oM_some, mkv, aggAt, Nat.reduceLeDiff, Nat.reduceSub, Nat.reduceMul, implies_true, Nat.reduceEqDiff, reduceIte, Nat.reduceAdd, Nat.reduceBEq, reduceCtorEq, bs98_3, bs98_12, add_str, wd]
        have e1 : (z ++ ⟨#[32]⟩ : ByteArray).size = z.size + 1 := by rw [ByteArray.size_append]; rfl
        refine ⟨by show z.size + 1 ≤ _; omega, (il hf.cur).mono ?_⟩
        rintro _ H3 ⟨⟨s, rfl, hs⟩, hg⟩
        simp -implicitDefEqProofs only [kz, kk0, kk1, kk2, kk3, ↓two_true, ↓two_false, oS_some, oM_some, mkv, aggAt, Nat.reduceLeDiff, Nat.reduceSub, Nat.reduceMul, implies_true, Nat.reduceEqDiff, reduceIte, Nat.reduceAdd, Nat.reduceBEq, reduceCtorEq, bs98_3, bs98_12, add_str, wd]
        refine ⟨by omega, ⟨_, rfl, ?_⟩, hf.trans hg⟩
        rw [ByteArray.size_append]; omega
      · have v1 : (v == 1) = false := beq_eq_false_iff_ne.2 hv1
        by_cases hv2 : v = 2
        · subst hv2
          simp -implicitDefEqProofs only [kz, kk0, kk1, kk2, kk3, ↓two_true, ↓two_false, oS_some, oM_some, mkv, aggAt, Nat.reduceLeDiff, Nat.reduceSub, Nat.reduceMul, implies_true, Nat.reduceEqDiff, reduceIte, Nat.reduceAdd, Nat.reduceBEq, reduceCtorEq, bs98_3, bs98_12, add_str, wd, v1, beq_self_eq_true]
          refine dA.mono ?_
          rintro _ H2 ⟨⟨z, rfl, hz⟩, hg⟩
          have hf := hf.trans hg
          simp -implicitDefEqProofs only [kz, kk0, kk1, kk2, kk3, ↓two_true, ↓two_false, oS_some, oM_some, mkv, aggAt, Nat.reduceLeDiff, Nat.reduceSub, Nat.reduceMul, implies_true, Nat.reduceEqDiff, reduceIte, Nat.reduceAdd, Nat.reduceBEq, reduceCtorEq, bs98_3, bs98_12, add_str, wd]
          have e1 : (z ++ ⟨#[32]⟩ : ByteArray).size = z.size + 1 := by rw [ByteArray.size_append]; rfl
          refine ⟨by show z.size + 1 ≤ _; omega, (il hf.cur).mono ?_⟩
          rintro _ H3 ⟨⟨s, rfl, hs⟩, hg⟩
          simp -implicitDefEqProofs only [kz, kk0, kk1, kk2, kk3, ↓two_true, ↓two_false, oS_some, oM_some, mkv, aggAt, Nat.reduceLeDiff, Nat.reduceSub, Nat.reduceMul, implies_true, Nat.reduceEqDiff, reduceIte, Nat.reduceAdd, Nat.reduceBEq, reduceCtorEq, bs98_3, bs98_12, add_str, wd]
          refine ⟨by omega, ⟨_, rfl, ?_⟩, hf.trans hg⟩
          rw [ByteArray.size_append]; omega
        · have v2 : (v == 2) = false := beq_eq_false_iff_ne.2 hv2
          by_cases h345 : v = 3 ∨ v = 4 ∨ v = 5
          · rcases h345 with rfl | rfl | rfl
            · simp -implicitDefEqProofs only [kz, kk0, kk1, kk2, kk3, ↓two_true, ↓two_false, oS_some, oM_some, mkv, aggAt, Nat.reduceLeDiff, Nat.reduceSub, Nat.reduceMul, implies_true, Nat.reduceEqDiff, reduceIte, Nat.reduceAdd, Nat.reduceBEq, reduceCtorEq, bs98_3, bs98_12, add_str, wd, v1, v2, beq_self_eq_true]
              refine (io hf.cur).mono ?_
              rintro _ H2 ⟨⟨a, rfl, ha⟩, hg⟩
              have hf := hf.trans hg
              simp -implicitDefEqProofs only [kz, kk0, kk1, kk2, kk3, ↓two_true, ↓two_false, oS_some, oM_some, mkv, aggAt, Nat.reduceLeDiff, Nat.reduceSub, Nat.reduceMul, implies_true, Nat.reduceEqDiff, reduceIte, Nat.reduceAdd, Nat.reduceBEq, reduceCtorEq, bs98_3, bs98_12, add_str, wd]
              have e1 : (a ++ ⟨#[32]⟩ : ByteArray).size = a.size + 1 := by rw [ByteArray.size_append]; rfl
              refine ⟨by show a.size + 1 ≤ _; omega, ?_⟩
              generalize (a ++ ⟨#[32]⟩ : ByteArray) = a1 at *
              refine (l8DrawFun_ok hf.cur).mono ?_
              rintro _ H3 ⟨⟨z, rfl, hz⟩, hg⟩
              have hf := hf.trans hg
              simp -implicitDefEqProofs only [kz, kk0, kk1, kk2, kk3, ↓two_true, ↓two_false, oS_some, oM_some, mkv, aggAt, Nat.reduceLeDiff, Nat.reduceSub, Nat.reduceMul, implies_true, Nat.reduceEqDiff, reduceIte, Nat.reduceAdd, Nat.reduceBEq, reduceCtorEq, bs98_3, bs98_12, add_str, wd]
              have e2 : (a1 ++ z : ByteArray).size = a1.size + z.size := ByteArray.size_append
              generalize (a1 ++ z : ByteArray) = a2 at *
              refine ⟨by omega, ?_⟩
              have e3 : (a2 ++ ⟨#[32]⟩ : ByteArray).size = a2.size + 1 := by rw [ByteArray.size_append]; rfl
              refine ⟨by show a2.size + 1 ≤ _; omega, ?_⟩
              generalize (a2 ++ ⟨#[32]⟩ : ByteArray) = a3 at *
              refine (il hf.cur).mono ?_
              rintro _ H4 ⟨⟨s, rfl, hs⟩, hg⟩
              simp -implicitDefEqProofs only [kz, kk0, kk1, kk2, kk3, ↓two_true, ↓two_false, oS_some, oM_some, mkv, aggAt, Nat.reduceLeDiff, Nat.reduceSub, Nat.reduceMul, implies_true, Nat.reduceEqDiff, reduceIte, Nat.reduceAdd, Nat.reduceBEq, reduceCtorEq, bs98_3, bs98_12, add_str, wd]
              refine ⟨by omega, ⟨_, rfl, ?_⟩, hf.trans hg⟩
              rw [ByteArray.size_append]; omega
            · have v3 : ((4 : Int) == 3) = false := rfl
              simp -implicitDefEqProofs only [kz, kk0, kk1, kk2, kk3, ↓two_true, ↓two_false, oS_some, oM_some, mkv, aggAt, Nat.reduceLeDiff, Nat.reduceSub, Nat.reduceMul, implies_true, Nat.reduceEqDiff, reduceIte, Nat.reduceAdd, Nat.reduceBEq, reduceCtorEq, bs98_3, bs98_12, add_str, wd, v1, v2, v3, beq_self_eq_true]
              refine (io hf.cur).mono ?_
              rintro _ H2 ⟨⟨a, rfl, ha⟩, hg⟩
              have hf := hf.trans hg
              simp -implicitDefEqProofs only [kz, kk0, kk1, kk2, kk3, ↓two_true, ↓two_false, oS_some, oM_some, mkv, aggAt, Nat.reduceLeDiff, Nat.reduceSub, Nat.reduceMul, implies_true, Nat.reduceEqDiff, reduceIte, Nat.reduceAdd, Nat.reduceBEq, reduceCtorEq, bs98_3, bs98_12, add_str, wd]
              have e1 : (a ++ ⟨#[32]⟩ : ByteArray).size = a.size + 1 := by rw [ByteArray.size_append]; rfl
              refine ⟨by show a.size + 1 ≤ _; omega, ?_⟩
              generalize (a ++ ⟨#[32]⟩ : ByteArray) = a1 at *
              refine (l8DrawFun_ok hf.cur).mono ?_
              rintro _ H3 ⟨⟨z, rfl, hz⟩, hg⟩
              have hf := hf.trans hg
              simp -implicitDefEqProofs only [kz, kk0, kk1, kk2, kk3, ↓two_true, ↓two_false, oS_some, oM_some, mkv, aggAt, Nat.reduceLeDiff, Nat.reduceSub, Nat.reduceMul, implies_true, Nat.reduceEqDiff, reduceIte, Nat.reduceAdd, Nat.reduceBEq, reduceCtorEq, bs98_3, bs98_12, add_str, wd]
              have e2 : (a1 ++ z : ByteArray).size = a1.size + z.size := ByteArray.size_append
              generalize (a1 ++ z : ByteArray) = a2 at *
              refine ⟨by omega, ?_⟩
              have e3 : (a2 ++ ⟨#[32]⟩ : ByteArray).size = a2.size + 1 := by rw [ByteArray.size_append]; rfl
              refine ⟨by show a2.size + 1 ≤ _; omega, ?_⟩
              generalize (a2 ++ ⟨#[32]⟩ : ByteArray) = a3 at *
              refine (il hf.cur).mono ?_
              rintro _ H4 ⟨⟨s, rfl, hs⟩, hg⟩
              simp -implicitDefEqProofs only [kz, kk0, kk1, kk2, kk3, ↓two_true, ↓two_false, oS_some, oM_some, mkv, aggAt, Nat.reduceLeDiff, Nat.reduceSub, Nat.reduceMul, implies_true, Nat.reduceEqDiff, reduceIte, Nat.reduceAdd, Nat.reduceBEq, reduceCtorEq, bs98_3, bs98_12, add_str, wd]
              refine ⟨by omega, ⟨_, rfl, ?_⟩, hf.trans hg⟩
              rw [ByteArray.size_append]; omega
            · have v3 : ((5 : Int) == 3) = false := rfl
              have v4 : ((5 : Int) == 4) = false := rfl
              simp -implicitDefEqProofs only [kz, kk0, kk1, kk2, kk3, ↓two_true, ↓two_false, oS_some, oM_some, mkv, aggAt, Nat.reduceLeDiff, Nat.reduceSub, Nat.reduceMul, implies_true, Nat.reduceEqDiff, reduceIte, Nat.reduceAdd, Nat.reduceBEq, reduceCtorEq, bs98_3, bs98_12, add_str, wd, v1, v2, v3, v4, beq_self_eq_true]
              refine (io hf.cur).mono ?_
              rintro _ H2 ⟨⟨a, rfl, ha⟩, hg⟩
              have hf := hf.trans hg
              simp -implicitDefEqProofs only [kz, kk0, kk1, kk2, kk3, ↓two_true, ↓two_false, oS_some, oM_some, mkv, aggAt, Nat.reduceLeDiff, Nat.reduceSub, Nat.reduceMul, implies_true, Nat.reduceEqDiff, reduceIte, Nat.reduceAdd, Nat.reduceBEq, reduceCtorEq, bs98_3, bs98_12, add_str, wd]
              have e1 : (a ++ ⟨#[32]⟩ : ByteArray).size = a.size + 1 := by rw [ByteArray.size_append]; rfl
              refine ⟨by show a.size + 1 ≤ _; omega, ?_⟩
              generalize (a ++ ⟨#[32]⟩ : ByteArray) = a1 at *
              refine (l8DrawFun_ok hf.cur).mono ?_
              rintro _ H3 ⟨⟨z, rfl, hz⟩, hg⟩
              have hf := hf.trans hg
              simp -implicitDefEqProofs only [kz, kk0, kk1, kk2, kk3, ↓two_true, ↓two_false, oS_some, oM_some, mkv, aggAt, Nat.reduceLeDiff, Nat.reduceSub, Nat.reduceMul, implies_true, Nat.reduceEqDiff, reduceIte, Nat.reduceAdd, Nat.reduceBEq, reduceCtorEq, bs98_3, bs98_12, add_str, wd]
              have e2 : (a1 ++ z : ByteArray).size = a1.size + z.size := ByteArray.size_append
              generalize (a1 ++ z : ByteArray) = a2 at *
              refine ⟨by omega, ?_⟩
              have e3 : (a2 ++ ⟨#[32]⟩ : ByteArray).size = a2.size + 1 := by rw [ByteArray.size_append]; rfl
              refine ⟨by show a2.size + 1 ≤ _; omega, ?_⟩
              generalize (a2 ++ ⟨#[32]⟩ : ByteArray) = a3 at *
              refine (il hf.cur).mono ?_
              rintro _ H4 ⟨⟨s, rfl, hs⟩, hg⟩
              simp -implicitDefEqProofs only [kz, kk0, kk1, kk2, kk3, ↓two_true, ↓two_false, oS_some, oM_some, mkv, aggAt, Nat.reduceLeDiff, Nat.reduceSub, Nat.reduceMul, implies_true, Nat.reduceEqDiff, reduceIte, Nat.reduceAdd, Nat.reduceBEq, reduceCtorEq, bs98_3, bs98_12, add_str, wd]
              refine ⟨by omega, ⟨_, rfl, ?_⟩, hf.trans hg⟩
              rw [ByteArray.size_append]; omega
          · have v3 : (v == 3) = false := beq_eq_false_iff_ne.2 (by omega)
            have v4 : (v == 4) = false := beq_eq_false_iff_ne.2 (by omega)
            have v5 : (v == 5) = false := beq_eq_false_iff_ne.2 (by omega)
            simp -implicitDefEqProofs only [kz, kk0, kk1, kk2, kk3, ↓two_true, ↓two_false, oS_some, oM_some, mkv, aggAt, Nat.reduceLeDiff, Nat.reduceSub, Nat.reduceMul, implies_true, Nat.reduceEqDiff, reduceIte, Nat.reduceAdd, Nat.reduceBEq, reduceCtorEq, bs98_3, bs98_12, add_str, wd, v1, v2, v3, v4, v5]
            refine two_intro (fun _ => ?_) (fun _ => ?_)
            · refine CallsA.mono (l1Pick_ok 20 hf.cur (by rfl) rfl (by decide)) ?_
              rintro _ H2 ⟨⟨z, rfl, hz⟩, hg⟩
              simp -implicitDefEqProofs only [kz, kk0, kk1, kk2, kk3, ↓two_true, ↓two_false, oS_some, oM_some, mkv, aggAt, Nat.reduceLeDiff, Nat.reduceSub, Nat.reduceMul, implies_true, Nat.reduceEqDiff, reduceIte, Nat.reduceAdd, Nat.reduceBEq, reduceCtorEq, bs98_3, bs98_12, add_str, wd]
              exact ⟨⟨_, rfl, by omega⟩, hf.trans hg⟩
            · refine (io hf.cur).mono ?_
              rintro _ H2 ⟨⟨z, rfl, hz⟩, hg⟩
              simp -implicitDefEqProofs only [kz, kk0, kk1, kk2, kk3, ↓two_true, ↓two_false, oS_some, oM_some, mkv, aggAt, Nat.reduceLeDiff, Nat.reduceSub, Nat.reduceMul, implies_true, Nat.reduceEqDiff, reduceIte, Nat.reduceAdd, Nat.reduceBEq, reduceCtorEq, bs98_3, bs98_12, add_str, wd]
              exact ⟨⟨_, rfl, by omega⟩, hf.trans hg⟩
set_option maxHeartbeats 4000000 in
theorem l8Both_ok {cb : Nat} : ∀ d : Nat, d ≤ 5 → (∀ {H : AH}, Cur H cb → CallsA Try.prog 93 #[.pointer (some ⟨cb, 0, none⟩), .int .i64 d] H (StrA cb H (68 * 2 ^ d - 8))) ∧ ∀ {H : AH}, Cur H cb → CallsA Try.prog 69 #[.pointer (some ⟨cb, 0, none⟩), .int .i64 d] H (StrA cb H (68 * 2 ^ d - 8)) := by
  intro d
  induction d with
  | zero =>
    intro _
    have h0 : ∀ {H : AH}, Cur H cb → CallsA Try.prog 93 #[.pointer (some ⟨cb, 0, none⟩), .int .i64 ((0 : Nat) : Int)] H (StrA cb H (68 * 2 ^ 0 - 8)) := fun {H} hc =>
      l8Op_step (M1 := 0) (by decide) (fun h => absurd rfl h) (by decide) (fun h => absurd rfl h) hc (by decide)
    exact ⟨h0, fun {H} hc => l8Line_step (M1 := 60) (by decide) (by decide) (by decide) h0 (fun h => absurd rfl h) hc (by decide)⟩
  | succ d ih =>
    intro hd
    obtain ⟨io, il⟩ := ih (by omega)
    have hp : (2 : Nat) ^ d ≤ 2 ^ 5 := Nat.pow_le_pow_right (by decide) (by omega)
    have hq : 1 ≤ (2 : Nat) ^ d := Nat.one_le_two_pow
    have h32 : (2 : Nat) ^ 5 = 32 := rfl
    have e : ((d + 1 : Nat) : Int) - 1 = (d : Int) := by omega
    refine ⟨fun {H} hc => l8Op_step (M1 := 68 * 2 ^ d - 8) ?_ (fun _ => ?_) ?_ (fun _ => ?_) hc (by omega), fun {H} hc => l8Line_step (M1 := 68 * 2 ^ d - 8) ?_ ?_ ?_ io (fun _ => il) hc (by omega)⟩
    · rw [Nat.pow_succ]; omega
    · rw [Nat.pow_succ]; omega
    · rw [Nat.pow_succ]; omega
    · rw [e]; exact il
    · rw [if_neg (by omega), Nat.pow_succ]; omega
    · rw [Nat.pow_succ]; omega
    · rw [Nat.pow_succ]; omega
set_option maxHeartbeats 4000000 in
theorem l8DrawLine_ok {H : AH} {cb : Nat} {d : Int} (hc : Cur H cb) (hd : 0 ≤ d ∧ d ≤ 5) : CallsA Try.prog 69 #[.pointer (some ⟨cb, 0, none⟩), .int .i64 d] H (StrA cb H 3000) := by
  obtain ⟨n, rfl⟩ : ∃ n : Nat, d = n := ⟨d.toNat, by omega⟩
  refine ((l8Both_ok n (by omega)).2 hc).mono ?_
  rintro r H1 ⟨⟨s, h1, h2⟩, hf⟩
  have hp : (2 : Nat) ^ n ≤ 2 ^ 5 := Nat.pow_le_pow_right (by decide) (by omega)
  have h32 : (2 : Nat) ^ 5 = 32 := rfl
  exact ⟨⟨s, h1, by omega⟩, hf⟩

theorem LX.front {c : Option Nat} {H0 H : AH} {L : List Ix} (h : LX c H0 H L) (n : Nat) (is : List Nat) (hn : is.Nodup) (hb : (is.all fun i => decide (i < n) && (L[i]?).isSome) = true) : LX c H0 H ((is.filterMap fun i => L[i]?) ++ L.drop n) := by
  have hlt : ∀ i ∈ is, i < n := fun i hi => by
    have := List.all_eq_true.1 hb i hi
    simp only [Bool.and_eq_true, decide_eq_true_eq] at this
    exact this.1
  refine h.pick (is ++ (List.range (L.length - n)).map (· + n)) _ ?_ ?_
  · rw [List.map_append, List.map_append]
    congr 1
    · clear hn hlt
      induction is with
      | nil => rfl
      | cons i is ih =>
        simp only [List.all_cons, Bool.and_eq_true, decide_eq_true_eq] at hb
        obtain ⟨x, hx⟩ := Option.isSome_iff_exists.1 hb.1.2
        rw [List.map_cons, ih hb.2, List.filterMap_cons, hx]
        rfl
    · rw [List.map_map]
      refine List.ext_getElem? fun j => ?_
      rw [List.getElem?_map, List.getElem?_map, List.getElem?_drop]
      rcases Nat.lt_or_ge j (L.length - n) with e | e
      · rw [List.getElem?_range e]
        simp only [Option.map_some, Function.comp_apply]
        rw [List.getElem?_eq_getElem (by omega), List.getElem?_eq_getElem (by omega)]
        simp only [Option.map_some, Nat.add_comm]
      · rw [List.getElem?_eq_none (by simp; omega), List.getElem?_eq_none (by omega)]
        rfl
  · rw [List.nodup_append]
    refine ⟨hn, ?_, ?_⟩
    · refine List.Pairwise.map _ (fun a b hab e => hab ?_) List.nodup_range
      simpa using e
    · intro a ha b hb2 e
      obtain ⟨j, _, rfl⟩ := List.mem_map.1 hb2
      have := hlt a ha
      omega
/-- The kind, the value, the sign of a token. -/
def tkK (l : List (Int × Int)) (i : Nat) : Int := match l[i]? with | some t => t.1 | none => 0
def tkV (l : List (Int × Int)) (i : Nat) : Int := match l[i]? with | some t => t.2 | none => 0
def tkS (l : List (Int × Int)) (i : Nat) : Int := if tkK l i = 3 then tkV l i else 0
theorem tkK_out {l : List (Int × Int)} {i : Nat} (h : l.length ≤ i) : tkK l i = 0 := by
  unfold tkK; rw [List.getElem?_eq_none h]
theorem tkK_in {l : List (Int × Int)} {i : Nat} (h : tkK l i ≠ 0) : i < l.length := by
  rcases Nat.lt_or_ge i l.length with e | e
  · exact e
  · exact absurd (tkK_out e) h
theorem tkS_in {l : List (Int × Int)} {i : Nat} (h : tkS l i ≠ 0) : i < l.length := by
  refine tkK_in fun e => h ?_
  unfold tkS; rw [if_neg (by rw [e]; decide)]
theorem tok_all {l : List (Int × Int)} {i : Nat} (h : (l.all fun t => tokOk t.1 t.2) = true) (hi : i < l.length) : tokOk (tkK l i) (tkV l i) = true := by
  have := List.all_eq_true.1 h l[i] (List.getElem_mem hi)
  unfold tkK tkV
  rw [List.getElem?_eq_getElem hi]
  exact this

theorem tokV_get : ∀ {l : List (Int × Int)} {i : Nat}, i < l.length → ((tokV l).drop (i * 2)).take 2 = [.i (tkK l i), .i (tkV l i)]
  | [], i, h => by simp at h
  | t :: l, 0, _ => by simp [tokV, tkK, tkV]
  | t :: l, i + 1, h => by
    have ih := tokV_get (l := l) (i := i) (by simpa using h)
    have e1 : tokV (t :: l) = .i t.1 :: .i t.2 :: tokV l := rfl
    have e2 : tkK (t :: l) (i + 1) = tkK l i := by unfold tkK; rw [List.getElem?_cons_succ]
    have e3 : tkV (t :: l) (i + 1) = tkV l i := by unfold tkV; rw [List.getElem?_cons_succ]
    rw [e1, e2, e3, show (i + 1) * 2 = i * 2 + 1 + 1 by omega, List.drop_succ_cons, List.drop_succ_cons]
    exact ih
theorem tok_at {H : AH} {ta : Option Addr} {tc nt : Nat} {ts : List Value} {toks : List (Int × Int)} (f : FRow H (.slice ta nt tc) kToken nt ts) (hV : cvs H ts = tokV toks) (hl : toks.length = nt) {i : Nat} (hi : i < nt) :
    ∃ b o cs, ta = some ⟨b, o, none⟩ ∧ tc = 2 ∧ rd H b = some cs ∧ cs[o + i * 2]? = some (.int .i64 (tkK toks i)) ∧ cs[o + i * 2 + 1]? = some (.int .i64 (tkV toks i)) := by
  obtain ⟨a, c, e, gv⟩ := f.opn 2 rfl
  simp only [Value.slice.injEq, true_and] at e
  obtain ⟨rfl, rfl⟩ := e
  obtain ⟨b, o, cs, rfl, rfl, hrd, hle, hcell⟩ := gv (by omega)
  have x1 := f.elemn 2 rfl hi
  have em : (elm 2 ts i).map (cv H) = [.i (tkK toks i), .i (tkV toks i)] := by
    have e := tokV_get (l := toks) (i := i) (by omega)
    rw [← hV] at e
    simpa [elm, cvs] using e
  have hc := (hcell i hi).2
  generalize elm 2 ts i = ex at *
  obtain ⟨_, _, rfl, ⟨p1, rfl⟩, _, _, rfl, ⟨p2, rfl⟩, rfl⟩ := x1
  simp only [List.map_cons, List.map_nil, cv_int, List.cons.injEq, CV.i.injEq, and_true] at em
  obtain ⟨rfl, rfl⟩ := em
  have c0 := hc 0 _ rfl
  rw [Nat.add_zero] at c0
  exact ⟨b, o, cs, rfl, rfl, hrd, c0, hc 1 _ rfl⟩
/-- A cursor that may be read. -/
structure TC (H : AH) (cb : Nat) (ta : Option Addr) (tc nt at' : Nat) (nv : Value) (toks : List (Int × Int)) : Prop where
  rd : rd H cb = some [.slice ta nt tc, .int .i64 (at' : Nat), nv]
  tab : ∃ ts, FRow H (.slice ta nt tc) kToken nt ts ∧ cvs H ts = tokV toks
  len : toks.length = nt
  le : nt ≤ 300
  at' : at' ≤ nt

theorem l9Kind_eq {H : AH} {cb : Nat} {ta : Option Addr} {tc nt at' k : Nat} {nv : Value} {toks : List (Int × Int)} (h : TC H cb ta tc nt at' nv toks) (hk : k ≤ 3) {Φ : Value → AH → Prop} :
    CallsA Try.prog 110 #[.pointer (some ⟨cb, 0, none⟩), .int .i64 (k : Nat)] H Φ = Φ (.int .i64 (tkK toks (at' + k))) H := by
  have : CallsA Try.prog 110 #[.pointer (some ⟨cb, 0, none⟩), .int .i64 (k : Nat)] H fun r H' => r = .int .i64 (tkK toks (at' + k)) ∧ H' = H := by
    obtain ⟨hr, ⟨ts, f, hV⟩, hl, h3, h4⟩ := h
    have wk : IntKind.i64.wrap ((at' : Int) + (k : Int)) = ((at' + k : Nat) : Int) := by rw [IntWalk.i64_in _ (by omega)]; omega
    refine w110 ?_
    unfold k110
    simp -implicitDefEqProofs only [kz, kk0, kk1, kk2, kk3, ↓two_true, ↓two_false, oS_some, oM_some, mkv, aggAt, Nat.reduceLeDiff, Nat.reduceSub, Nat.reduceMul, implies_true, Nat.reduceEqDiff, reduceIte, Nat.reduceAdd, Nat.reduceBEq, reduceCtorEq, fa54_0, fa120_0, fa120_1, ix25, ld3, ld25, ln25, hr, wk]
    refine two_intro (fun u => ?_) (fun u => ?_)
    · rw [tkK_out (by have := of_decide_eq_true u; omega)]
    · have hi : at' + k < nt := by have := of_decide_eq_false u; omega
      obtain ⟨b, o, cs, rfl, rfl, hrd, c0, c1⟩ := tok_at f hV hl hi
      try simp -implicitDefEqProofs only [kz, kk0, kk1, kk2, kk3, ↓two_true, ↓two_false, oS_some, oM_some, mkv, aggAt, Nat.reduceLeDiff, Nat.reduceSub, Nat.reduceMul, implies_true, Nat.reduceEqDiff, reduceIte, Nat.reduceAdd, Nat.reduceBEq, reduceCtorEq, fa54_0, fa120_0, fa120_1, ix25, ld3, ld25, ln25, hr, wk, hrd, c0, Int.toNat_natCast]
      exact ⟨by omega, by omega⟩
  exact this.eq0

theorem l9Sign_eq {H : AH} {cb : Nat} {ta : Option Addr} {tc nt at' k : Nat} {nv : Value} {toks : List (Int × Int)} (h : TC H cb ta tc nt at' nv toks) (hk : k ≤ 3) {Φ : Value → AH → Prop} :
    CallsA Try.prog 114 #[.pointer (some ⟨cb, 0, none⟩), .int .i64 (k : Nat)] H Φ = Φ (.int .i64 (tkS toks (at' + k))) H := by
  have : CallsA Try.prog 114 #[.pointer (some ⟨cb, 0, none⟩), .int .i64 (k : Nat)] H fun r H' => r = .int .i64 (tkS toks (at' + k)) ∧ H' = H := by
    have hk9 := fun Φ => l9Kind_eq h hk (Φ := Φ)
    obtain ⟨hr, ⟨ts, f, hV⟩, hl, h3, h4⟩ := h
    have wk : IntKind.i64.wrap ((at' : Int) + (k : Int)) = ((at' + k : Nat) : Int) := by rw [IntWalk.i64_in _ (by omega)]; omega
    refine w114 ?_
    unfold k114
    simp -implicitDefEqProofs only [kz, kk0, kk1, kk2, kk3, ↓two_true, ↓two_false, oS_some, oM_some, mkv, aggAt, Nat.reduceLeDiff, Nat.reduceSub, Nat.reduceMul, implies_true, Nat.reduceEqDiff, reduceIte, Nat.reduceAdd, Nat.reduceBEq, reduceCtorEq, fa54_1, fa120_0, fa120_1, ix25, ld3, ld25, hr, wk, hk9]
    refine two_intro (fun u => ?_) (fun u => ?_)
    · have hne : tkK toks (at' + k) ≠ 3 := by simpa using u
      unfold tkS; rw [if_neg hne]
    · have he : tkK toks (at' + k) = 3 := by simpa using u
      have hi : at' + k < nt := by have := tkK_in (l := toks) (i := at' + k) (by omega); omega
      obtain ⟨b, o, cs, rfl, rfl, hrd, c0, c1⟩ := tok_at f hV hl hi
      try simp -implicitDefEqProofs only [kz, kk0, kk1, kk2, kk3, ↓two_true, ↓two_false, oS_some, oM_some, mkv, aggAt, Nat.reduceLeDiff, Nat.reduceSub, Nat.reduceMul, implies_true, Nat.reduceEqDiff, reduceIte, Nat.reduceAdd, Nat.reduceBEq, reduceCtorEq, fa54_1, fa120_0, fa120_1, ix25, ld3, ld25, hr, wk, hrd, c1, Int.toNat_natCast]
      unfold tkS; rw [if_pos he]
      exact ⟨by omega, rfl⟩
  exact this.eq0

theorem LX.tc {c : Option Nat} {H0 H : AH} {L : List Ix} {cb : Nat} {ta : Option Addr} {tc nt at' : Nat} {nv : Value} {ts : List Value} {toks : List (Int × Int)} {V : List CV} (q : LX c H0 H L) (i j : Nat) (hi : L[i]? = some (.own (.box cb [.slice ta nt tc, .int .i64 (at' : Nat), nv]))) (hj : L[j]? = some (.ftab (.slice ta nt tc) kToken nt ts V)) (hV : V = tokV toks) (hl : toks.length = nt) (h3 : nt ≤ 300) (h4 : at' ≤ nt) : TC H cb ta tc nt at' nv toks :=
  ⟨(q.rd i hi).1, ⟨ts, (q.ft j hj).1, (q.ft j hj).2.trans hV⟩, hl, h3, h4⟩

end Go.Proofs.Ytdagncfnkenbfaa.AM
