/- What the functions answer, part 2. -/
import Derived.Test.YtgekbancaeabgaaP1
set_option linter.unusedVariables false
set_option linter.unusedSimpArgs false
set_option linter.defProp false
set_option maxRecDepth 100000
/- What the functions answer, part 2. -/
namespace Go.Proofs.Ytgekbancaeabgaa.AM
open Go Go.Proofs.Ytgekbancaeabgaa Go.Proofs
set_option maxHeartbeats 4000000 in
theorem owned_ok {H : AH} {v : Value} {n : Nat} {xs : List Value} (hv : FRow H v kExpr n xs) (hl : n ≤ 60) (hok : (ndL (cvs H xs) n).all ndOk = true) :
    CallsA Try.prog 135 #[.agg #[v]] H fun r H' => (∃ w ok, r = .tuple #[w, .bool ok] ∧ ((ok = true ∧ ∃ ow, ownG [] (ndL (cvs H xs) n) = some ow ∧ ow.length = n ∧ OwB ow ∧ OwnRow H' w ow) ∨ (ok = false ∧ ownG [] (ndL (cvs H xs) n) = none))) ∧ ∃ K, H' = H ++ K := by
  obtain ⟨a, c, rfl, gv⟩ := hv.opn 7 rfl
  generalize hL : ndL (cvs H xs) n = l at *
  have hll : l.length = n := by rw [← hL, ndL_len]
  refine w135 ?_
  unfold k135
  simp -implicitDefEqProofs only [kz, kk0, kk1, kk2, kk3, ↓two_true, ↓two_false, oS_some, oM_some, mkv, aggAt, Nat.reduceLeDiff, Nat.reduceSub, Nat.reduceMul, implies_true, Nat.reduceEqDiff, reduceIte, Nat.reduceAdd, Nat.reduceBEq, reduceCtorEq, al142, ap43_43, bs43_1, fa72_0, fa142_0, fa142_1, fa142_2, ix43, ix70, ld3, ld70, ld142, ln70, st142]
  refine rW_loop (σ := Option Addr × Nat × List Int) (fun (a', c', acc) tm H' => tm 11 = .slice a n c ∧ tm 12 = .int .i64 n ∧ tm 13 = .int .i64 acc.length ∧ tm 4 = .slice a' acc.length c' ∧ acc.length ≤ n ∧ OwnRow H' (.slice a' acc.length c') acc ∧ (∀ b, blkOf (.slice a' acc.length c') = some b → H.length ≤ b) ∧ (∃ K, H' = H ++ K) ∧ ownG [] l = ownG acc (l.drop acc.length) ∧ OwB acc) (fun s => n - s.2.2.length) (none, 0, []) ?_ ?_
  · simp -implicitDefEqProofs [kk0, kk1, kk2, kk3, rW_block, ↓two_true, ↓two_false, rW_cond, rO_guard, oS_some, oM_some, mkv, aggAt, Nat.reduceLeDiff, Nat.reduceSub, Nat.reduceMul, cond_true, cond_false, Option.bind_some, List.length_append, List.length_cons, List.length_nil, List.append_assoc, List.cons_append, List.nil_append, List.set_cons_zero, List.set_cons_succ, List.size_toArray, List.all_cons, List.all_nil, List.drop_zero, List.drop_succ_cons, List.take_succ_cons, List.take_zero, List.mem_cons, Prod.mk.injEq, List.not_mem_nil, implies_true, List.getElem?_toArray, List.getElem?_cons_zero, List.getElem?_cons_succ, List.getElem?_nil, Option.getD_some, Option.getD_none, Nat.reduceEqDiff, reduceIte, Nat.reduceAdd, List.map_toArray, List.map_cons, List.map_nil, Bool.false_eq_true, Nat.reduceBEq, Option.map_some, Option.map_none, reduceCtorEq, al142, ap43_43, bs43_1, fa72_0, fa142_0, fa142_1, fa142_2, ix43, ix70, ld3, ld70, ld142, ln70, st142, OwB.nil]
    exact ⟨.inl ⟨rfl, rfl⟩, fun b hb => by simp [blkOf] at hb⟩
  · rintro ⟨a', c', acc⟩ tm H1 ⟨h11, h12, h13, h4, hi, ho, hf, he, hown, hb⟩
    simp -implicitDefEqProofs only [kz, kk0, kk1, kk2, kk3, ↓two_true, ↓two_false, oS_some, oM_some, mkv, aggAt, Nat.reduceLeDiff, Nat.reduceSub, Nat.reduceMul, implies_true, Nat.reduceEqDiff, reduceIte, Nat.reduceAdd, Nat.reduceBEq, reduceCtorEq, al142, ap43_43, bs43_1, fa72_0, fa142_0, fa142_1, fa142_2, ix43, ix70, ld3, ld70, ld142, ln70, st142, h11, h12, h13, h4]
    refine two_intro (fun hc' => ?_) (fun hc' => ?_)
    · have hlt : acc.length < n := by simpa using hc'
      obtain ⟨b, o, cs, rfl, rfl, hrd, hle, hcell⟩ := gv (by omega)
      have x1 := hv.elemn 7 rfl hlt
      have hin : l[acc.length]? = some (ndOf ((elm 7 xs acc.length).map (cv H))) := by rw [← hL]; exact ndL_get hlt
      have hio : ndOk (ndOf ((elm 7 xs acc.length).map (cv H))) = true := (List.all_eq_true.1 hok) _ (List.mem_of_getElem? hin)
      have hdr : l.drop acc.length = ndOf ((elm 7 xs acc.length).map (cv H)) :: l.drop (acc.length + 1) := by
        have hlt2 : acc.length < l.length := by omega
        rw [List.drop_eq_getElem_cons hlt2]
        rw [List.getElem?_eq_getElem hlt2] at hin
        rw [Option.some.inj hin]
      have hlen := ext_len he
      have g1 := rd_ext hrd he
      have l1 : ld Try.prog 142 (o + acc.length * 7) cs = some (.agg (elm 7 xs acc.length).toArray) := by rw [ld142]; exact (hcell _ hlt).1
      obtain ⟨ek, ea, eb, es, eo, ew, y, ex, ky, ei⟩ := all2_expr x1
      rw [ei] at hdr hio
      generalize elm 7 xs acc.length = x at *
      subst ex
      obtain ⟨a5, c5, e5⟩ := ky.1.slice
      generalize rowI H y = m at *
      subst e5
      have hk := ndOk_k hio
      simp only at hk
      by_cases hk2 : ek = 1 ∨ ek = 2
      · have hn : nxt acc ⟨ek, ea, eb, es, eo, ew, m⟩ = some 1 := by unfold nxt; rw [if_pos (by simp only; omega)]
        have d1 : decide (ek ≥ 3) = false := decide_eq_false (by omega)
        have d2 : (ek == 5) = false := beq_eq_false_iff_ne.2 (by omega)
        simp -implicitDefEqProofs only [kz, kk0, kk1, kk2, kk3, ↓two_true, ↓two_false, oS_some, oM_some, mkv, aggAt, Nat.reduceLeDiff, Nat.reduceSub, Nat.reduceMul, implies_true, Nat.reduceEqDiff, reduceIte, Nat.reduceAdd, Nat.reduceBEq, reduceCtorEq, al142, ap43_43, bs43_1, fa72_0, fa142_0, fa142_1, fa142_2, ix43, ix70, ld3, ld70, ld142, ln70, st142, h11, h12, h13, h4, Int.toNat_natCast, Nat.mul_one, g1, l1, Int.reduceBEq, d1, d2]
        refine ⟨by omega, ?_⟩
        refine oA_own1 ho.mono (by omega) fun a6 c6 H5 o6 x7 => ?_
        have hff : ∀ b, blkOf (.slice a6 (acc.length + 1) c6) = some b → H.length ≤ b := fun b hb => by
          rcases x7.new b hb with h | h
          · exact hf b h
          · have := ext_len he; simp at h; omega
        have he5 := x7.ext (app_ext he) hf
        simp -implicitDefEqProofs only [kz, kk0, kk1, kk2, kk3, ↓two_true, ↓two_false, oS_some, oM_some, mkv, aggAt, Nat.reduceLeDiff, Nat.reduceSub, Nat.reduceMul, implies_true, Nat.reduceEqDiff, reduceIte, Nat.reduceAdd, Nat.reduceBEq, reduceCtorEq, al142, ap43_43, bs43_1, fa72_0, fa142_0, fa142_1, fa142_2, ix43, ix70, ld3, ld70, ld142, ln70, st142, h11, h12, h13, h4, IntWalk.i64_in ((acc.length : Int) + 1) (by omega)]
        refine ⟨(a6, c6, acc ++ [1]), ?_⟩
        simp only [List.length_append, List.length_cons, List.length_nil, Nat.zero_add]
        exact ⟨by omega, by simp, trivial, by omega, o6, hff, he5, by rw [hown, hdr, ownG, hn], hb.nxt hn⟩
      · have d1 : decide (ek ≥ 3) = true := decide_eq_true (by omega)
        have wi : IntKind.i64.wrap ((acc.length : Int) - 1) = (acc.length : Int) - 1 := IntWalk.i64_in _ (by omega)
        by_cases hF : (ek = 5 ∧ ea ≠ (acc.length : Int) - 1) ∨ (ek ≠ 5 ∧ eb ≠ (acc.length : Int) - 1) ∨ acc.length = 0
        · have hn : nxt acc ⟨ek, ea, eb, es, eo, ew, m⟩ = none := by unfold nxt; rw [if_neg (by simp only; omega), if_pos hF]
          have hN : ownG [] l = none := by rw [hown, hdr, ownG, hn]
          by_cases h5 : ek = 5
          · have d2 : (ek == 5) = true := by simp [h5]
            simp -implicitDefEqProofs only [kz, kk0, kk1, kk2, kk3, ↓two_true, ↓two_false, oS_some, oM_some, mkv, aggAt, Nat.reduceLeDiff, Nat.reduceSub, Nat.reduceMul, implies_true, Nat.reduceEqDiff, reduceIte, Nat.reduceAdd, Nat.reduceBEq, reduceCtorEq, al142, ap43_43, bs43_1, fa72_0, fa142_0, fa142_1, fa142_2, ix43, ix70, ld3, ld70, ld142, ln70, st142, h11, h12, h13, h4, Int.toNat_natCast, Nat.mul_one, g1, l1, Int.reduceBEq, d1, d2, wi]
            exact ⟨by omega, two_intro (fun _ => ⟨⟨_, _, rfl, .inr ⟨rfl, hN⟩⟩, app_ext he⟩) (fun q1 => two_intro (fun _ => ⟨⟨_, _, rfl, .inr ⟨rfl, hN⟩⟩, app_ext he⟩) (fun q2 => absurd hF (by simp only [bne_eq_false_iff_eq, beq_eq_false_iff_ne, ne_eq] at q1 q2; omega)))⟩
          · have d2 : (ek == 5) = false := by simp [h5]
            simp -implicitDefEqProofs only [kz, kk0, kk1, kk2, kk3, ↓two_true, ↓two_false, oS_some, oM_some, mkv, aggAt, Nat.reduceLeDiff, Nat.reduceSub, Nat.reduceMul, implies_true, Nat.reduceEqDiff, reduceIte, Nat.reduceAdd, Nat.reduceBEq, reduceCtorEq, al142, ap43_43, bs43_1, fa72_0, fa142_0, fa142_1, fa142_2, ix43, ix70, ld3, ld70, ld142, ln70, st142, h11, h12, h13, h4, Int.toNat_natCast, Nat.mul_one, g1, l1, Int.reduceBEq, d1, d2, wi]
            exact ⟨by omega, two_intro (fun _ => ⟨⟨_, _, rfl, .inr ⟨rfl, hN⟩⟩, app_ext he⟩) (fun q1 => two_intro (fun _ => ⟨⟨_, _, rfl, .inr ⟨rfl, hN⟩⟩, app_ext he⟩) (fun q2 => absurd hF (by simp only [bne_eq_false_iff_eq, beq_eq_false_iff_ne, ne_eq] at q1 q2; omega)))⟩
        · have hL0 : 0 < acc.length := by omega
          obtain ⟨b2, o2, cs2, e2, hb2, hle2, hcs2⟩ := ho.blk hL0
          simp only [Value.slice.injEq] at e2
          obtain ⟨rfl, _, rfl⟩ := e2
          have e1 : (acc.length : Int) - 1 = ((acc.length - 1 : Nat) : Int) := by omega
          have gc : ∀ j : Nat, j < acc.length → cs2[o2 + j]? = some (.int .i64 (gI acc j)) := fun j hj => hcs2 j _ (gI_get hj)
          have gb : ∀ L, rd (H1 ++ L) b2 = some cs2 := fun L => rd_own (gtl hb2)
          have wlen : IntKind.i64.wrap ((acc.length : Int) - 1) = ((acc.length - 1 : Nat) : Int) := by rw [wi, e1]
          have d0 : ((acc.length : Int) == 0) = false := beq_eq_false_iff_ne.2 (by omega)
          have gg := hb.g (i := acc.length - 1) (by omega)
          have w1 : IntKind.i64.wrap (1 + gI acc ((acc.length - 1 : Nat) : Int)) = 1 + gI acc ((acc.length - 1 : Nat) : Int) := IntWalk.i64_in _ (by omega)
          by_cases h5 : ek = 5
          · have d2 : (ek == 5) = true := by simp [h5]
            have ha : ea = ((acc.length - 1 : Nat) : Int) := by omega
            subst ha
            have w2 : IntKind.i64.wrap (((acc.length - 1 : Nat) : Int) - gI acc ((acc.length - 1 : Nat) : Int)) = ((acc.length - 1 : Nat) : Int) - gI acc ((acc.length - 1 : Nat) : Int) := IntWalk.i64_in _ (by omega)
            by_cases hS : ((acc.length - 1 : Nat) : Int) - gI acc ((acc.length - 1 : Nat) : Int) < 0 ∨ eb ≠ ((acc.length - 1 : Nat) : Int) - gI acc ((acc.length - 1 : Nat) : Int)
            · have hn : nxt acc ⟨ek, ((acc.length - 1 : Nat) : Int), eb, es, eo, ew, m⟩ = none := by unfold nxt; rw [if_neg (by simp only; omega), if_neg hF, if_neg (by simp only; omega), if_pos (by simp only; rw [e1]; exact hS)]
              have hN : ownG [] l = none := by rw [hown, hdr, ownG, hn]
              simp -implicitDefEqProofs only [kz, kk0, kk1, kk2, kk3, ↓two_true, ↓two_false, oS_some, oM_some, mkv, aggAt, Nat.reduceLeDiff, Nat.reduceSub, Nat.reduceMul, implies_true, Nat.reduceEqDiff, reduceIte, Nat.reduceAdd, Nat.reduceBEq, reduceCtorEq, al142, ap43_43, bs43_1, fa72_0, fa142_0, fa142_1, fa142_2, ix43, ix70, ld3, ld70, ld142, ln70, st142, h11, h12, h13, h4, Int.toNat_natCast, Nat.mul_one, g1, l1, Int.reduceBEq, d1, d2, wlen, bne_self_eq_false, d0, gb, gc _ (show acc.length - 1 < acc.length by omega), w1, w2]
              exact ⟨by omega, by omega, by omega, two_intro (fun _ => ⟨⟨_, _, rfl, .inr ⟨rfl, hN⟩⟩, app_ext he⟩) (fun q1 => two_intro (fun _ => ⟨⟨_, _, rfl, .inr ⟨rfl, hN⟩⟩, app_ext he⟩) (fun q2 => absurd hS (by simp only [bne_eq_false_iff_eq, decide_eq_false_iff_not, ne_eq] at q1 q2; omega)))⟩
            · obtain ⟨j, hj⟩ : ∃ j : Nat, eb = j := ⟨eb.toNat, by omega⟩
              have hj2 : ((acc.length - 1 : Nat) : Int) - gI acc ((acc.length - 1 : Nat) : Int) = j := by omega
              subst hj
              have hjl : j < acc.length := by omega
              have g2 := hb.g hjl
              have d3 : decide ((j : Int) < 0) = false := decide_eq_false (by omega)
              have wj : IntKind.i64.wrap (j : Int) = j := IntWalk.i64_in _ (by omega)
              have w3 : IntKind.i64.wrap (1 + gI acc ((acc.length - 1 : Nat) : Int) + gI acc (j : Int)) = 1 + gI acc ((acc.length - 1 : Nat) : Int) + gI acc (j : Int) := IntWalk.i64_in _ (by omega)
              have hn : nxt acc ⟨ek, ((acc.length - 1 : Nat) : Int), j, es, eo, ew, m⟩ = some (1 + gI acc ((acc.length - 1 : Nat) : Int) + gI acc (j : Int)) := by unfold nxt; rw [if_neg (by simp only; omega), if_neg hF, if_neg (by simp only; omega), if_neg (by simp only; rw [e1]; exact hS), e1, hj2]
              simp -implicitDefEqProofs only [kz, kk0, kk1, kk2, kk3, ↓two_true, ↓two_false, oS_some, oM_some, mkv, aggAt, Nat.reduceLeDiff, Nat.reduceSub, Nat.reduceMul, implies_true, Nat.reduceEqDiff, reduceIte, Nat.reduceAdd, Nat.reduceBEq, reduceCtorEq, al142, ap43_43, bs43_1, fa72_0, fa142_0, fa142_1, fa142_2, ix43, ix70, ld3, ld70, ld142, ln70, st142, h11, h12, h13, h4, Int.toNat_natCast, Nat.mul_one, g1, l1, Int.reduceBEq, d1, d2, wlen, bne_self_eq_false, d0, gb, gc _ (show acc.length - 1 < acc.length by omega), gc _ hjl, w1, w2, hj2, d3, wj, w3]
              refine ⟨by omega, by omega, by omega, by omega, ?_⟩
              refine oA_own1 ho.mono (by omega) fun a6 c6 H5 o6 x7 => ?_
              have hff : ∀ b, blkOf (.slice a6 (acc.length + 1) c6) = some b → H.length ≤ b := fun b hb => by
                rcases x7.new b hb with h | h
                · exact hf b h
                · have := ext_len he; simp at h; omega
              have he5 := x7.ext (app_ext he) hf
              simp -implicitDefEqProofs only [kz, kk0, kk1, kk2, kk3, ↓two_true, ↓two_false, oS_some, oM_some, mkv, aggAt, Nat.reduceLeDiff, Nat.reduceSub, Nat.reduceMul, implies_true, Nat.reduceEqDiff, reduceIte, Nat.reduceAdd, Nat.reduceBEq, reduceCtorEq, al142, ap43_43, bs43_1, fa72_0, fa142_0, fa142_1, fa142_2, ix43, ix70, ld3, ld70, ld142, ln70, st142, h11, h12, h13, h4, IntWalk.i64_in ((acc.length : Int) + 1) (by omega)]
              refine ⟨(a6, c6, acc ++ [1 + gI acc ((acc.length - 1 : Nat) : Int) + gI acc (j : Int)]), ?_⟩
              simp only [List.length_append, List.length_cons, List.length_nil, Nat.zero_add]
              exact ⟨by omega, by simp, trivial, by omega, o6, hff, he5, by rw [hown, hdr, ownG, hn], hb.nxt hn⟩
          · have d2 : (ek == 5) = false := by simp [h5]
            have ha : eb = ((acc.length - 1 : Nat) : Int) := by omega
            subst ha
            have hn : nxt acc ⟨ek, ea, ((acc.length - 1 : Nat) : Int), es, eo, ew, m⟩ = some (1 + gI acc ((acc.length - 1 : Nat) : Int)) := by unfold nxt; rw [if_neg (by simp only; omega), if_neg hF, if_pos (by simp only; omega), e1]
            simp -implicitDefEqProofs only [kz, kk0, kk1, kk2, kk3, ↓two_true, ↓two_false, oS_some, oM_some, mkv, aggAt, Nat.reduceLeDiff, Nat.reduceSub, Nat.reduceMul, implies_true, Nat.reduceEqDiff, reduceIte, Nat.reduceAdd, Nat.reduceBEq, reduceCtorEq, al142, ap43_43, bs43_1, fa72_0, fa142_0, fa142_1, fa142_2, ix43, ix70, ld3, ld70, ld142, ln70, st142, h11, h12, h13, h4, Int.toNat_natCast, Nat.mul_one, g1, l1, Int.reduceBEq, d1, d2, wlen, bne_self_eq_false, d0, gb, gc _ (show acc.length - 1 < acc.length by omega), w1]
            refine ⟨by omega, by omega, ?_⟩
            refine oA_own1 ho.mono (by omega) fun a6 c6 H5 o6 x7 => ?_
            have hff : ∀ b, blkOf (.slice a6 (acc.length + 1) c6) = some b → H.length ≤ b := fun b hb => by
              rcases x7.new b hb with h | h
              · exact hf b h
              · have := ext_len he; simp at h; omega
            have he5 := x7.ext (app_ext he) hf
            simp -implicitDefEqProofs only [kz, kk0, kk1, kk2, kk3, ↓two_true, ↓two_false, oS_some, oM_some, mkv, aggAt, Nat.reduceLeDiff, Nat.reduceSub, Nat.reduceMul, implies_true, Nat.reduceEqDiff, reduceIte, Nat.reduceAdd, Nat.reduceBEq, reduceCtorEq, al142, ap43_43, bs43_1, fa72_0, fa142_0, fa142_1, fa142_2, ix43, ix70, ld3, ld70, ld142, ln70, st142, h11, h12, h13, h4, IntWalk.i64_in ((acc.length : Int) + 1) (by omega)]
            refine ⟨(a6, c6, acc ++ [1 + gI acc ((acc.length - 1 : Nat) : Int)]), ?_⟩
            simp only [List.length_append, List.length_cons, List.length_nil, Nat.zero_add]
            exact ⟨by omega, by simp, trivial, by omega, o6, hff, he5, by rw [hown, hdr, ownG, hn], hb.nxt hn⟩
    · have hil : acc.length = n := by have : ¬ acc.length < n := by simpa using hc'
                                      omega
      refine ⟨⟨_, true, rfl, .inl ⟨rfl, acc, ?_, hil, hb, ho⟩⟩, he⟩
      rw [hown, List.drop_of_length_le (by omega), ownG]
theorem gI_end {w : List Int} {n : Nat} (h : w.length = n) (hn : 0 < n) : w[n - 1]? = some (gI w ((n : Int) - 1)) := by
  have := gI_get (l := w) (i := n - 1) (by omega)
  rw [this, show ((n : Int) - 1) = ((n - 1 : Nat) : Int) by omega]
theorem trOk_eq {l : List Nd} {n : Nat} (h : l.length = n) : trOk l = (inB n 1 60 && (l.all ndOk && (match ownG [] l with | some w => gI w ((n : Int) - 1) == n | none => false))) := by
  subst h; rfl

set_option maxHeartbeats 4000000 in
theorem implTreeOk_ok {H : AH} {v : Value} {n : Nat} {xs : List Value} (hv : FRow H v kExpr n xs) (hl : n ≤ 1048576) :
    CallsA Try.prog 59 #[.agg #[v]] H fun r H' => r = .bool (trOk (ndL (cvs H xs) n)) ∧ ∃ K, H' = H ++ K := by
  obtain ⟨a, c, rfl, gv⟩ := hv.opn 7 rfl
  have hll : (ndL (cvs H xs) n).length = n := ndL_len
  rw [trOk_eq hll]
  have hv0 := hv.mono (L := [⟨[.slice a n c], .own⟩])
  have ec := fun Φ => (containsFuncExpr_ok (g := 133) (p := fun V => !ndOk (ndOf V)) hv0 (by omega) (fun L x hx => treeOk1_el hx)).eqV (Φ := Φ)
  rw [hv.vals, any_nd] at ec
  refine w59 ?_
  unfold k59
  simp -implicitDefEqProofs only [kz, kk0, kk1, kk2, kk3, ↓two_true, ↓two_false, oS_some, oM_some, mkv, aggAt, Nat.reduceLeDiff, Nat.reduceSub, Nat.reduceMul, implies_true, Nat.reduceEqDiff, reduceIte, Nat.reduceAdd, Nat.reduceBEq, reduceCtorEq, fa72_0, ix43, ld3, ld70, ld72, ln70, within_eq, ec]
  refine two_intro (fun h1 => ?_) (fun h1 => ?_)
  · rw [show inB n 1 60 = false by simpa using h1]
    exact ⟨rfl, _, rfl⟩
  · have hb : inB n 1 60 = true := by simpa using h1
    have hb2 : 1 ≤ n ∧ n ≤ 60 := by simp [inB] at hb; omega
    rw [hb]
    refine two_intro (fun h2 => ?_) (fun h2 => ?_)
    · have h3 : (ndL (cvs H xs) n).all ndOk = false := by simpa using h2
      rw [h3]
      exact ⟨rfl, _, rfl⟩
    · have h3 : (ndL (cvs H xs) n).all ndOk = true := by simpa using h2
      rw [h3]
      generalize hJ : jk Try.prog 132 #[.slice a n c, .func (.func 133) #[] #[]] (H ++ [⟨[.slice a n c], .own⟩]) = J
      have hd := owned_ok (hv.mono (L := ⟨[.slice a n c], .own⟩ :: J)) hb2.2 (by rw [hv.vals]; exact h3)
      rw [hv.vals] at hd
      refine hd.mono ?_
      rintro _ H2 ⟨⟨w, ok, rfl, hw⟩, hK⟩
      have hK2 := ext_trans ⟨_, rfl⟩ hK
      rcases hw with ⟨rfl, ow, e1, e2, e3, e4⟩ | ⟨rfl, e1⟩
      · obtain ⟨b2, o2, cs2, rfl, hb3, hle2, hcs2⟩ := e4.blk (by omega)
        have hg := hcs2 (n - 1) _ (gI_end e2 (by omega))
        have wl : IntKind.i64.wrap ((n : Int) - 1) = ((n - 1 : Nat) : Int) := by rw [IntWalk.i64_in _ (by omega)]; omega
        simp -implicitDefEqProofs only [kz, kk0, kk1, kk2, kk3, ↓two_true, ↓two_false, oS_some, oM_some, mkv, aggAt, Nat.reduceLeDiff, Nat.reduceSub, Nat.reduceMul, implies_true, Nat.reduceEqDiff, reduceIte, Nat.reduceAdd, Nat.reduceBEq, reduceCtorEq, fa72_0, ix43, ld3, ld70, ld72, ln70, wl, e2, Int.toNat_natCast, Nat.mul_one, rd_own hb3, hg, e1]
        exact ⟨by omega, by simp, hK2⟩
      · simp -implicitDefEqProofs only [kz, kk0, kk1, kk2, kk3, ↓two_true, ↓two_false, oS_some, oM_some, mkv, aggAt, Nat.reduceLeDiff, Nat.reduceSub, Nat.reduceMul, implies_true, Nat.reduceEqDiff, reduceIte, Nat.reduceAdd, Nat.reduceBEq, reduceCtorEq, fa72_0, ix43, ld3, ld70, ld72, ln70, e1]
        exact ⟨by simp, hK2⟩

set_option maxHeartbeats 4000000 in
theorem specTreeOk_ok {H : AH} {v : Value} {n : Nat} {xs : List Value} (hv : FRow H v kExpr n xs) (hl : n ≤ 1048576) :
    CallsA Try.prog 57 #[.agg #[v]] H fun r H' => r = .bool (trOk (ndL (cvs H xs) n)) ∧ ∃ K, H' = H ++ K := by
  obtain ⟨a, c, rfl, gv⟩ := hv.opn 7 rfl
  generalize hL : ndL (cvs H xs) n = l
  have hll : l.length = n := by rw [← hL, ndL_len]
  rw [trOk_eq hll]
  refine w57 ?_
  unfold k57
  simp -implicitDefEqProofs only [kz, kk0, kk1, kk2, kk3, ↓two_true, ↓two_false, oS_some, oM_some, mkv, aggAt, Nat.reduceLeDiff, Nat.reduceSub, Nat.reduceMul, implies_true, Nat.reduceEqDiff, reduceIte, Nat.reduceAdd, Nat.reduceBEq, reduceCtorEq, ap43_43, bs43_0, bs43_1, fa72_0, ix43, ix70, ld3, ld70, ld142, ln70, l1In_eq]
  refine two_intro (fun h1 => ?_) (fun h1 => ?_)
  · rw [show inB n 1 60 = false by simpa using h1]
    exact ⟨rfl, _, rfl⟩
  · have hb : inB n 1 60 = true := by simpa using h1
    have hb2 : 1 ≤ n ∧ n ≤ 60 := by simp [inB] at hb; omega
    rw [hb]
    refine rW_loop (σ := Option Addr × Nat × List Int) (fun (a', c', acc) tm H' => tm 1 = .pointer (some ⟨H.length, 0, none⟩) ∧ tm 3 = .int .i64 n ∧ tm 5 = .int .i64 acc.length ∧ tm 4 = .slice a' acc.length c' ∧ acc.length ≤ n ∧ OwnRow H' (.slice a' acc.length c') acc ∧ (∀ b, blkOf (.slice a' acc.length c') = some b → (H ++ [⟨[.slice a n c], .own⟩] : AH).length ≤ b) ∧ (∃ K, H' = (H ++ [⟨[.slice a n c], .own⟩]) ++ K) ∧ ownG [] l = ownG acc (l.drop acc.length) ∧ OwB acc ∧ ∀ x ∈ l.take acc.length, ndOk x = true) (fun s => n - s.2.2.length) (some ⟨H.length + 1, 0, none⟩, 1, []) ?_ ?_
    · simp -implicitDefEqProofs [kk0, kk1, kk2, kk3, rW_block, ↓two_true, ↓two_false, rW_cond, rO_guard, oS_some, oM_some, mkv, aggAt, Nat.reduceLeDiff, Nat.reduceSub, Nat.reduceMul, cond_true, cond_false, Option.bind_some, List.length_append, List.length_cons, List.length_nil, List.append_assoc, List.cons_append, List.nil_append, List.set_cons_zero, List.set_cons_succ, List.size_toArray, List.all_cons, List.all_nil, List.drop_zero, List.drop_succ_cons, List.take_succ_cons, List.take_zero, List.mem_cons, Prod.mk.injEq, List.not_mem_nil, implies_true, List.getElem?_toArray, List.getElem?_cons_zero, List.getElem?_cons_succ, List.getElem?_nil, Option.getD_some, Option.getD_none, Nat.reduceEqDiff, reduceIte, Nat.reduceAdd, List.map_toArray, List.map_cons, List.map_nil, Bool.false_eq_true, Nat.reduceBEq, Option.map_some, Option.map_none, reduceCtorEq, ap43_43, bs43_0, bs43_1, fa72_0, ix43, ix70, ld3, ld70, ld142, ln70, OwB.nil]
      exact ⟨.inr ⟨H.length + 1, 0, [], rfl, by simp, by simp, by simp [ints]⟩, fun b hb => by simp [blkOf] at hb; omega⟩
    · rintro ⟨a', c', acc⟩ tm H1 ⟨ht1, ht3, ht5, ht4, hi, ho, hf, he, hown, hob, hnd⟩
      have g0 : rd H1 H.length = some [.slice a n c] := rd_ext (rd_own (by rw [gt0]; rfl)) he
      have he1 : ∃ K, H1 = H ++ K := by obtain ⟨K, rfl⟩ := he; exact ⟨_, List.append_assoc ..⟩
      simp -implicitDefEqProofs only [kz, kk0, kk1, kk2, kk3, ↓two_true, ↓two_false, oS_some, oM_some, mkv, aggAt, Nat.reduceLeDiff, Nat.reduceSub, Nat.reduceMul, implies_true, Nat.reduceEqDiff, reduceIte, Nat.reduceAdd, Nat.reduceBEq, reduceCtorEq, ap43_43, bs43_0, bs43_1, fa72_0, ix43, ix70, ld3, ld70, ld142, ln70, ht1, ht3, ht5, ht4]
      refine two_intro (fun hc' => ?_) (fun hc' => ?_)
      · have hlt : acc.length < n := by simpa using hc'
        obtain ⟨b, o, cs, rfl, rfl, hrd, hle, hcell⟩ := gv (by omega)
        have x1 := hv.elemn 7 rfl hlt
        have hin : l[acc.length]? = some (ndOf ((elm 7 xs acc.length).map (cv H))) := by rw [← hL]; exact ndL_get hlt
        have hlt2 : acc.length < l.length := by omega
        have hing : l[acc.length] = ndOf ((elm 7 xs acc.length).map (cv H)) := by rw [List.getElem?_eq_getElem hlt2] at hin; exact Option.some.inj hin
        have hdr : l.drop acc.length = ndOf ((elm 7 xs acc.length).map (cv H)) :: l.drop (acc.length + 1) := by
          rw [List.drop_eq_getElem_cons hlt2, hing]
        obtain ⟨x2, x3⟩ := x1.ext he1
        have g1 := rd_ext hrd he1
        have l1 : ld Try.prog 142 (o + acc.length * 7) cs = some (.agg (elm 7 xs acc.length).toArray) := by rw [ld142]; exact (hcell _ hlt).1
        simp -implicitDefEqProofs only [kz, kk0, kk1, kk2, kk3, ↓two_true, ↓two_false, oS_some, oM_some, mkv, aggAt, Nat.reduceLeDiff, Nat.reduceSub, Nat.reduceMul, implies_true, Nat.reduceEqDiff, reduceIte, Nat.reduceAdd, Nat.reduceBEq, reduceCtorEq, ap43_43, bs43_0, bs43_1, fa72_0, ix43, ix70, ld3, ld70, ld142, ln70, ht1, ht3, ht5, ht4, Int.toNat_natCast, g0, g1, l1]
        refine ⟨by omega, (l9Node_el x2 ho.int hob (by omega)).mono ?_⟩
        rintro _ H2 ⟨⟨kk, ok, rfl, hk1, hk2⟩, hK2⟩
        rw [x3] at hk1 hk2
        have he2 := ext_trans he hK2
        have ho2 := ho.ext hK2
        cases ok with
        | false =>
          simp -implicitDefEqProofs only [kz, kk0, kk1, kk2, kk3, ↓two_true, ↓two_false, oS_some, oM_some, mkv, aggAt, Nat.reduceLeDiff, Nat.reduceSub, Nat.reduceMul, implies_true, Nat.reduceEqDiff, reduceIte, Nat.reduceAdd, Nat.reduceBEq, reduceCtorEq, ap43_43, bs43_0, bs43_1, fa72_0, ix43, ix70, ld3, ld70, ld142, ln70, ht1, ht3, ht5, ht4, Bool.not_true, Bool.not_false]
          refine ⟨?_, by obtain ⟨K, rfl⟩ := he2; exact ⟨_, List.append_assoc ..⟩⟩
          rcases hk2 rfl with h | h
          · have : l.all ndOk = false := by
              rw [Bool.eq_false_iff]
              intro ha
              rw [(List.all_eq_true.1 ha) _ (List.mem_of_getElem? hin)] at h
              cases h
            rw [this]; simp
          · have : ownG [] l = none := by rw [hown, hdr, ownG, h]
            rw [this]; simp
        | true =>
          obtain ⟨hk3, hk4⟩ := hk1 rfl
          simp -implicitDefEqProofs only [kz, kk0, kk1, kk2, kk3, ↓two_true, ↓two_false, oS_some, oM_some, mkv, aggAt, Nat.reduceLeDiff, Nat.reduceSub, Nat.reduceMul, implies_true, Nat.reduceEqDiff, reduceIte, Nat.reduceAdd, Nat.reduceBEq, reduceCtorEq, ap43_43, bs43_0, bs43_1, fa72_0, ix43, ix70, ld3, ld70, ld142, ln70, ht1, ht3, ht5, ht4, Bool.not_true, Bool.not_false]
          refine oA_own ho2.mono intRow1 (by simp; omega) fun a6 c6 H5 o6 x7 => ?_
          have hff : ∀ b, blkOf (.slice a6 (acc.length + [kk].length) c6) = some b → (H ++ [⟨[.slice (some ⟨b, o, none⟩) n 7], .own⟩] : AH).length ≤ b := fun b' hb' => by
            rcases x7.new b' hb' with h | h
            · have := hf b' h; simp at this ⊢; exact this
            · have := ext_len he2; simp at h this ⊢; omega
          have he5 := x7.ext (app_ext he2) hf
          simp -implicitDefEqProofs only [kz, kk0, kk1, kk2, kk3, ↓two_true, ↓two_false, oS_some, oM_some, mkv, aggAt, Nat.reduceLeDiff, Nat.reduceSub, Nat.reduceMul, implies_true, Nat.reduceEqDiff, reduceIte, Nat.reduceAdd, Nat.reduceBEq, reduceCtorEq, ap43_43, bs43_0, bs43_1, fa72_0, ix43, ix70, ld3, ld70, ld142, ln70, ht1, ht3, ht5, ht4, IntWalk.i64_in ((acc.length : Int) + 1) (by omega)]
          refine ⟨(a6, c6, acc ++ [kk]), ?_⟩
          simp only [List.length_append, List.length_cons, List.length_nil, Nat.zero_add] at o6 hff ⊢
          refine ⟨by omega, by simp, trivial, by omega, o6, hff, by obtain ⟨K, hK⟩ := he5; exact ⟨K, by rw [hK, List.append_assoc]; rfl⟩, by rw [hown, hdr, ownG, hk4], hob.nxt hk4, fun x hx => ?_⟩
          rw [List.take_succ_eq_append_getElem hlt2, hing] at hx
          rcases List.mem_append.1 hx with hx | hx
          · exact hnd x hx
          · rw [List.mem_singleton.1 hx]; exact hk3
      · have hil : acc.length = n := by have : ¬ acc.length < n := by simpa using hc'
                                        omega
        have hall : l.all ndOk = true := List.all_eq_true.2 fun x hx => hnd x (by rw [List.take_of_length_le (by omega)]; exact hx)
        have hN : ownG [] l = some acc := by rw [hown, List.drop_of_length_le (by omega), ownG]
        obtain ⟨b2, o2, cs2, e2, hb3, hle2, hcs2⟩ := ho.blk (by omega)
        simp only [Value.slice.injEq] at e2
        obtain ⟨rfl, _, rfl⟩ := e2
        have hg := hcs2 (n - 1) _ (gI_end hil (by omega))
        have wl : IntKind.i64.wrap ((n : Int) - 1) = ((n - 1 : Nat) : Int) := by rw [IntWalk.i64_in _ (by omega)]; omega
        simp -implicitDefEqProofs only [kz, kk0, kk1, kk2, kk3, ↓two_true, ↓two_false, oS_some, oM_some, mkv, aggAt, Nat.reduceLeDiff, Nat.reduceSub, Nat.reduceMul, implies_true, Nat.reduceEqDiff, reduceIte, Nat.reduceAdd, Nat.reduceBEq, reduceCtorEq, ap43_43, bs43_0, bs43_1, fa72_0, ix43, ix70, ld3, ld70, ld142, ln70, ht1, ht3, ht5, ht4, wl, hil, Int.toNat_natCast, Nat.mul_one, rd_own hb3, hg, hall, hN]
        exact ⟨by omega, by simp, by obtain ⟨K, rfl⟩ := he; exact ⟨_, List.append_assoc ..⟩⟩

theorem szTree_fl {H : AH} {v : Value} {n : Nat} {xs : List Value} {q : Int} (hv : FRow H v kExprw n xs) (hl : n ≤ 9223372036854775807) (hq : -1 ≤ q ∧ q ≤ 1048576) :
    CallsA Try.prog 56 #[.agg #[v], .int .i64 q] H fun r H' => r = .int .i64 (szI (n + rsum (cvs H xs)) q) ∧ ∃ K, H' = H ++ K := by
  obtain ⟨a, c, rfl, _⟩ := hv.op
  refine w56 ?_
  unfold k56
  simp -implicitDefEqProofs only [kz, kk0, kk1, kk2, kk3, ↓two_true, ↓two_false, oS_some, oM_some, mkv, aggAt, Nat.reduceLeDiff, Nat.reduceSub, Nat.reduceMul, implies_true, Nat.reduceEqDiff, reduceIte, Nat.reduceAdd, Nat.reduceBEq, reduceCtorEq, fa67_0, ld65]
  have hs := szExprS_fl (hv.mono (L := [⟨[.slice a n c], .own⟩])) hl hq
  rw [hv.vals] at hs
  refine hs.mono ?_
  rintro _ H1 ⟨rfl, hK⟩
  have hK1 : ∃ K, H1 = H ++ K := ext_trans ⟨_, rfl⟩ hK
  simp -implicitDefEqProofs only [kz, kk0, kk1, kk2, kk3, ↓two_true, ↓two_false, oS_some, oM_some, mkv, aggAt, Nat.reduceLeDiff, Nat.reduceSub, Nat.reduceMul, implies_true, Nat.reduceEqDiff, reduceIte, Nat.reduceAdd, Nat.reduceBEq, reduceCtorEq, fa67_0, ld65]
  refine two_intro (fun h => ?_) (fun h => by first | exact hK1 | exact ⟨rfl, hK1⟩)
  rw [szI_neg (by simpa using h)]
  first | exact hK1 | exact ⟨rfl, hK1⟩

theorem treeNew {H0 H H1 : AH} {v : Value} {n b : Nat} {ys : List Value} {V : List CV} {k : Blk} (h : NewL H H1 [.row v kExpr n ys] [V]) (h0 : H0.length ≤ H.length) (hb : b < H.length) : NewL H0 (H1.set b k) [.row v kExpr n ys] [V] := by
  have hne : ∀ g, bsL [.row v kExpr n ys] g → (H1.set b k)[g]? = H1[g]? := fun g hg => List.getElem?_set_ne (by have := h.fr g hg; omega)
  exact ⟨h.own.same hne, fun g hg => by have := h.fr g hg; omega, by rw [(h.own.rd.same hne).2]; exact h.vals⟩
set_option maxHeartbeats 4000000 in
theorem toTree_th {H : AH} {v : Value} {n : Nat} {xs : List Value} {V : List CV} (h : LI.ok H (.rd [.row v kExpr n xs] [V])) (hl : n ≤ 1048576) (hs : rsum V ≤ 1048576) :
    CallsA Try.prog 58 #[.agg #[v]] H fun r H' => (∃ a c ys, r = .agg #[.slice a n c] ∧ NewL H H' [.row (.slice a n c) kExpr n ys] [V]) ∧ ∃ K, H' = H ++ K := by
  obtain ⟨h1, _⟩ := LI.row h
  obtain ⟨a, c, rfl, _⟩ := h1.op
  clear h1
  refine w58 ?_
  unfold k58
  simp -implicitDefEqProofs only [kz, kk0, kk1, kk2, kk3, ↓two_true, ↓two_false, oS_some, oM_some, mkv, aggAt, Nat.reduceLeDiff, Nat.reduceSub, Nat.reduceMul, implies_true, Nat.reduceEqDiff, reduceIte, Nat.reduceAdd, Nat.reduceBEq, reduceCtorEq, al72, fa67_0, fa72_0, ld65, ld72, st70, st72]
  refine (toExprS_th (h.ext ⟨_, rfl⟩) hl hs).mono ?_
  rintro _ H1 ⟨⟨a', c', ys, rfl, nl⟩, hK⟩
  have b0 : H1[H.length + 1]? = some ⟨[.slice none 0 0], .own⟩ := by
    obtain ⟨K, rfl⟩ := hK
    exact gtl (by rw [gti]; rfl)
  have b1 : H1[H.length + 2]? = some ⟨[.slice none 0 0], .own⟩ := by
    obtain ⟨K, rfl⟩ := hK
    exact gtl (by rw [gti]; rfl)
  have b2 : (H1.set (H.length + 2) ⟨[.slice a' n c'], .own⟩)[H.length + 1]? = some ⟨[.slice none 0 0], .own⟩ := by rw [List.getElem?_set_ne (by omega)]; exact b0
  simp -implicitDefEqProofs only [kz, kk0, kk1, kk2, kk3, ↓two_true, ↓two_false, oS_some, oM_some, mkv, aggAt, Nat.reduceLeDiff, Nat.reduceSub, Nat.reduceMul, implies_true, Nat.reduceEqDiff, reduceIte, Nat.reduceAdd, Nat.reduceBEq, reduceCtorEq, al72, fa67_0, fa72_0, ld65, ld72, st70, st72, wrt_own b0, wrt_own b1, wrt_own b2, rd_own (set_at b0), rd_own (set_at b1), rd_own (set_at b2)]
  exact ⟨⟨a', c', ys, rfl, treeNew (treeNew nl (Nat.le_refl _) (by simp)) (by simp) (by simp)⟩, set_ext (set_ext (ext_trans ⟨_, rfl⟩ hK) (by omega)) (by omega)⟩

set_option maxHeartbeats 4000000 in
theorem eqTree_th {H : AH} {v w : Value} {n m : Nat} {xs ys : List Value} {V W : List CV} (h : LI.ok H (.rd [.row v kExpr n xs] [V])) (h' : LI.ok H (.rd [.row w kExpr m ys] [W])) (hl : n ≤ 1073741824) (hl2 : m ≤ 1073741824) :
    CallsA Try.prog 60 #[.agg #[v], .agg #[w]] H fun r H' => r = .bool (V == W) ∧ ∃ K, H' = H ++ K := by
  obtain ⟨a, c, rfl, _⟩ := (LI.row h).1.op
  obtain ⟨a', c', rfl, _⟩ := (LI.row h').1.op
  refine w60 ?_
  unfold k60
  simp -implicitDefEqProofs only [kz, kk0, kk1, kk2, kk3, ↓two_true, ↓two_false, oS_some, oM_some, mkv, aggAt, Nat.reduceLeDiff, Nat.reduceSub, Nat.reduceMul, implies_true, Nat.reduceEqDiff, reduceIte, Nat.reduceAdd, Nat.reduceBEq, reduceCtorEq, fa72_0, ld70]
  refine (eqExprS_th (h.ext ⟨_, rfl⟩) (h'.ext ⟨_, rfl⟩) hl hl2).mono ?_
  rintro _ H1 ⟨rfl, hK⟩
  have hK1 : ∃ K, H1 = H ++ K := ext_trans ⟨_, rfl⟩ hK
  simp -implicitDefEqProofs only [kz, kk0, kk1, kk2, kk3, ↓two_true, ↓two_false, oS_some, oM_some, mkv, aggAt, Nat.reduceLeDiff, Nat.reduceSub, Nat.reduceMul, implies_true, Nat.reduceEqDiff, reduceIte, Nat.reduceAdd, Nat.reduceBEq, reduceCtorEq, fa72_0, ld70]
  refine two_intro (fun h => ?_) (fun h => ?_)
  · rw [show (V == W) = false by simpa using h]; exact ⟨rfl, hK1⟩
  · rw [show (V == W) = true by simpa using h]; exact ⟨rfl, hK1⟩

theorem specTreeOk_u {H : AH} {v : Value} {n : Nat} {xs : List Value} {V : List CV} (h : LI.ok H (.rd [.row v kExpr n xs] [V])) (hl : n ≤ 1048576) :
    CallsA Try.prog 57 #[.agg #[v]] H fun r H' => r = .bool (trOk (ndL V n)) ∧ ∃ K, H' = H ++ K := by
  obtain ⟨h1, rfl⟩ := LI.row h
  exact specTreeOk_ok h1 hl

theorem implTreeOk_u {H : AH} {v : Value} {n : Nat} {xs : List Value} {V : List CV} (h : LI.ok H (.rd [.row v kExpr n xs] [V])) (hl : n ≤ 1048576) :
    CallsA Try.prog 59 #[.agg #[v]] H fun r H' => r = .bool (trOk (ndL V n)) ∧ ∃ K, H' = H ++ K := by
  obtain ⟨h1, rfl⟩ := LI.row h
  exact implTreeOk_ok h1 hl

theorem cofTree : Try.prog.cellsOf 67 = 1 := by kernel_rfl
theorem rpTree {H : AH} {v : Value} (h : RpV Try.prog H 67 v) : ∃ w, v = .agg #[w] ∧ RpV Try.prog H 65 w := by
  obtain ⟨k, vs, h, rfl⟩ := h
  obtain ⟨h1, k, h2⟩ := h.struct Try.underlying67
  rw [cofTree] at h1
  obtain ⟨x, rfl⟩ : ∃ x, vs = [x] := List.length_eq_one_iff.1 h1
  refine ⟨x, by simp [mkV, Try.underlying67], k, [x], ?_, by simp [mkV, Try.underlying65]⟩
  simp only [List.forall_mem_cons, List.not_mem_nil, false_implies, implies_true, and_true, List.drop_zero, show Try.prog.cellsOf 65 = 1 by kernel_rfl, List.take_succ_cons, List.take_zero] at h2
  exact h2

set_option maxHeartbeats 4000000 in
theorem law11 : LawA Try.prog 11 [67] := by
  intro H vs hro h
  obtain ⟨v, vs, rfl, h1, h2⟩ := h.cons
  obtain rfl := h2.nil
  obtain ⟨v, rfl, h3⟩ := rpTree h1
  obtain ⟨n, xs, fr, hn⟩ := rpRow (m := 5) (ks := kExprw) h3 Try.underlying65 (by kernel_rfl) (by kernel_rfl)
  obtain ⟨a0a, a0c, rfl, _⟩ := fr.op
  refine w11 ?_
  unfold k11
  simp -implicitDefEqProofs only [kz, kk0, kk1, kk2, kk3, ↓two_true, ↓two_false, oS_some, oM_some, mkv, aggAt, Nat.reduceLeDiff, Nat.reduceSub, Nat.reduceMul, implies_true, Nat.reduceEqDiff, reduceIte, Nat.reduceAdd, Nat.reduceBEq, reduceCtorEq, al72, ld67, ld72, st72, (bin_bool_eql ub4), (bin_bool_neq ub4)]
  have hs := szTree_fl (q := 1048576) (fr.mono (L := [⟨[.slice a0a n a0c], .own⟩])) hn (by decide)
  rw [fr.vals] at hs
  refine hs.mono ?_
  rintro _ H0 ⟨rfl, hK0⟩
  have b0 : ∀ {H' : AH}, (∃ K, H' = H0 ++ K) → rd H' H.length = some [.slice a0a n a0c] := fun {H'} hK => by
    refine rd_ext (rd_ext (rd_own (by rw [gt0]; rfl)) hK0) hK
  have hK0' : ∃ K, H0 = H ++ K := ext_trans ⟨_, rfl⟩ hK0
  simp -implicitDefEqProofs only [kz, kk0, kk1, kk2, kk3, ↓two_true, ↓two_false, oS_some, oM_some, mkv, aggAt, Nat.reduceLeDiff, Nat.reduceSub, Nat.reduceMul, implies_true, Nat.reduceEqDiff, reduceIte, Nat.reduceAdd, Nat.reduceBEq, reduceCtorEq, al72, ld67, ld72, st72, (bin_bool_eql ub4), (bin_bool_neq ub4)]
  refine two_intro (fun h => trivial) (fun h => ?_)
  obtain ⟨-, hsz⟩ := szI_pos (by simpa using h)
  have fr1 : FRow H (.slice a0a n a0c) kExpr n xs := fr.strong (by omega)
  have hn1 : n ≤ 1048576 := by omega
  have hs1 : rsum (cvs H xs) ≤ 1048576 := by omega
  have f_a0 : LI.ok H (.rd [.row (.slice a0a n a0c) kExpr n xs] [cvs H xs]) := ⟨fun c hc => by simp only [List.mem_singleton] at hc; subst hc; exact fr1, rfl⟩
  have f_a0 := f_a0.ext hK0'
  clear h hsz
  generalize hV : cvs H xs = V at *
  clear hV fr fr1
  simp -implicitDefEqProofs only [kz, kk0, kk1, kk2, kk3, ↓two_true, ↓two_false, oS_some, oM_some, mkv, aggAt, Nat.reduceLeDiff, Nat.reduceSub, Nat.reduceMul, implies_true, Nat.reduceEqDiff, reduceIte, Nat.reduceAdd, Nat.reduceBEq, reduceCtorEq, al72, ld67, ld72, st72, (bin_bool_eql ub4), (bin_bool_neq ub4), b0 ⟨[], (List.append_nil _).symm⟩]
  refine (toTree_th f_a0 hn1 hs1).mono ?_
  rintro _ H1 ⟨⟨t1a, t1c, t1ys, rfl, nl⟩, hK1⟩
  have E1 : ∃ K, H1 = H0 ++ K := hK1
  have f_a0 := f_a0.ext hK1
  have f_t1 := (nl).ok.1
  simp -implicitDefEqProofs only [kz, kk0, kk1, kk2, kk3, ↓two_true, ↓two_false, oS_some, oM_some, mkv, aggAt, Nat.reduceLeDiff, Nat.reduceSub, Nat.reduceMul, implies_true, Nat.reduceEqDiff, reduceIte, Nat.reduceAdd, Nat.reduceBEq, reduceCtorEq, al72, ld67, ld72, st72, (bin_bool_eql ub4), (bin_bool_neq ub4)]
  refine (specTreeOk_u f_t1.rd hn1).mono ?_
  rintro _ H2 ⟨rfl, hK2⟩
  have E2 := ext_trans E1 hK2
  have f_a0 := f_a0.ext hK2
  simp -implicitDefEqProofs only [kz, kk0, kk1, kk2, kk3, ↓two_true, ↓two_false, oS_some, oM_some, mkv, aggAt, Nat.reduceLeDiff, Nat.reduceSub, Nat.reduceMul, implies_true, Nat.reduceEqDiff, reduceIte, Nat.reduceAdd, Nat.reduceBEq, reduceCtorEq, al72, ld67, ld72, st72, (bin_bool_eql ub4), (bin_bool_neq ub4), b0 E2]
  refine (toTree_th f_a0 hn1 hs1).mono ?_
  rintro _ H3 ⟨⟨xa, xc, xys, rfl, nl⟩, hK3⟩
  have E3 := ext_trans E2 hK3
  have f_a0 := f_a0.ext hK3
  have f_x := (nl).ok.1
  simp -implicitDefEqProofs only [kz, kk0, kk1, kk2, kk3, ↓two_true, ↓two_false, oS_some, oM_some, mkv, aggAt, Nat.reduceLeDiff, Nat.reduceSub, Nat.reduceMul, implies_true, Nat.reduceEqDiff, reduceIte, Nat.reduceAdd, Nat.reduceBEq, reduceCtorEq, al72, ld67, ld72, st72, (bin_bool_eql ub4), (bin_bool_neq ub4)]
  refine (implTreeOk_u (f_x.rd.ext ⟨_, rfl⟩) hn1).mono ?_
  rintro _ H4 ⟨rfl, hK4⟩
  have hK4' := ext_trans ⟨_, rfl⟩ hK4
  have E4 := ext_trans E3 hK4'
  have f_a0 := f_a0.ext hK4'
  have f_x := f_x.ext hK4'
  have b1 : ∀ {H' : AH}, (∃ K, H' = H4 ++ K) → rd H' H3.length = some [.slice xa n xc] := fun {H'} hK => rd_ext (rd_ext (rd_own (by rw [gt0]; rfl)) hK4) hK
  simp -implicitDefEqProofs only [kz, kk0, kk1, kk2, kk3, ↓two_true, ↓two_false, oS_some, oM_some, mkv, aggAt, Nat.reduceLeDiff, Nat.reduceSub, Nat.reduceMul, implies_true, Nat.reduceEqDiff, reduceIte, Nat.reduceAdd, Nat.reduceBEq, reduceCtorEq, al72, ld67, ld72, st72, (bin_bool_eql ub4), (bin_bool_neq ub4), bne_self_eq_false, b0 E4, b1 ⟨[], (List.append_nil _).symm⟩]
  refine (toTree_th f_a0 hn1 hs1).mono ?_
  rintro _ H5 ⟨⟨ya, yc, yys, rfl, nl⟩, hK5⟩
  have f_x := f_x.ext hK5
  have f_y := (nl).ok.1
  simp -implicitDefEqProofs only [kz, kk0, kk1, kk2, kk3, ↓two_true, ↓two_false, oS_some, oM_some, mkv, aggAt, Nat.reduceLeDiff, Nat.reduceSub, Nat.reduceMul, implies_true, Nat.reduceEqDiff, reduceIte, Nat.reduceAdd, Nat.reduceBEq, reduceCtorEq, al72, ld67, ld72, st72, (bin_bool_eql ub4), (bin_bool_neq ub4), b1 hK5]
  refine (eqTree_th f_x.rd f_y.rd (by omega) (by omega)).mono ?_
  rintro _ H6 ⟨rfl, hK6⟩
  simp -implicitDefEqProofs only [kz, kk0, kk1, kk2, kk3, ↓two_true, ↓two_false, oS_some, oM_some, mkv, aggAt, Nat.reduceLeDiff, Nat.reduceSub, Nat.reduceMul, implies_true, Nat.reduceEqDiff, reduceIte, Nat.reduceAdd, Nat.reduceBEq, reduceCtorEq, al72, ld67, ld72, st72, (bin_bool_eql ub4), (bin_bool_neq ub4), beq_self_eq_true, Bool.and_self, Bool.not_true]

end Go.Proofs.Ytgekbancaeabgaa.AM
