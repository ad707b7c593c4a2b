/- The abstract machine: arguments that come in, and a law out of the abstract call. -/
import Derived.Test.YtdagncfnkenbfaaA7
import Derived.Carry
import Derived.WideShapes
import Derived.ChangeArms
import Derived.WalkKit
import Derived.ProofKit
import Derived.OpenShut
import Derived.ChangeOld
import Derived.Below
import Derived.SizedLaws
set_option linter.unusedVariables false
set_option linter.unusedSimpArgs false
set_option linter.defProp false
/- The abstract machine: the arguments that come in, as abstract values over blocks that are only read. -/
namespace Go.Proofs.Ytdagncfnkenbfaa.AM
open Go

section
variable (P : Program)

def tileOk : List Field → Nat → Nat → Bool
  | [], o, n => o == n
  | f :: r, o, n => f.offset == o && tileOk r (o + P.cellsOf f.type) n

/-- Types whose values are read here. -/
def simT : Nat → TypeId → Bool
  | 0, _ => false
  | k + 1, t =>
    match P.underlying t with
    | some .bool | some (.int _) | some .string => true
    | some (.slice e) => simT k e
    | some (.pointer e) => simT k e
    | some (.struct fs) => tileOk P fs.toList 0 (P.cellsOf t) && fs.toList.all fun f => simT k f.type
    | _ => false

/-- What the cells 'vs' of a value of type 't' are like. -/
def Rp (H : AH) : Nat → TypeId → List Value → Prop
  | 0, _, _ => False
  | k + 1, t, vs =>
    match P.underlying t with
    | some .bool => ∃ b, vs = [.bool b]
    | some (.int q) => ∃ n, vs = [.int q n] ∧ (Lit.int q n).wf = true
    | some .string => ∃ s, vs = [.string s] ∧ s.size ≤ maxLen
    | some (.slice e) => vs = [.slice none 0 0] ∨ ∃ b n cs, vs = [.slice (some ⟨b, 0, none⟩) n (P.cellsOf e)] ∧ H[b]? = some ⟨cs, .ro⟩ ∧ cs.length = n * P.cellsOf e ∧ n ≤ maxLen ∧
        ∀ i, i < n → Rp H k e ((cs.drop (i * P.cellsOf e)).take (P.cellsOf e))
    | some (.pointer e) => vs = [.pointer none] ∨ ∃ b cs, vs = [.pointer (some ⟨b, 0, none⟩)] ∧ H[b]? = some ⟨cs, .ro⟩ ∧ cs.length = P.cellsOf e ∧ Rp H k e cs
    | some (.struct fs) => vs.length = P.cellsOf t ∧ ∀ f ∈ fs.toList, Rp H k f.type ((vs.drop f.offset).take (P.cellsOf f.type))
    | _ => False
end

section
variable {P : Program} {W : World}

theorem Rp.mono {H L : AH} : ∀ {k : Nat} {t : TypeId} {vs : List Value}, Rp P H k t vs → Rp P (H ++ L) k t vs := by
  intro k
  induction k with
  | zero => intro t vs h; exact h
  | succ k ih =>
    intro t vs h
    simp only [Rp] at h ⊢
    split at h
    · exact h
    · exact h
    · exact h
    · rcases h with h | ⟨b, n, cs, h1, h2, h3, h4, h5⟩
      · exact .inl h
      · exact .inr ⟨b, n, cs, h1, gtl h2, h3, h4, fun i hi => ih (h5 i hi)⟩
    · rcases h with h | ⟨b, cs, h1, h2, h3, h4⟩
      · exact .inl h
      · exact .inr ⟨b, cs, h1, gtl h2, h3, ih h4⟩
    · exact ⟨h.1, fun f hf => ih (h.2 f hf)⟩
    · exact h.elim

/-- Blocks that are all only read, each at its place in the world. -/
structure Ro (ρ : Rho) (H : AH) (W : World) : Prop where
  hr : HR ρ H.get W
  ro : ∀ (b : Nat) (k : Blk), H[b]? = some k → k.st = .ro
  dom : ∀ b, H.length ≤ b → ρ b = none

theorem Ro.add {ρ : Rho} {H : AH} (h : Ro ρ H W) {cs : List Value} {l : Loc} (hc : ∀ (i : Nat) v, cs[i]? = some v → ∃ v', W.cell? (l.base.add i) = some v' ∧ VR ρ v v') :
    Ro (rupd ρ H.length l) (H ++ [⟨cs, .ro⟩]) W ∧ Sub ρ (rupd ρ H.length l) := by
  have hs : Sub ρ (rupd ρ H.length l) := by
    intro b l' hb
    unfold rupd
    by_cases e : b = H.length
    · subst e; rw [h.dom _ (Nat.le_refl _)] at hb; cases hb
    · rw [if_neg e]; exact hb
  have hro : ∀ (b : Nat) (k : Blk), (H ++ [⟨cs, .ro⟩])[b]? = some k → k.st = .ro := by
    intro b k hb
    rcases Nat.lt_or_ge b H.length with hlt | hge
    · rw [List.getElem?_append_left hlt] at hb; exact h.ro b k hb
    · rw [List.getElem?_append_right hge] at hb
      cases hd : b - H.length with
      | zero => rw [hd] at hb; simp at hb; subst hb; rfl
      | succ m => rw [hd] at hb; simp at hb
  refine ⟨⟨⟨?_, ?_, ?_⟩, hro, ?_⟩, hs⟩
  · intro b l' k hb hk hd i v hv
    by_cases e : b = H.length
    · subst e
      have : l' = l := by simp [rupd] at hb; exact hb.symm
      subst this
      have : k = ⟨cs, .ro⟩ := by
        have hk' : (H ++ [⟨cs, .ro⟩])[H.length]? = some k := hk
        rw [gt0] at hk'; simp at hk'; exact hk'.symm
      subst this
      obtain ⟨v', h1, h2⟩ := hc i v hv
      exact ⟨v', h1, h2.mono hs⟩
    · have hb' : ρ b = some l' := by unfold rupd at hb; rwa [if_neg e] at hb
      have hlt : b < H.length := by
        rcases Nat.lt_or_ge b H.length with hh | hh
        · exact hh
        · rw [h.dom b hh] at hb'; cases hb'
      have hk' : H.get b = some k := by
        have : (H ++ [⟨cs, .ro⟩])[b]? = some k := hk
        rwa [List.getElem?_append_left hlt] at this
      obtain ⟨v', h1, h2⟩ := h.hr.cell b l' k hb' hk' hd i v hv
      exact ⟨v', h1, h2.mono hs⟩
  · intro b l' k hb hk ho
    have := hro b k hk
    rw [this] at ho; cases ho
  · intro b b' l1 l2 k k' _ _ _ hk _ ho _ _
    have := hro b k hk
    rw [this] at ho; cases ho
  · intro b hb
    simp at hb
    unfold rupd
    rw [if_neg (by omega)]
    exact h.dom b (by omega)

/-- What came out of a reading: more blocks, and the cells. -/
def Got (P : Program) (W : World) (k : Nat) (ρ : Rho) (H : AH) (t : TypeId) (cs : List Value) : Prop :=
  ∃ (L : AH) (ρ' : Rho) (vs : List Value), Ro ρ' (H ++ L) W ∧ Sub ρ ρ' ∧ VL ρ' vs cs ∧ Rp P (H ++ L) k t vs

theorem got_list {k : Nat} (ih : ∀ t cs ρ H, (∃ (E : Type) (enc : TypeId × Value → E) (sp : Nat → Bool) (x : DataW E × List MemPlace), DataW.trod enc P W 0 sp true k t cs = some x) → (∃ m, simT P m t = true) → Ro ρ H W → Got P W k ρ H t cs) :
    ∀ (js : List (TypeId × List Value)) ρ H, (∀ j ∈ js, (∃ (E : Type) (enc : TypeId × Value → E) (sp : Nat → Bool) (x : DataW E × List MemPlace), DataW.trod enc P W 0 sp true k j.1 j.2 = some x) ∧ ∃ m, simT P m j.1 = true) → Ro ρ H W →
    ∃ (L : AH) (ρ' : Rho) (vss : List (List Value)), Ro ρ' (H ++ L) W ∧ Sub ρ ρ' ∧ vss.length = js.length ∧ ∀ (i : Nat) j vs, js[i]? = some j → vss[i]? = some vs → VL ρ' vs j.2 ∧ Rp P (H ++ L) k j.1 vs
  | [], ρ, H, _, hr => ⟨[], ρ, [], by simpa using hr, Sub.refl ρ, rfl, by simp⟩
  | j :: js, ρ, H, hj, hr => by
    obtain ⟨L1, ρ1, vs1, h1, h2, h3, h4⟩ := ih j.1 j.2 ρ H (hj j (by simp)).1 (hj j (by simp)).2 hr
    obtain ⟨L2, ρ2, vss, g1, g2, g3, g4⟩ := got_list ih js ρ1 (H ++ L1) (fun j' h' => hj j' (by simp [h'])) h1
    refine ⟨L1 ++ L2, ρ2, vs1 :: vss, by rw [← List.append_assoc]; exact g1, h2.trans g2, by simp [g3], ?_⟩
    intro i j' vs hj' hvs
    rw [← List.append_assoc]
    cases i with
    | zero =>
      simp at hj' hvs
      subst hj'; subst hvs
      exact ⟨⟨h3.1, fun i v v' a b => (h3.2 i v v' a b).mono g2⟩, h4.mono⟩
    | succ i => exact g4 i j' vs (by simpa using hj') (by simpa using hvs)

theorem flat_get {s : Nat} : ∀ (vss : List (List Value)), (∀ vs ∈ vss, vs.length = s) → vss.flatten.length = vss.length * s ∧ ∀ i vs, vss[i]? = some vs → (vss.flatten.drop (i * s)).take s = vs
  | [], _ => by simp
  | vs :: vss, h => by
    obtain ⟨h1, h2⟩ := flat_get vss (fun x hx => h x (by simp [hx]))
    have hl := h vs (by simp)
    refine ⟨by simp [h1, hl, Nat.add_mul, Nat.add_comm], fun i x hx => ?_⟩
    cases i with
    | zero =>
      simp at hx
      subst hx
      simp only [List.flatten_cons, Nat.zero_mul, List.drop_zero]
      rw [List.take_append_of_le_length (by omega), List.take_of_length_le (by omega)]
    | succ i =>
      simp only [List.flatten_cons]
      rw [show (i + 1) * s = vs.length + i * s by rw [hl, Nat.add_mul]; omega, List.drop_append, List.drop_of_length_le (by omega)]
      simp only [List.nil_append]
      rw [show vs.length + i * s - vs.length = i * s by omega]
      exact h2 i x (by simpa using hx)

theorem cells?_get {base : Nat} {a : Addr} {n : Nat} {cs : List Value} (h : W.cells? base a n = some cs) : cs.length = n ∧ ∀ (i : Nat) v, cs[i]? = some v → W.cell? (a.add i) = some v := by
  unfold World.cells? at h
  split at h
  case isFalse => cases h
  have key : ∀ (l : List Nat) (r : List Value), l.mapM (fun i => W.cell? (a.add i)) = some r → r.length = l.length ∧ ∀ (i : Nat) v, r[i]? = some v → ∃ j, l[i]? = some j ∧ W.cell? (a.add j) = some v := by
    intro l
    induction l with
    | nil => intro r hr; simp at hr; subst hr; simp
    | cons j l ih =>
      intro r hr
      simp only [List.mapM_cons] at hr
      cases h1 : W.cell? (a.add j) with
      | none => simp [h1] at hr
      | some v1 =>
        cases h2 : l.mapM (fun i => W.cell? (a.add i)) with
        | none => simp [h1, h2] at hr
        | some r2 =>
          simp [h1, h2] at hr
          subst hr
          obtain ⟨g1, g2⟩ := ih r2 h2
          refine ⟨by simp [g1], fun i v hv => ?_⟩
          cases i with
          | zero => simp at hv; subst hv; exact ⟨j, rfl, h1⟩
          | succ i => simpa using g2 i v (by simpa using hv)
  obtain ⟨h1, h2⟩ := key _ _ h
  refine ⟨by simpa using h1, fun i v hv => ?_⟩
  obtain ⟨j, hj, hc⟩ := h2 i v hv
  have : i < n := by
    have := (List.getElem?_eq_some_iff.1 hv).1
    rw [h1] at this; simpa using this
  rw [List.getElem?_range this] at hj
  cases hj
  exact hc

/-- Fields that lie one behind the other. -/
theorem tile_got {ρ : Rho} {H : AH} {k : Nat} : ∀ (fs : List Field) (o : Nat) (cs : List Value) (vss : List (List Value)), tileOk P fs o (o + cs.length) = true → vss.length = fs.length →
    (∀ (i : Nat) (f : Field) vs, fs[i]? = some f → vss[i]? = some vs → VL ρ vs ((cs.drop (f.offset - o)).take (P.cellsOf f.type)) ∧ Rp P H k f.type vs) →
    VL ρ vss.flatten cs ∧ ∀ f ∈ fs, o ≤ f.offset ∧ Rp P H k f.type ((vss.flatten.drop (f.offset - o)).take (P.cellsOf f.type))
  | [], o, cs, vss, ht, hl, _ => by
    simp [tileOk] at ht
    have : cs = [] := by cases cs <;> simp_all
    subst this
    have : vss = [] := by cases vss <;> simp_all
    subst this
    exact ⟨VL.nil, by simp⟩
  | f :: fs, o, cs, [], ht, hl, _ => by simp at hl
  | f :: fs, o, cs, vs :: vss, ht, hl, h => by
    simp only [tileOk, Bool.and_eq_true, beq_iff_eq] at ht
    obtain ⟨ho, ht⟩ := ht
    have hmono : ∀ (fs : List Field) (o n : Nat), tileOk P fs o n = true → o ≤ n ∧ ∀ f ∈ fs, o ≤ f.offset := by
      intro fs
      induction fs with
      | nil => intro o n h; simp [tileOk] at h; exact ⟨by omega, by simp⟩
      | cons f fs ih =>
        intro o n h
        simp only [tileOk, Bool.and_eq_true, beq_iff_eq] at h
        obtain ⟨h1, h2⟩ := ih _ _ h.2
        refine ⟨by omega, fun g hg => ?_⟩
        rcases List.mem_cons.1 hg with rfl | hg
        · omega
        · have := h2 g hg; omega
    obtain ⟨hle, hoff⟩ := hmono _ _ _ ht
    obtain ⟨hv, hrp⟩ := h 0 f vs rfl rfl
    have hs : P.cellsOf f.type ≤ cs.length := by omega
    have e0 : f.offset - o = 0 := by omega
    rw [e0, List.drop_zero] at hv
    have hvl : vs.length = P.cellsOf f.type := by
      rw [hv.1, List.length_take]; omega
    obtain ⟨g1, g2⟩ := tile_got fs (o + P.cellsOf f.type) (cs.drop (P.cellsOf f.type)) vss (by
      rw [List.length_drop, show o + P.cellsOf f.type + (cs.length - P.cellsOf f.type) = o + cs.length by omega]; exact ht) (by simpa using hl) (by
      intro i g vs' hg hvs'
      have := h (i + 1) g vs' (by simpa using hg) (by simpa using hvs')
      have hge := hoff g (List.mem_iff_getElem?.2 ⟨i, hg⟩)
      rw [List.drop_drop, show P.cellsOf f.type + (g.offset - (o + P.cellsOf f.type)) = g.offset - o by omega]
      exact this)
    refine ⟨?_, ?_⟩
    · rw [List.flatten_cons]
      have := hv.append g1
      rwa [List.take_append_drop] at this
    · intro g hg
      rcases List.mem_cons.1 hg with rfl | hg
      · refine ⟨by omega, ?_⟩
        rw [e0, List.drop_zero, List.flatten_cons, List.take_append_of_le_length (by omega), List.take_of_length_le (by omega)]
        exact hrp
      · obtain ⟨q1, q2⟩ := g2 g hg
        refine ⟨by omega, ?_⟩
        rw [List.flatten_cons, show g.offset - o = vs.length + (g.offset - (o + P.cellsOf f.type)) by omega, List.drop_append, List.drop_of_length_le (by omega), List.nil_append, Nat.add_sub_cancel_left]
        exact q2

def Trods (P : Program) (W : World) (k : Nat) (t : TypeId) (cs : List Value) : Prop := ∃ (E : Type) (enc : TypeId × Value → E) (sp : Nat → Bool) (x : DataW E × List MemPlace), DataW.trod enc P W 0 sp true k t cs = some x

theorem got_trod : ∀ (k : Nat) (t : TypeId) (cs : List Value) (ρ : Rho) (H : AH), Trods P W k t cs → (∃ m, simT P m t = true) → Ro ρ H W → Got P W k ρ H t cs := by
  intro k
  induction k with
  | zero => rintro t cs ρ H ⟨E, enc, sp, x, h⟩; simp [DataW.trod] at h
  | succ k ih =>
    rintro t cs ρ H ⟨E, enc, sp, x, h⟩ ⟨m, hm⟩ hr
    have keep : ∀ vs, VL ρ vs cs → Rp P H (k + 1) t vs → Got P W (k + 1) ρ H t cs := fun vs h1 h2 => ⟨[], ρ, vs, by simpa using hr, Sub.refl ρ, h1, by simpa using h2⟩
    cases m with
    | zero => simp [simT] at hm
    | succ m =>
    unfold simT at hm
    split at hm
    · rename_i hu
      obtain ⟨b, rfl, _⟩ := DataW.trod_bool hu h
      exact keep [.bool b] (VL.cons (.bool _) VL.nil) (by simp [Rp, hu])
    · rename_i q hu
      obtain ⟨n, rfl, _, hw⟩ := DataW.trod_int hu h
      exact keep [.int q n] (VL.cons (.int _ _) VL.nil) (by simp [Rp, hu, hw])
    · rename_i hu
      obtain ⟨s, rfl, _, hw⟩ := DataW.trod_string hu h
      exact keep [.string s] (VL.cons (.string _) VL.nil) (by simp [Rp, hu, hw])
    · rename_i e hu
      rcases DataW.trod_slice hu h with ⟨rfl, _⟩ | ⟨a, len, cap, elems, rest, n, hk, rfl, _, hb, hl, hc, hel, hcs, _, _⟩
      · exact keep [.slice none 0 0] (VL.cons .nils VL.nil) (by simp [Rp, hu])
      · have hk' : n = k := by omega
        subst hk'
        have hex : ∀ i, i < len → ∃ c, W.cells? 0 (a.add (i * P.cellsOf e)) (P.cellsOf e) = some c ∧ Trods P W n e c := by
          intro i hi
          have h1 := hcs i hi
          have h2 : elems[i]? = some elems[i] := List.getElem?_eq_getElem (by omega)
          rw [h2, Option.bind_eq_some_iff] at h1
          obtain ⟨c, h3, h4⟩ := h1
          exact ⟨c, h3, E, enc, sp, _, h4⟩
        obtain ⟨L, ρ', vss, g1, g2, g3, g4⟩ := got_list (P := P) (W := W) (k := n) (fun t cs ρ H a b c => ih t cs ρ H a b c) ((List.range len).map fun i => (e, (W.cells? 0 (a.add (i * P.cellsOf e)) (P.cellsOf e)).getD [])) ρ H (by
          intro j hj
          obtain ⟨i, hi, rfl⟩ := List.mem_map.1 hj
          obtain ⟨c, h3, h4⟩ := hex i (by simpa using hi)
          rw [h3]
          exact ⟨h4, m, hm⟩) hr
        have g3' : vss.length = len := by simpa using g3
        have g5 : ∀ i vs, vss[i]? = some vs → i < len ∧ ∃ c, W.cells? 0 (a.add (i * P.cellsOf e)) (P.cellsOf e) = some c ∧ VL ρ' vs c ∧ Rp P (H ++ L) n e vs := by
          intro i vs hvs
          have hi : i < len := by rw [← g3']; exact (List.getElem?_eq_some_iff.1 hvs).1
          obtain ⟨c, h3, _⟩ := hex i hi
          have := g4 i _ vs (by simp [hi]; rfl) hvs
          simp only [h3, Option.getD_some] at this
          exact ⟨hi, c, h3, this⟩
        have hlen : ∀ vs ∈ vss, vs.length = P.cellsOf e := by
          intro vs hvs
          obtain ⟨i, hi⟩ := List.mem_iff_getElem?.1 hvs
          obtain ⟨_, c, h3, h4, _⟩ := g5 i vs hi
          rw [h4.1, (cells?_get h3).1]
        obtain ⟨f1, f2⟩ := flat_get vss hlen
        have hcell : ∀ (i : Nat) v, vss.flatten[i]? = some v → ∃ v', W.cell? (a.add i) = some v' ∧ VR ρ' v v' := by
          intro i v hv
          have hi : i < len * P.cellsOf e := by rw [← g3', ← f1]; exact (List.getElem?_eq_some_iff.1 hv).1
          have hs : 0 < P.cellsOf e := by
            rcases Nat.eq_zero_or_pos (P.cellsOf e) with h0 | h0
            · rw [h0, Nat.mul_zero] at hi; omega
            · exact h0
          have hq : i / P.cellsOf e < len := Nat.div_lt_of_lt_mul (by rw [Nat.mul_comm]; exact hi)
          have hvs : vss[i / P.cellsOf e]? = some (vss[i / P.cellsOf e]'(by omega)) := List.getElem?_eq_getElem (by omega)
          obtain ⟨_, c, h3, h4, _⟩ := g5 _ _ hvs
          have h6 := f2 _ _ hvs
          have hmod : i % P.cellsOf e < P.cellsOf e := Nat.mod_lt _ hs
          have hdm : i / P.cellsOf e * P.cellsOf e + i % P.cellsOf e = i := Nat.div_add_mod' ..
          have h7 : (vss[i / P.cellsOf e]'(by omega))[i % P.cellsOf e]? = some v := by
            rw [← h6, List.getElem?_take_of_lt hmod, List.getElem?_drop, hdm]; exact hv
          obtain ⟨v', h8, h9⟩ := h4.get h7
          have h10 := (cells?_get h3).2 _ _ h8
          rw [add_add, hdm] at h10
          exact ⟨v', h10, h9⟩
        obtain ⟨q1, q2⟩ := g1.add (cs := vss.flatten) (l := ⟨a, cap * P.cellsOf e⟩) hcell
        refine ⟨L ++ [⟨vss.flatten, .ro⟩], rupd ρ' (H ++ L).length ⟨a, cap * P.cellsOf e⟩, [.slice (some ⟨(H ++ L).length, 0, none⟩) len (P.cellsOf e)], ?_, g2.trans q2, ?_, ?_⟩
        · rw [← List.append_assoc]; exact q1
        · refine VL.cons (.sl hl (l := ⟨a, cap * P.cellsOf e⟩) (by simp [rupd]) ?_) VL.nil
          exact .inr ⟨by rw [add_zero], by simp⟩
        · rw [← List.append_assoc]
          simp only [Rp, hu]
          refine .inr ⟨_, len, vss.flatten, rfl, by rw [gt0]; rfl, by rw [f1, g3'], by omega, ?_⟩
          intro i hi
          have hvs : vss[i]? = some (vss[i]'(by omega)) := List.getElem?_eq_getElem (by omega)
          rw [f2 _ _ hvs]
          obtain ⟨_, c, _, _, h5⟩ := g5 _ _ hvs
          exact h5.mono
    · rename_i e hu
      rcases DataW.trod_pointer hu h with ⟨rfl, _⟩ | ⟨a, cs', y, n, hk, rfl, _, hcs, hy⟩
      · exact keep [.pointer none] (VL.cons .nilp VL.nil) (by simp [Rp, hu])
      · have hk' : n = k := by omega
        subst hk'
        obtain ⟨L, ρ', vs, g1, g2, g3, g4⟩ := ih e cs' ρ H ⟨E, enc, sp, y, hy⟩ ⟨m, hm⟩ hr
        have hcell : ∀ (i : Nat) v, vs[i]? = some v → ∃ v', W.cell? (a.add i) = some v' ∧ VR ρ' v v' := by
          intro i v hv
          obtain ⟨v', h1, h2⟩ := g3.get hv
          exact ⟨v', (cells?_get hcs).2 _ _ h1, h2⟩
        obtain ⟨q1, q2⟩ := g1.add (cs := vs) (l := ⟨a, P.cellsOf e⟩) hcell
        refine ⟨L ++ [⟨vs, .ro⟩], rupd ρ' (H ++ L).length ⟨a, P.cellsOf e⟩, [.pointer (some ⟨(H ++ L).length, 0, none⟩)], ?_, g2.trans q2, ?_, ?_⟩
        · rw [← List.append_assoc]; exact q1
        · have : VR (rupd ρ' (H ++ L).length ⟨a, P.cellsOf e⟩) (.pointer (some ⟨(H ++ L).length, 0, none⟩)) (.pointer (some (a.add 0))) := .ptr (l := ⟨a, P.cellsOf e⟩) (by simp [rupd])
          rw [add_zero] at this
          exact VL.cons this VL.nil
        · rw [← List.append_assoc]
          simp only [Rp, hu]
          exact .inr ⟨_, vs, rfl, by rw [gt0]; rfl, by rw [g3.1, (cells?_get hcs).1], g4.mono⟩
    · rename_i fs hu
      simp only [Bool.and_eq_true] at hm
      obtain ⟨xs, n, hk, _, hl, hxl, hfs⟩ := DataW.trod_struct hu h
      have hk' : n = k := by omega
      subst hk'
      obtain ⟨L, ρ', vss, g1, g2, g3, g4⟩ := got_list (P := P) (W := W) (k := n) (fun t cs ρ H a b c => ih t cs ρ H a b c) (fs.toList.map fun f => (f.type, (cs.drop f.offset).take (P.cellsOf f.type))) ρ H (by
        intro j hj
        obtain ⟨f, hf, rfl⟩ := List.mem_map.1 hj
        obtain ⟨i, hi⟩ := List.mem_iff_getElem?.1 hf
        have hi' : i < fs.size := by have := (List.getElem?_eq_some_iff.1 hi).1; simpa using this
        have := hfs i f (by simpa using hi)
        rw [List.getElem?_eq_getElem (by omega)] at this
        exact ⟨⟨E, enc, sp, _, this⟩, m, (List.all_eq_true.1 hm.2) f hf⟩) hr
      obtain ⟨t1, t2⟩ := tile_got (P := P) (ρ := ρ') (H := H ++ L) (k := n) fs.toList 0 cs vss (by rw [Nat.zero_add, hl]; exact hm.1) (by simpa using g3) (by
        intro i f vs hf hvs
        exact g4 i (f.type, (cs.drop f.offset).take (P.cellsOf f.type)) vs (by simp [hf]) hvs)
      refine ⟨L, ρ', vss.flatten, g1, g2, t1, ?_⟩
      simp only [Rp, hu]
      exact ⟨by rw [t1.1, hl], fun f hf => (t2 f hf).2⟩
    · cases hm
end
end Go.Proofs.Ytdagncfnkenbfaa.AM
/- The abstract machine: a law's row, out of the abstract call. -/
namespace Go.Proofs.Ytdagncfnkenbfaa.AM
open Go Go.ChangeShapes Go.WideShapes Go.ChangeAt Go.RowKit

section
variable {P : Program} {W : World}

/-- The value whose cells these are. -/
def mkV (P : Program) (t : TypeId) (vs : List Value) : Value := match P.underlying t with | some (.struct _) => .agg vs.toArray | _ => vs.headD undef
def RpV (P : Program) (H : AH) (t : TypeId) (v : Value) : Prop := ∃ k vs, Rp P H k t vs ∧ v = mkV P t vs
def RpA (P : Program) (H : AH) : List TypeId → List Value → Prop
  | [], [] => True
  | t :: ts, v :: vs => RpV P H t v ∧ RpA P H ts vs
  | _, _ => False

theorem RpV.mono {H L : AH} {t : TypeId} {v : Value} (h : RpV P H t v) : RpV P (H ++ L) t v := by
  obtain ⟨k, vs, h1, h2⟩ := h
  exact ⟨k, vs, h1.mono, h2⟩

theorem open_arg {E : Type} {enc : TypeId × Value → E} {sp : Nat → Bool} {m : Nat} {t : TypeId} {v : Value} {d : DataW E} {p : List MemPlace} {ρ : Rho} {H : AH} {b0 : Nat} {r : Reach}
    (hval : Value.okWide P W r b0 t v) (h : DataW.Trod enc P W 0 sp true t v d p) (hs : simT P m t = true) (hr : Ro ρ H W) :
    ∃ (L : AH) (ρ' : Rho) (v' : Value), Ro ρ' (H ++ L) W ∧ Sub ρ ρ' ∧ VR ρ' v' v ∧ RpV P (H ++ L) t v' := by
  obtain ⟨k, hk⟩ := h
  obtain ⟨L, ρ', vs, h1, h2, h3, h4⟩ := got_trod k t v.cells.toList ρ H ⟨E, enc, sp, _, hk⟩ ⟨m, hs⟩ hr
  refine ⟨L, ρ', mkV P t vs, h1, h2, ?_, k, vs, h4, rfl⟩
  have one : (∃ x, v.cells = #[x] ∧ v = x) → VR ρ' (vs.headD undef) v := by
    rintro ⟨x, hx, rfl⟩
    rw [hx] at h3
    have hl : vs.length = 1 := by simpa using h3.1
    obtain ⟨y, rfl⟩ := List.length_eq_one_iff.1 hl
    exact h3.2 0 y v rfl rfl
  cases m with
  | zero => simp [simT] at hs
  | succ m =>
  unfold mkV
  unfold simT at hs
  split at hs
  · rename_i hu
    obtain ⟨b, rfl⟩ := okWide_bool hu hval
    rw [hu]; exact one ⟨_, rfl, rfl⟩
  · rename_i q hu
    obtain ⟨b, rfl⟩ := okWide_int hu hval
    rw [hu]; exact one ⟨_, rfl, rfl⟩
  · rename_i hu
    obtain ⟨b, rfl⟩ := okWide_string hu hval
    rw [hu]; exact one ⟨_, rfl, rfl⟩
  · rename_i e hu
    obtain ⟨a, l, c, rfl⟩ := okWide_slice hu hval
    rw [hu]; exact one ⟨_, rfl, rfl⟩
  · rename_i e hu
    obtain ⟨a, rfl⟩ := okWide_pointer hu hval
    rw [hu]; exact one ⟨_, rfl, rfl⟩
  · rename_i fs hu
    obtain ⟨cs, rfl, _⟩ := okWide_struct hu hval
    rw [hu]
    simp only [Value.cells] at h3
    exact .agg (by simpa using h3.1) (fun i a b => h3.2 i _ _ (by simp) (by simp))
  · cases hs

theorem open_args {E : Type} {enc : TypeId × Value → E} {sp : Nat → Bool} {m : Nat} : ∀ (ts : List TypeId) (args : List Value) (ds : List (DataW E)) (p : List MemPlace) (ρ : Rho) (H : AH),
    (∀ (j : Nat) t v, ts[j]? = some t → args[j]? = some v → ∃ r b0, Value.okWide P W r b0 t v) → DataW.TrodAll enc P W 0 sp true ts args ds p → ts.all (simT P m) = true → Ro ρ H W →
    ∃ (L : AH) (ρ' : Rho) (vs : List Value), Ro ρ' (H ++ L) W ∧ Sub ρ ρ' ∧ VL ρ' vs args ∧ RpA P (H ++ L) ts vs
  | [], args, ds, p, ρ, H, _, h, _, hr => by
    obtain ⟨rfl, rfl, rfl⟩ := trodAll_nil h
    exact ⟨[], ρ, [], by simpa using hr, Sub.refl ρ, VL.nil, trivial⟩
  | t :: ts, args, ds, p, ρ, H, hval, h, hs, hr => by
    obtain ⟨v, vs', d, ds', p1, q, rfl, rfl, rfl, h1, h2⟩ := trodAll_cons h
    simp only [List.all_cons, Bool.and_eq_true] at hs
    obtain ⟨r, b0, hv⟩ := hval 0 t v rfl rfl
    obtain ⟨L1, ρ1, v1, g1, g2, g3, g4⟩ := open_arg hv h1 hs.1 hr
    obtain ⟨L2, ρ2, vs2, q1, q2, q3, q4⟩ := open_args ts vs' ds' q ρ1 (H ++ L1) (fun j t v a b => hval (j + 1) t v (by simpa using a) (by simpa using b)) h2 hs.2 g1
    refine ⟨L1 ++ L2, ρ2, v1 :: vs2, by rw [← List.append_assoc]; exact q1, g2.trans q2, VL.cons (g3.mono q2) q3, ?_⟩
    rw [← List.append_assoc]
    exact ⟨g4.mono, q4⟩

theorem back_args {E : Type} {enc : TypeId × Value → E} {W' : World} (hl : laidOutB P = true) (hb : Below W.heap.size W W') : ∀ (ts : List TypeId) (args : List Value) (ds : List (DataW E)) (p : List MemPlace),
    DataW.TrodAll enc P W 0 (fun _ => true) true ts args ds p → (ts.all fun t => P.readableRec t && decide (t < P.types.size)) = true → DataW.TrodAll enc P W' 0 (fun b => decide (b < W.heap.size)) true ts args ds p
  | [], args, ds, p, h, _ => by
    obtain ⟨rfl, rfl, rfl⟩ := trodAll_nil h
    exact rfl
  | t :: ts, args, ds, p, h, hs => by
    obtain ⟨v, vs', d, ds', p1, q, rfl, rfl, rfl, h1, h2⟩ := trodAll_cons h
    simp only [List.all_cons, Bool.and_eq_true, decide_eq_true_eq] at hs
    exact ⟨p1, q, Below.trod hl hs.1.1 hs.1.2 h1 hb (by obtain ⟨k, hk⟩ := h1; exact DataW.trod_lt k _ _ _ hk), back_args hl hb ts vs' ds' q h2 hs.2, rfl⟩

/-- What is shown of a law in the abstract machine. -/
def LawA (P : Program) (f : FuncId) (ts : List TypeId) : Prop :=
  ∀ (H : AH) (vs : List Value), (∀ (b : Nat) (k : Blk), H[b]? = some k → k.st = .ro) → RpA P H ts vs → CallsA P f vs.toArray H fun r _ => r = .bool true

theorem law_walk (hm : P.follows .mixedOrders = true) (hl : laidOutB P = true) {m : Nat} {f : FuncId} {ts : List TypeId} (hs : ts.all (simT P m) = true) (ht : (ts.all fun t => P.readableRec t && decide (t < P.types.size)) = true) (hc : LawA P f ts)
    {E : Type} {enc : TypeId × Value → E} {args : Array Value} {ds : List (DataW E)} {p : List MemPlace} {base : Nat}
    (hval : ∀ (j : Nat) t v, ts[j]? = some t → args[j]? = some v → Value.okWide P W .any base t v) (hA : DataW.TrodAll enc P W 0 (fun _ => true) true ts args.toList ds p) :
    Calls P f args W fun e W' => e = .returned (.bool true) ∧ Below W.heap.size W W' ∧ DataW.TrodAll enc P W' 0 (fun b => decide (b < W.heap.size)) true ts args.toList ds p := by
  have h0 : Ro (fun _ => none) ([] : AH) W := by
    refine ⟨⟨?_, ?_, ?_⟩, ?_, fun _ _ => rfl⟩
    · intro b l k h
      cases h
    · intro b l k h
      cases h
    · intro b b' l l' k k' _ h
      cases h
    · intro b k h
      simp at h
  obtain ⟨L, ρ, vs, h1, h2, h3, h4⟩ := open_args ts args.toList ds p _ [] (fun j t v a b => ⟨_, _, hval j t v a (by simpa using b)⟩) hA hs h0
  rw [List.nil_append] at h1 h4
  obtain ⟨k, r, H', h5, rfl⟩ := hc L vs h1.ro h4
  have hcs := (call_sound hm k f vs.toArray L _ H' h5).2 ρ W args (by simpa using h3) h1.hr (fun b hb _ => h1.dom b hb)
  refine hcs.2.mono ?_
  rintro e W' ⟨r', ρ', rfl, hr, _, hst⟩
  cases hr
  have hb : Below W.heap.size W W' := ⟨hst.os, hst.tape, hst.output, hst.size, fun g hg => hst.frame g hg fun b l k' hb hk ho => by
    have := h1.ro b k' hk
    rw [this] at ho; cases ho⟩
  exact ⟨rfl, hb, back_args hl hb ts args.toList ds p hA ht⟩
end
end Go.Proofs.Ytdagncfnkenbfaa.AM
