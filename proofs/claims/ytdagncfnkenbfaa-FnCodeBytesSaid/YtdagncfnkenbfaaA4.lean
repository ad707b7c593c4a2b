/- The abstract machine: regions that draw their order, and code, each sound. -/
import Derived.Test.YtdagncfnkenbfaaA3
import Derived.Deep.LoopGhost
set_option linter.unusedVariables false
set_option linter.unusedSimpArgs false
set_option linter.defProp false
/- The abstract machine, fifteenth part: regions that draw their order: whatever the order, it comes to what the text's order comes to. -/
namespace Go.Proofs.Ytdagncfnkenbfaa.AM
open Go

theorem aOp_quiet {P : Program} {call : CallF} {ev : Operand → Value} {o : Op} {H H' : AH} {v : Value} (he : isE o = false) (ha : isA o = false) (h : aOp P call ev o H = some (v, H')) :
    H' = H ∧ ((rdArg o = none ∧ aPure P ev o = some v) ∨ ∃ x, rdArg o = some x ∧ aRead P o (ev x) H.get = some v) := by
  cases o with
  | store t a v => simp [isE] at he
  | alloc t => simp [isA] at ha
  | box t x => simp [isA] at ha
  | buildSlice t n ps => simp [isA] at ha
  | makeSlice t l c => simp [isA] at ha
  | load t x =>
    simp only [aOp, Option.map_eq_some_iff, Prod.mk.injEq] at h
    obtain ⟨_, h1, rfl, rfl⟩ := h
    exact ⟨rfl, .inr ⟨x, rfl, h1⟩⟩
  | convert s d x =>
    simp only [aOp, Option.map_eq_some_iff, Prod.mk.injEq] at h
    obtain ⟨_, h1, rfl, rfl⟩ := h
    exact ⟨rfl, .inr ⟨x, rfl, h1⟩⟩
  | call c =>
    obtain ⟨callee, xs, ts⟩ := c
    cases callee with
    | builtin b =>
      cases b with
      | append => simp [isE] at he
      | _ =>
        simp only [aOp, Option.map_eq_some_iff, Prod.mk.injEq] at h
        obtain ⟨_, h1, rfl, rfl⟩ := h
        exact ⟨rfl, .inl ⟨rfl, h1⟩⟩
    | value f => simp [isE] at he
    | invoke r m =>
      simp only [aOp, Option.map_eq_some_iff, Prod.mk.injEq] at h
      obtain ⟨_, h1, rfl, rfl⟩ := h
      exact ⟨rfl, .inl ⟨rfl, h1⟩⟩
  | _ =>
    simp only [aOp, Option.map_eq_some_iff, Prod.mk.injEq] at h
    obtain ⟨_, h1, rfl, rfl⟩ := h
    exact ⟨rfl, .inl ⟨rfl, h1⟩⟩

theorem aOp_make {P : Program} {call : CallF} {ev : Operand → Value} {o : Op} {H H' : AH} {v : Value} (ha : isA o = true) (h : aOp P call ev o H = some (v, H')) :
    ∃ cs inf, aMake P ev o = some (cs, inf) ∧ v = mkv inf H.length ∧ H' = H ++ [⟨cs, .own⟩] := by
  cases o with
  | alloc t =>
    simp only [aOp, Option.map_eq_some_iff, Prod.mk.injEq] at h
    obtain ⟨⟨cs, inf⟩, h1, rfl, rfl⟩ := h
    exact ⟨cs, inf, h1, rfl, rfl⟩
  | box t x =>
    simp only [aOp, Option.map_eq_some_iff, Prod.mk.injEq] at h
    obtain ⟨⟨cs, inf⟩, h1, rfl, rfl⟩ := h
    exact ⟨cs, inf, h1, rfl, rfl⟩
  | buildSlice t n ps =>
    simp only [aOp, Option.map_eq_some_iff, Prod.mk.injEq] at h
    obtain ⟨⟨cs, inf⟩, h1, rfl, rfl⟩ := h
    exact ⟨cs, inf, h1, rfl, rfl⟩
  | makeSlice t l c =>
    simp only [aOp, Option.map_eq_some_iff, Prod.mk.injEq] at h
    obtain ⟨⟨cs, inf⟩, h1, rfl, rfl⟩ := h
    exact ⟨cs, inf, h1, rfl, rfl⟩
  | _ => simp [isA] at ha

def GD (H : Nat → AH) (n p : Nat) : Hp := fun b => if b < (H p).length then (H p)[b]? else iniU H n b

structure Inv (P : Program) (ops : Array Oper) (N : Nat) (T : Nat → Tm) (H : Nat → AH) (HF : AH) (ρ0 : Rho) (w0 : World) (a0 : Act) (D : Nat → Bool) (p : Nat) (ρ : Rho) (a : Act) (w : World) : Prop where
  ple : p ≤ ops.size
  bnd : Bnd ops p
  eff : ∀ (e : Nat) o, ops[e]? = some o → isE o.op = true → (D e = true ↔ e < p)
  down : ∀ k i, D k = true → befB (Region.before ops) i k = true → D i = true
  tr : TR ρ (val ops T D) a N
  dfr : a.defers = a0.defers
  hr : HR ρ (GD H ops.size p) w
  m2 : ∀ b l, (H 0).length ≤ b → b < HF.length → ρ b = some l → b < (H p).length ∨ ∃ j, D j = true ∧ isAl ops T j ∧ b = (H j).length
  m3 : ∀ j, isAl ops T j → D j = false → ρ (H j).length = none
  un : ∀ j, isAl ops T j → D j = false → j < p → (H p)[(H j).length]? = (H (j + 1))[(H j).length]?
  stp : Stp (H 0).length HF.length ρ0 (H 0).get w0 ρ (GD H ops.size p) w

section
variable {P : Program} {call : CallF} {ops : Array Oper} {tm0 tmF : Tm} {H0 HF : AH} {T : Nat → Tm} {H : Nat → AH} {N : Nat} {ρ0 : Rho} {w0 : World} {a0 : Act}

theorem Trace.GD_at (hc : CallSound P call) (tr : Trace P call ops tm0 H0 tmF HF T H) {p j : Nat} (hpj : p ≤ j) (hj : j ≤ ops.size) (hno : ∀ i o, p ≤ i → i < j → ops[i]? = some o → isE o.op = false) :
    ∀ b, b < (H j).length → GD H ops.size p b = (H j)[b]? := by
  intro b hb
  unfold GD
  by_cases h : b < (H p).length
  · rw [if_pos h]
    exact (tr.flat hc hpj hj hno b h).symm
  · rw [if_neg h]
    -- the operation that made it
    have hex : ∃ i, p ≤ i ∧ i < j ∧ (H i).length ≤ b ∧ b < (H (i + 1)).length := by
      have : ∀ q, p ≤ q → b < (H q).length → ∃ i, p ≤ i ∧ i < q ∧ (H i).length ≤ b ∧ b < (H (i + 1)).length := by
        intro q
        induction q with
        | zero => intro h1 h2; have : p = 0 := by omega
                  subst this; exact absurd h2 h
        | succ q ih =>
          intro h1 h2
          by_cases e : p = q + 1
          · subst e; exact absurd h2 h
          · by_cases h3 : b < (H q).length
            · obtain ⟨i, a1, a2, a3⟩ := ih (by omega) h3
              exact ⟨i, a1, by omega, a3⟩
            · exact ⟨q, by omega, by omega, by omega, h2⟩
      exact this j hpj hb
    obtain ⟨i, h1, h2, h3, h4⟩ := hex
    rw [tr.ini hc (by omega) h3 h4]
    exact (tr.flat hc (p := i + 1) (q := j) (by omega) hj (fun k o a1 a2 => hno k o (by omega) a2) b h4).symm

theorem Trace.GD_move (hc : CallSound P call) (tr : Trace P call ops tm0 H0 tmF HF T H) {p j : Nat} (hpj : p ≤ j) (hj : j ≤ ops.size) (hno : ∀ i o, p ≤ i → i < j → ops[i]? = some o → isE o.op = false) :
    GD H ops.size j = GD H ops.size p := by
  funext b
  by_cases h : b < (H j).length
  · rw [tr.GD_at hc hpj hj hno b h]
    unfold GD
    rw [if_pos h]
  · have := tr.len_le hc hpj hj
    unfold GD
    rw [if_neg h, if_neg (by omega)]

theorem Trace.al (tr : Trace P call ops tm0 H0 tmF HF T H) {j : Nat} (h : isAl ops T j) : j < ops.size ∧ ∃ cs, H (j + 1) = H j ++ [⟨cs, .own⟩] := by
  obtain ⟨o, h1, h2, h3⟩ := h
  refine ⟨size_of_get h1, ?_⟩
  have he : isE o.op = false := by
    cases ho : o.op <;> rw [ho] at h2 <;> simp [isA] at h2 <;> rfl
  rcases tr.quiet h1 he with ⟨_, _, cs, inf, _, e, _⟩ | ⟨h4 | h4, _⟩
  · exact ⟨cs, e⟩
  · rw [h4] at h2; cases h2
  · rw [h4] at h3; cases h3


set_option linter.unusedSectionVars false
variable (hc : CallSound P call) (tr : Trace P call ops tm0 H0 tmF HF T H) (hd : DrawOk ops)
include hc tr hd

/-- The next effect may be seen as standing right behind what is done. -/
theorem Inv.noE {D : Nat → Bool} {p : Nat} {ρ : Rho} {a : Act} {w : World} (I : Inv P ops N T H HF ρ0 w0 a0 D p ρ a w) {j : Nat} {o : Oper} (ho : ops[j]? = some o) (he : isE o.op = true) (hj : D j = false)
    (hpre : ∀ i, befB (Region.before ops) i j = true → D i = true) : p ≤ j ∧ ∀ i oi, p ≤ i → i < j → ops[i]? = some oi → isE oi.op = false := by
  have h1 : p ≤ j := by
    rcases Nat.lt_or_ge j p with h | h
    · rw [(I.eff j o ho he).2 h] at hj; cases hj
    · exact h
  refine ⟨h1, fun i oi a1 a2 hoi => ?_⟩
  cases hh : isE oi.op with
  | false => rfl
  | true =>
    have := hpre i (hd.chain i j oi o a2 hoi ho hh he)
    have := (I.eff i oi hoi hh).1 this
    omega

theorem Inv.down' {D D' : Nat → Bool} {p : Nat} {ρ : Rho} {a : Act} {w : World} (I : Inv P ops N T H HF ρ0 w0 a0 D p ρ a w) {j : Nat}
    (hpre : ∀ i, befB (Region.before ops) i j = true → D i = true) (hD' : ∀ i, D' i = if i = j then true else D i) : ∀ k i, D' k = true → befB (Region.before ops) i k = true → D' i = true := by
  intro k i hk hb
  rw [hD'] at hk ⊢
  by_cases e : i = j
  · rw [if_pos e]
  · rw [if_neg e]
    by_cases e2 : k = j
    · subst e2; exact hpre i hb
    · rw [if_neg e2] at hk; exact I.down k i hk hb

/-- No effect, no new memory. -/
theorem Inv.quiet {D D' : Nat → Bool} {p : Nat} {ρ : Rho} {a a' : Act} {w : World} (I : Inv P ops N T H HF ρ0 w0 a0 D p ρ a w) {j : Nat} {o : Oper} (ho : ops[j]? = some o) (he : isE o.op = false) (hal : ¬ isAl ops T j)
    (hpre : ∀ i, befB (Region.before ops) i j = true → D i = true) (hD' : ∀ i, D' i = if i = j then true else D i) (htr : TR ρ (val ops T D') a' N) (hdf : a'.defers = a.defers) : Inv P ops N T H HF ρ0 w0 a0 D' p ρ a' w := by
  have hDD : ∀ i, D i = true → D' i = true := fun i h => by rw [hD']; split <;> simp [h]
  have hDf : ∀ i, D' i = false → D i = false := fun i h => by
    cases hh : D i with
    | false => rfl
    | true => rw [hDD i hh] at h; cases h
  refine ⟨I.ple, I.bnd, ?_, I.down' hc tr hd hpre hD', htr, hdf.trans I.dfr, I.hr, ?_, fun i hi h => I.m3 i hi (hDf i h), fun i hi h => I.un i hi (hDf i h), I.stp⟩
  · intro e oe hoe hE
    rw [hD']
    by_cases ee : e = j
    · subst ee; rw [ho] at hoe; cases hoe; rw [he] at hE; cases hE
    · rw [if_neg ee]; exact I.eff e oe hoe hE
  · intro b l h1 h2 h3
    rcases I.m2 b l h1 h2 h3 with h | ⟨i, a1, a2, a3⟩
    · exact .inl h
    · exact .inr ⟨i, hDD i a1, a2, a3⟩

/-- An effect that is left out by its guard. -/
theorem Inv.skipE {D D' : Nat → Bool} {p : Nat} {ρ : Rho} {a a' : Act} {w : World} (I : Inv P ops N T H HF ρ0 w0 a0 D p ρ a w) {j : Nat} {o : Oper} (ho : ops[j]? = some o) (he : isE o.op = true) (hj : D j = false) (hH : H (j + 1) = H j)
    (hpre : ∀ i, befB (Region.before ops) i j = true → D i = true) (hD' : ∀ i, D' i = if i = j then true else D i) (htr : TR ρ (val ops T D') a' N) (hdf : a'.defers = a.defers) : Inv P ops N T H HF ρ0 w0 a0 D' (j + 1) ρ a' w := by
  have hjn := size_of_get ho
  obtain ⟨hpj, hno⟩ := I.noE hc tr hd ho he hj hpre
  have hDD : ∀ i, D i = true → D' i = true := fun i h => by rw [hD']; split <;> simp [h]
  have hDf : ∀ i, D' i = false → D i = false ∧ i ≠ j := fun i h => by
    refine ⟨?_, ?_⟩
    · cases hh : D i with
      | false => rfl
      | true => rw [hDD i hh] at h; cases h
    · rintro rfl; rw [hD', if_pos rfl] at h; cases h
  have hG : GD H ops.size (j + 1) = GD H ops.size p := by
    rw [← tr.GD_move hc hpj (by omega) hno]
    funext b; simp only [GD, hH]
  have hle := tr.len_le hc hpj (by omega)
  refine ⟨by omega, .inr ⟨j, o, rfl, ho, he⟩, ?_, I.down' hc tr hd hpre hD', htr, hdf.trans I.dfr, by rw [hG]; exact I.hr, ?_, fun i hi h => I.m3 i hi (hDf i h).1, ?_, by rw [hG]; exact I.stp⟩
  · intro e oe hoe hE
    rw [hD']
    by_cases ee : e = j
    · subst ee; simp
    · rw [if_neg ee, I.eff e oe hoe hE]
      constructor
      · intro h; omega
      · intro h
        rcases Nat.lt_or_ge e p with h1 | h1
        · exact h1
        · have := hno e oe h1 (by omega) hoe
          rw [this] at hE; cases hE
  · intro b l h1 h2 h3
    rcases I.m2 b l h1 h2 h3 with h | ⟨i, a1, a2, a3⟩
    · exact .inl (by rw [hH]; omega)
    · exact .inr ⟨i, hDD i a1, a2, a3⟩
  · intro i hi h hlt
    obtain ⟨hDi, hne⟩ := hDf i h
    rw [hH]
    obtain ⟨hin, cs, hcs⟩ := tr.al hi
    by_cases hip : i < p
    · rw [← I.un i hi hDi hip]
      refine tr.flat hc hpj (by omega) hno _ ?_
      have := tr.len_le hc (i := i + 1) (j := p) (by omega) I.ple
      rw [hcs] at this
      simp at this
      omega
    · refine tr.flat hc (p := i + 1) (q := j) (by omega) (by omega) (fun k ok b1 b2 => hno k ok (by omega) b2) _ ?_
      rw [hcs]; simp

/-- New memory. -/
theorem Inv.make {D D' : Nat → Bool} {p : Nat} {ρ : Rho} {a a' : Act} {w : World} (I : Inv P ops N T H HF ρ0 w0 a0 D p ρ a w) {j : Nat} {o : Oper} (ho : ops[j]? = some o) (he : isE o.op = false) (hj : D j = false) (hal : isAl ops T j)
    {cs : List Value} {cs' : Array Value} {t : TypeId} (hcs : H (j + 1) = H j ++ [⟨cs, .own⟩]) (hvl : VL ρ cs cs'.toList)
    (hpre : ∀ i, befB (Region.before ops) i j = true → D i = true) (hD' : ∀ i, D' i = if i = j then true else D i) (htr : TR (rupd ρ (H j).length ⟨⟨w.heap.size, 0, none⟩, cs.length⟩) (val ops T D') a' N) (hdf : a'.defers = a.defers) :
    Inv P ops N T H HF ρ0 w0 a0 D' p (rupd ρ (H j).length ⟨⟨w.heap.size, 0, none⟩, cs.length⟩) a' (w.alloc (.cells cs' t)) := by
  have hjn := size_of_get ho
  have hDD : ∀ i, D i = true → D' i = true := fun i h => by rw [hD']; split <;> simp [h]
  have hDf : ∀ i, D' i = false → D i = false ∧ i ≠ j := fun i h => by
    refine ⟨?_, ?_⟩
    · cases hh : D i with
      | false => rfl
      | true => rw [hDD i hh] at h; cases h
    · rintro rfl; rw [hD', if_pos rfl] at h; cases h
  have hnone := I.m3 j hal hj
  have hlen1 : (H (j + 1)).length = (H j).length + 1 := by rw [hcs]; simp
  have hblk : (H (j + 1))[(H j).length]? = some ⟨cs, .own⟩ := by rw [hcs]; simp
  have hGb : GD H ops.size p (H j).length = some ⟨cs, .own⟩ := by
    unfold GD
    by_cases h : (H j).length < (H p).length
    · rw [if_pos h]
      have hjp : j < p := by
        rcases Nat.lt_or_ge j p with h1 | h1
        · exact h1
        · have := tr.len_le hc h1 (by omega); omega
      rw [I.un j hal hj hjp, hblk]
    · rw [if_neg h, tr.ini hc hjn (Nat.le_refl _) (by omega), hblk]
  have hGu : gupd (GD H ops.size p) (H j).length ⟨cs, .own⟩ = GD H ops.size p := by
    funext b
    by_cases e : b = (H j).length
    · subst e; rw [gupd_same, hGb]
    · rw [gupd_ne _ e]
  have hHR := I.hr.alloc (b := (H j).length) (t := t) hvl hnone
  rw [hGu] at hHR
  have h0j := tr.len_le hc (i := 0) (j := j) (by omega) (by omega)
  have hjF := tr.len_le hc (i := j + 1) (j := ops.size) (by omega) (Nat.le_refl _)
  rw [tr.hn] at hjF
  have hidne : ∀ i, isAl ops T i → i ≠ j → (H i).length ≠ (H j).length := by
    intro i hi hne
    obtain ⟨hin, c2, hc2⟩ := tr.al hi
    rcases Nat.lt_or_gt_of_ne hne with h | h
    · have := tr.len_le hc (i := i + 1) (j := j) (by omega) (by omega)
      rw [hc2] at this; simp at this; omega
    · have := tr.len_le hc (i := j + 1) (j := i) (by omega) (by omega)
      omega
  refine ⟨I.ple, I.bnd, ?_, I.down' hc tr hd hpre hD', htr, hdf.trans I.dfr, hHR, ?_, ?_, ?_, ?_⟩
  · intro e oe hoe hE
    rw [hD']
    by_cases ee : e = j
    · subst ee; rw [ho] at hoe; cases hoe; rw [he] at hE; cases hE
    · rw [if_neg ee]; exact I.eff e oe hoe hE
  · intro b l h1 h2 h3
    by_cases e : b = (H j).length
    · exact .inr ⟨j, by simp [hD'], hal, e⟩
    · rw [rupd_ne _ e] at h3
      rcases I.m2 b l h1 h2 h3 with h | ⟨i, a1, a2, a3⟩
      · exact .inl h
      · exact .inr ⟨i, hDD i a1, a2, a3⟩
  · intro i hi h
    rw [rupd_ne _ (hidne i hi (hDf i h).2)]
    exact I.m3 i hi (hDf i h).1
  · intro i hi h
    exact I.un i hi (hDf i h).1
  · have S := I.stp
    refine ⟨S.le, ?_, ?_, S.old, ?_, ?_, ?_, S.os, S.tape, S.output⟩
    · intro b hb
      rw [rupd_ne _ (by omega)]
      exact S.ext b hb
    · exact S.keep
    · intro b l h1 h2 h3
      by_cases e : b = (H j).length
      · subst e
        rw [rupd_same] at h3
        cases h3
        exact .inl S.size
      · rw [rupd_ne _ e] at h3
        exact S.newb b l h1 h2 h3
    · intro g hg hf
      rw [heap_alloc_old _ _ (Nat.lt_of_lt_of_le hg S.size)]
      exact S.frame g hg hf
    · have := S.size
      simp
      omega

end
end Go.Proofs.Ytdagncfnkenbfaa.AM
/- The abstract machine, sixteenth part: regions that draw their order, to the end. -/
namespace Go.Proofs.Ytdagncfnkenbfaa.AM
open Go

section
variable {P : Program} {call : CallF} {ops : Array Oper} {tm0 tmF : Tm} {H0 HF : AH} {T : Nat → Tm} {H : Nat → AH} {N : Nat} {ρ0 : Rho} {w0 : World} {a0 : Act}

set_option linter.unusedSectionVars false
variable (hc : CallSound P call) (tr : Trace P call ops tm0 H0 tmF HF T H) (hd : DrawOk ops)
include hc tr hd

/-- An effect is done. -/
theorem Inv.effect {D D' : Nat → Bool} {p : Nat} {ρ ρ' : Rho} {a a' : Act} {w w' : World} (I : Inv P ops N T H HF ρ0 w0 a0 D p ρ a w) {j : Nat} {o : Oper} (ho : ops[j]? = some o) (he : isE o.op = true) (hj : D j = false)
    (hpre : ∀ i, befB (Region.before ops) i j = true → D i = true) (hD' : ∀ i, D' i = if i = j then true else D i)
    (hfr : Fresh ρ (H j).length (H (j + 1)).length) (hHR : HR ρ' (H (j + 1)).get w') (S : Stp (H j).length (H (j + 1)).length ρ (H j).get w ρ' (H (j + 1)).get w')
    (htr : TR ρ' (val ops T D') a' N) (hdf : a'.defers = a.defers) : Inv P ops N T H HF ρ0 w0 a0 D' (j + 1) ρ' a' w' := by
  have hjn := size_of_get ho
  obtain ⟨hpj, hno⟩ := I.noE hc tr hd ho he hj hpre
  have hDD : ∀ i, D i = true → D' i = true := fun i h => by rw [hD']; split <;> simp [h]
  have hDf : ∀ i, D' i = false → D i = false ∧ i ≠ j := fun i h => by
    refine ⟨?_, ?_⟩
    · cases hh : D i with
      | false => rfl
      | true => rw [hDD i hh] at h; cases h
    · rintro rfl; rw [hD', if_pos rfl] at h; cases h
  have hGp : GD H ops.size j = GD H ops.size p := tr.GD_move hc hpj (by omega) hno
  have hr : HR ρ (GD H ops.size j) w := by rw [hGp]; exact I.hr
  have S0 : Stp (H 0).length HF.length ρ0 (H 0).get w0 ρ (GD H ops.size j) w := by rw [hGp]; exact I.stp
  have hle := S.le
  have hpl := tr.len_le hc hpj (by omega)
  have h0j := tr.len_le hc (i := 0) (j := j) (by omega) (by omega)
  have hjF := tr.len_le hc (i := j + 1) (j := ops.size) (by omega) (Nat.le_refl _)
  rw [tr.hn] at hjF
  have hsub := S.sub hfr
  have hGj : ∀ b, b < (H j).length → GD H ops.size j b = (H j).get b := fun b hb => by unfold GD; rw [if_pos hb]; rfl
  have hGj1 : ∀ b, b < (H (j + 1)).length → GD H ops.size (j + 1) b = (H (j + 1)).get b := fun b hb => by unfold GD; rw [if_pos hb]; rfl
  have hGe : ∀ b, (H (j + 1)).length ≤ b → GD H ops.size (j + 1) b = GD H ops.size j b := fun b hb => by
    unfold GD; rw [if_neg (by omega), if_neg (by omega)]
  -- what was made early
  have early : ∀ b l k, (H (j + 1)).length ≤ b → ρ' b = some l → GD H ops.size (j + 1) b = some k → ρ b = some l ∧ GD H ops.size j b = some k ∧ k.st = .own := by
    intro b l k hb hl hk
    have hl' : ρ b = some l := by rw [← S.ext b (.inr hb)]; exact hl
    rw [hGe b hb] at hk
    refine ⟨hl', hk, ?_⟩
    have hbF : b < HF.length := by
      rcases Nat.lt_or_ge b HF.length with h | h
      · exact h
      · unfold GD at hk
        rw [if_neg (by omega), tr.ini_out hc (by rw [tr.hn]; exact h)] at hk
        cases hk
    rcases I.m2 b l (by omega) hbF hl' with h | ⟨i, h1, h2, h3⟩
    · omega
    · obtain ⟨hin, cs, hcs⟩ := tr.al h2
      have : iniU H ops.size b = some ⟨cs, .own⟩ := by
        rw [tr.ini hc hin (by omega) (by rw [hcs]; simp; omega), hcs, h3]; simp
      unfold GD at hk
      rw [if_neg (by omega), this] at hk
      cases hk; rfl
  have earlyBlk : ∀ b l k, (H (j + 1)).length ≤ b → ρ' b = some l → GD H ops.size (j + 1) b = some k → w'.heap[l.base.block]? = w.heap[l.base.block]? ∧ l.base.block < w.heap.size := by
    intro b l k hb hl hk
    obtain ⟨hl', hk', ho'⟩ := early b l k hb hl hk
    obtain ⟨_, _, c, t, hh, _⟩ := hr.own b l k hl' hk' ho'
    have hlt := (Array.getElem?_eq_some_iff.1 hh).1
    refine ⟨S.frame _ hlt ?_, hlt⟩
    intro b0 l0 k0 q1 q2 q3
    have hb0 := get_lt q2
    exact hr.inj b0 b l0 l k0 k (by omega) q1 hl' (by rw [hGj b0 hb0]; exact q2) hk' q3 (by rw [ho']; simp) (.inl ho')
  -- across: new and early
  have across : ∀ b1 b2 l1 l2 k1 k2, b1 < (H (j + 1)).length → (H (j + 1)).length ≤ b2 → ρ' b1 = some l1 → ρ' b2 = some l2 → (H (j + 1)).get b1 = some k1 → GD H ops.size (j + 1) b2 = some k2 → k1.st ≠ .dead → (k1.st = .own ∨ k1.cells ≠ []) → l1.base.block ≠ l2.base.block := by
    intro b1 b2 l1 l2 k1 k2 h1 h2 hl1 hl2 hk1 hk2 hnd hn
    obtain ⟨hl2', hk2', ho2⟩ := early b2 l2 k2 h2 hl2 hk2
    obtain ⟨_, hlt2⟩ := earlyBlk b2 l2 k2 h2 hl2 hk2
    by_cases h3 : b1 < (H j).length
    · have hl1' : ρ b1 = some l1 := by rw [← S.ext b1 (.inl h3)]; exact hl1
      obtain ⟨k0, q1, q2, q3⟩ := S.old b1 k1 h3 hk1 hnd
      have := hr.inj b2 b1 l2 l1 k2 k0 (by omega) hl2' hl1' hk2' (by rw [hGj b1 h3]; exact q1) ho2 (by rw [q2]; exact hnd) (by
        rcases hn with hn | hn
        · exact .inl (q2.trans hn)
        · right; intro e; rw [e] at q3; exact hn (List.eq_nil_of_length_eq_zero (by simpa using q3.symm)))
      exact this.symm
    · rcases S.newb b1 l1 (by omega) h1 hl1 with q | ⟨b0, l0, k0, q1, q2, q3, q4⟩
      · omega
      · have hb0 := get_lt q2
        rw [← q4]
        exact hr.inj b0 b2 l0 l2 k0 k2 (by omega) q1 hl2' (by rw [hGj b0 hb0]; exact q2) hk2' q3 (by rw [ho2]; simp) (.inl ho2)
  have hHR' : HR ρ' (GD H ops.size (j + 1)) w' := by
    refine ⟨?_, ?_, ?_⟩
    · intro b l k hl hk hnd i v hv
      by_cases hb : b < (H (j + 1)).length
      · rw [hGj1 b hb] at hk
        exact hHR.cell b l k hl hk hnd i v hv
      · obtain ⟨hl', hk', ho'⟩ := early b l k (by omega) hl hk
        obtain ⟨v', q1, q2⟩ := hr.cell b l k hl' hk' hnd i v hv
        refine ⟨v', ?_, q2.mono hsub⟩
        rw [cell?_congr (w := w) (by rw [add_block]; exact (earlyBlk b l k (by omega) hl hk).1)]
        exact q1
    · intro b l k hl hk hst
      by_cases hb : b < (H (j + 1)).length
      · rw [hGj1 b hb] at hk
        exact hHR.own b l k hl hk hst
      · obtain ⟨hl', hk', ho'⟩ := early b l k (by omega) hl hk
        obtain ⟨q1, q2, c, t, q3, q4⟩ := hr.own b l k hl' hk' hst
        exact ⟨q1, q2, c, t, by rw [(earlyBlk b l k (by omega) hl hk).1]; exact q3, q4⟩
    · intro b1 b2 l1 l2 k1 k2 hne hl1 hl2 hk1 hk2 ho1 hnd2 hn2
      by_cases hb1 : b1 < (H (j + 1)).length <;> by_cases hb2 : b2 < (H (j + 1)).length
      · rw [hGj1 b1 hb1] at hk1
        rw [hGj1 b2 hb2] at hk2
        exact hHR.inj b1 b2 l1 l2 k1 k2 hne hl1 hl2 hk1 hk2 ho1 hnd2 hn2
      · rw [hGj1 b1 hb1] at hk1
        exact across b1 b2 l1 l2 k1 k2 hb1 (by omega) hl1 hl2 hk1 hk2 (by rw [ho1]; simp) (.inl ho1)
      · rw [hGj1 b2 hb2] at hk2
        exact (across b2 b1 l2 l1 k2 k1 hb2 (by omega) hl2 hl1 hk2 hk1 hnd2 hn2).symm
      · obtain ⟨hl1', hk1', _⟩ := early b1 l1 k1 (by omega) hl1 hk1
        obtain ⟨hl2', hk2', _⟩ := early b2 l2 k2 (by omega) hl2 hk2
        exact hr.inj b1 b2 l1 l2 k1 k2 hne hl1' hl2' hk1' hk2' ho1 hnd2 hn2
  have hid : ∀ i, isAl ops T i → i ≠ j → (H i).length < (H j).length ∧ i < j ∨ (H (j + 1)).length ≤ (H i).length ∧ j < i := by
    intro i hi hne
    obtain ⟨hin, c2, hc2⟩ := tr.al hi
    rcases Nat.lt_or_gt_of_ne hne with h | h
    · have := tr.len_le hc (i := i + 1) (j := j) (by omega) (by omega)
      rw [hc2] at this; simp at this; exact .inl ⟨by omega, h⟩
    · have := tr.len_le hc (i := j + 1) (j := i) (by omega) (by omega)
      exact .inr ⟨this, h⟩
  refine ⟨by omega, .inr ⟨j, o, rfl, ho, he⟩, ?_, I.down' hc tr hd hpre hD', htr, hdf.trans I.dfr, hHR', ?_, ?_, ?_, ?_⟩
  · intro e oe hoe hE
    rw [hD']
    by_cases ee : e = j
    · subst ee; simp
    · rw [if_neg ee, I.eff e oe hoe hE]
      constructor
      · intro h; omega
      · intro h
        rcases Nat.lt_or_ge e p with h1 | h1
        · exact h1
        · have := hno e oe h1 (by omega) hoe
          rw [this] at hE; cases hE
  · intro b l h1 h2 h3
    by_cases hb : b < (H (j + 1)).length
    · exact .inl hb
    · rw [S.ext b (.inr (by omega))] at h3
      rcases I.m2 b l h1 h2 h3 with h | ⟨i, a1, a2, a3⟩
      · exact .inl (by omega)
      · exact .inr ⟨i, hDD i a1, a2, a3⟩
  · intro i hi h
    obtain ⟨hDi, hne⟩ := hDf i h
    rw [S.ext]
    · exact I.m3 i hi hDi
    · rcases hid i hi hne with ⟨q, _⟩ | ⟨q, _⟩
      · exact .inl q
      · exact .inr q
  · intro i hi h hlt
    obtain ⟨hDi, hne⟩ := hDf i h
    obtain ⟨hin, cs, hcs⟩ := tr.al hi
    have hij : (H i).length < (H j).length := by
      rcases hid i hi hne with ⟨q, _⟩ | ⟨_, q⟩
      · exact q
      · omega
    have hk := S.keep (H i).length hij (I.m3 i hi hDi)
    have hk2 : (H (j + 1))[(H i).length]? = (H j)[(H i).length]? := hk
    rw [hk2]
    by_cases hip : i < p
    · rw [← I.un i hi hDi hip]
      refine tr.flat hc hpj (by omega) hno _ ?_
      have := tr.len_le hc (i := i + 1) (j := p) (by omega) I.ple
      rw [hcs] at this
      simp at this
      omega
    · refine tr.flat hc (p := i + 1) (q := j) (by omega) (by omega) (fun k ok b1 b2 => hno k ok (by omega) b2) _ ?_
      rw [hcs]; simp
  · refine ⟨S0.le, ?_, ?_, ?_, ?_, ?_, Nat.le_trans S0.size S.size, S.os.trans S0.os, S.tape.trans S0.tape, S.output.trans S0.output⟩
    · intro b hb
      rw [S.ext b (by omega)]
      exact S0.ext b hb
    · intro b hb hn
      rw [hGj1 b (by omega), S.keep b (by omega) (by rw [S0.ext b (.inl hb)]; exact hn), ← hGj b (by omega)]
      exact S0.keep b hb hn
    · intro b k' hb hk hnd
      rw [hGj1 b (by omega)] at hk
      obtain ⟨k1, q1, q2, q3⟩ := S.old b k' (by omega) hk hnd
      rw [← hGj b (by omega)] at q1
      obtain ⟨k2, r1, r2, r3⟩ := S0.old b k1 hb q1 (by rw [q2]; exact hnd)
      exact ⟨k2, r1, r2.trans q2, r3.trans q3⟩
    · intro b l h1 h2 h3
      by_cases hb : (H j).length ≤ b ∧ b < (H (j + 1)).length
      · rcases S.newb b l hb.1 hb.2 h3 with q | ⟨b0, l0, k0, q1, q2, q3, q4⟩
        · exact .inl (Nat.le_trans S0.size q)
        · have hb0 := get_lt q2
          rw [← hGj b0 hb0] at q2
          by_cases hb00 : b0 < (H 0).length
          · obtain ⟨k2, r1, r2⟩ := S0.st b0 k0 hb00 q2 q3
            exact .inr ⟨b0, l0, k2, by rw [← S0.ext b0 (.inl hb00)]; exact q1, r1, r2, q4⟩
          · rcases S0.newb b0 l0 (by omega) (by omega) q1 with r | ⟨b3, l3, k3, r1, r2, r3, r4⟩
            · exact .inl (by rw [← q4]; exact r)
            · exact .inr ⟨b3, l3, k3, r1, r2, r3, r4.trans q4⟩
      · rw [S.ext b (by omega)] at h3
        exact S0.newb b l h1 h2 h3
    · intro g hg hf
      rw [S.frame g (Nat.lt_of_lt_of_le hg S0.size) ?_, S0.frame g hg hf]
      intro b l k q1 q2 q3 q4
      have hb := get_lt q2
      rw [← hGj b hb] at q2
      by_cases hb0 : b < (H 0).length
      · obtain ⟨k2, r1, r2⟩ := S0.st b k hb0 q2 q3
        exact hf b l k2 (by rw [← S0.ext b (.inl hb0)]; exact q1) r1 r2 q4
      · rcases S0.newb b l (by omega) (by omega) q1 with r | ⟨b3, l3, k3, r1, r2, r3, r4⟩
        · omega
        · exact hf b3 l3 k3 r1 r2 r3 (r4.trans q4)
end
end Go.Proofs.Ytdagncfnkenbfaa.AM
/- The abstract machine, seventeenth part: a region that draws its order is sound. -/
namespace Go.Proofs.Ytdagncfnkenbfaa.AM
open Go

section
variable {P : Program} {call : CallF} {ops : Array Oper} {tm0 tmF : Tm} {H0 HF : AH} {N : Nat} {ρ0 : Rho} {w0 : World} {a0 : Act}

theorem Inv.step (hc : CallSound P call) (tr : Trace P call ops tm0 H0 tmF HF (tT P call ops tm0 H0) (hT P call ops tm0 H0)) (hd : DrawOk ops) (hok : ∀ o ∈ ops.toList, operOk N o = true) (hst : Stable P call ops tm0 H0)
    (hfr0 : Fresh ρ0 H0.length HF.length)
    {D D' : Nat → Bool} {p : Nat} {ρ : Rho} {a : Act} {w : World} (I : Inv P ops N (tT P call ops tm0 H0) (hT P call ops tm0 H0) HF ρ0 w0 a0 D p ρ a w)
    {Q : Exit → Act → World → Prop} {K : Act → World → Prop} {j : Nat} {o : Oper} (ho : ops[j]? = some o) (hj : D j = false)
    (hpre : ∀ i, befB (Region.before ops) i j = true → D i = true) (hD' : ∀ i, D' i = if i = j then true else D i)
    (hK : ∀ p' ρ' a' w', Inv P ops N (tT P call ops tm0 H0) (hT P call ops tm0 H0) HF ρ0 w0 a0 D' p' ρ' a' w' → K a' w') : wpOp P ops Q j K a w := by
  generalize eT : tT P call ops tm0 H0 = T at *
  generalize eH : hT P call ops tm0 H0 = H at *
  have hmem : o ∈ ops.toList := List.mem_iff_getElem?.2 ⟨j, by simpa using ho⟩
  have hokj := hok o hmem
  simp only [operOk, Bool.and_eq_true] at hokj
  obtain ⟨hok1, hok2⟩ := hokj
  have hdst : ∀ t, o.dst = some t → t < N := by
    intro t e; rw [e] at hok2; simpa using hok2
  have hread : ∀ t, t ∈ looks ops o → val ops T D t = T j t := fun t ht => tr.val_read hd ho hj hpre (fun k i => I.down k i) ht
  -- the guard is as in the text's order
  have hwant : awanted ops o (val ops T D) = awanted ops o (T j) := by
    unfold awanted
    cases hg : o.guard with
    | none => rfl
    | some q =>
      obtain ⟨g, want⟩ := q
      simp only
      cases hgd : (ops[g]?).bind (·.dst) with
      | none => rfl
      | some d =>
        simp only
        rw [hread d (by simp [looks, guardTmp, hg, hgd])]
  have hput : ∀ v, (a.put o.dst v).defers = a.defers := fun v => by cases o.dst <;> rfl
  have hstep := tr.step j o ho
  -- the slots behind it
  have hval : ∀ v, T (j + 1) = aput (T j) o.dst v → val ops T D' = aput (val ops T D) o.dst v := by
    intro v hv
    funext t
    rw [val_put hd ho hD' t]
    cases hdd : o.dst with
    | none => simp [aput]
    | some d =>
      simp only [aput]
      by_cases e : t = d
      · subst e
        rw [hv, hdd]
        simp [aput]
      · rw [if_neg (by simp; exact fun h => e h.symm), if_neg e]
  unfold wpOp
  simp only [ho]
  rw [wanted_eq I.tr ops o, hwant]
  unfold aStep at hstep
  cases hw : awanted ops o (T j) with
  | false =>
    rw [hw] at hstep
    simp only [Bool.false_eq_true, if_false, Option.some.injEq, Prod.mk.injEq] at hstep ⊢
    obtain ⟨h1, h2⟩ := hstep
    have htr : TR ρ (val ops T D') (a.put o.dst undef) N := by
      rw [hval undef h1.symm]
      exact I.tr.put undef_refl hdst
    cases he : isE o.op with
    | true => exact hK _ _ _ _ (I.skipE hc tr hd ho he hj h2.symm hpre hD' htr (hput _))
    | false =>
      refine hK _ _ _ _ (I.quiet hc tr hd ho he ?_ hpre hD' htr (hput _))
      rintro ⟨o', q1, q2, q3⟩
      rw [ho] at q1; cases q1
      rw [hw] at q3; cases q3
  | true =>
    rw [hw] at hstep
    simp only [if_true, Option.map_eq_some_iff, Prod.mk.injEq] at hstep ⊢
    obtain ⟨⟨v, H1⟩, hop, h1, h2⟩ := hstep
    simp only at h1 h2
    subst h2
    have hop' : aOp P call (aev (val ops T D)) o.op (H j) = some (v, H (j + 1)) := by
      rw [← hop]
      exact aOp_congr fun t ht => hread t (by simp [looks, ht])
    have hvD := hval v h1.symm
    left
    cases he : isE o.op with
    | true =>
      obtain ⟨hpj, hno⟩ := I.noE hc tr hd ho he hj hpre
      have hjn := size_of_get ho
      have hfr : Fresh ρ (H j).length (H (j + 1)).length := by
        intro b b1 b2
        have q1 := tr.len_le hc (i := 0) (j := j) (by omega) (by omega)
        have q2 := tr.len_le hc (i := j + 1) (j := ops.size) (by omega) (Nat.le_refl _)
        have q3 := tr.len_le hc hpj (by omega)
        rw [tr.hn] at q2
        cases hb : ρ b with
        | none => rfl
        | some l =>
          rcases I.m2 b l (by omega) (by omega) hb with h | ⟨i, r1, r2, r3⟩
          · omega
          · obtain ⟨hin, cs, hcs⟩ := tr.al r2
            rcases Nat.lt_trichotomy i j with h | h | h
            · have := tr.len_le hc (i := i + 1) (j := j) (by omega) (by omega)
              rw [hcs] at this; simp at this; omega
            · subst h; rw [r1] at hj; cases hj
            · have := tr.len_le hc (i := j + 1) (j := i) (by omega) (by omega)
              omega
      have hGp : GD H ops.size j = GD H ops.size p := tr.GD_move hc hpj (by omega) hno
      have hr : HR ρ (H j).get w := by
        refine I.hr.sub fun b k hk => ?_
        rw [← hGp]
        unfold GD
        rw [if_pos (get_lt hk)]
        exact hk
      refine op_sound hc I.tr.ev hok1 hr hop' hfr ?_
      intro v' w' ρ' hv hh hs
      refine hK _ _ _ _ (I.effect hc tr hd ho he hj hpre hD' hfr hh hs ?_ (hput _))
      rw [hvD]
      exact (I.tr.mono (hs.sub hfr)).put hv hdst
    | false =>
      cases ha : isA o.op with
      | true =>
        have hal : isAl ops T j := ⟨o, ho, ha, hw⟩
        obtain ⟨cs, inf, hm, rfl, hH1⟩ := aOp_make ha hop'
        obtain ⟨hlen, cs', t, hvl, hrun⟩ := make_sound (P := P) I.tr.ev hok1 hm
        unfold Oper.wp
        rw [hrun w]
        have hsub := Sub.rupd (b := (H j).length) (⟨⟨w.heap.size, 0, none⟩, cs.length⟩ : Loc) (I.m3 j hal hj)
        refine hK _ _ _ _ (I.make hc tr hd ho he hj hal hH1 hvl hpre hD' ?_ (hput _))
        rw [hvD]
        exact (I.tr.mono hsub).put (mkv_rel (rupd_same ..) (fun m s e => by rw [hlen m s e]; exact Nat.le_refl _)) hdst
      | false =>
        have hnal : ¬ isAl ops T j := by
          rintro ⟨o', q1, q2, q3⟩
          rw [ho] at q1; cases q1
          rw [ha] at q2; cases q2
        obtain ⟨_, hq⟩ := aOp_quiet he ha hop'
        obtain ⟨_, hqT⟩ := aOp_quiet he ha hop
        rcases hq with ⟨_, hp⟩ | ⟨x, hx, hrd⟩
        · obtain ⟨v', hv, hrun⟩ := pure_sound (P := P) I.tr.ev hok1 hp
          unfold Oper.wp
          rw [hrun w]
          refine hK _ _ _ _ (I.quiet hc tr hd ho he hnal hpre hD' ?_ (hput _))
          rw [hvD]
          exact I.tr.put hv hdst
        · rcases hqT with ⟨hn, _⟩ | ⟨x', hx', hrdT⟩
          · rw [hn] at hx; cases hx
          · rw [hx] at hx'; cases hx'
            have hcomp : Compat ops j p := by
              intro e oe hoe hE
              refine ⟨fun hb => (I.eff e oe hoe hE).1 (hpre e hb), fun hb => ?_⟩
              rcases Nat.lt_or_ge e p with h | h
              · have := I.down e j ((I.eff e oe hoe hE).2 h) hb
                rw [this] at hj; cases hj
              · exact h
            have hS := hst j o x ho hx (by rw [eT]; exact hw) p I.bnd hcomp
            rw [eT, eH, hrdT] at hS
            have hxe : aev (val ops T D) x = aev (T j) x := by
              refine aev_congr fun t e => hread t ?_
              subst e
              simp only [looks, opTmps, List.mem_append, List.mem_filterMap]
              left
              refine ⟨.tmp t, ?_, rfl⟩
              cases ho2 : o.op <;> rw [ho2] at hx <;> simp [rdArg] at hx <;> subst hx <;> simp [Op.operands]
            have hr : HR ρ (H p).get w := by
              refine I.hr.sub fun b k hk => ?_
              unfold GD
              rw [if_pos (get_lt hk)]
              exact hk
            obtain ⟨v', hv, hrun⟩ := read_sound (P := P) hr I.tr.ev hok1 hx (by rw [hxe]; exact hS)
            unfold Oper.wp
            rw [hrun]
            refine hK _ _ _ _ (I.quiet hc tr hd ho he hnal hpre hD' ?_ (hput _))
            rw [hvD]
            exact I.tr.put hv hdst

def cnt (D : Nat → Bool) : Nat → Nat
  | 0 => 0
  | n + 1 => cnt D n + if D n then 0 else 1
theorem cnt_zero {D : Nat → Bool} : ∀ {n : Nat}, cnt D n = 0 → ∀ i, i < n → D i = true
  | 0, _, i, h => by omega
  | n + 1, h, i, hi => by
    simp only [cnt] at h
    by_cases e : i = n
    · subst e
      cases hh : D i with
      | true => rfl
      | false => rw [hh] at h; simp at h
    · exact cnt_zero (n := n) (by omega) i (by omega)
theorem cnt_same {D D' : Nat → Bool} : ∀ {n : Nat}, (∀ i, i < n → D' i = D i) → cnt D' n = cnt D n
  | 0, _ => rfl
  | n + 1, h => by simp only [cnt]; rw [cnt_same (n := n) (fun i hi => h i (by omega)), h n (by omega)]
theorem cnt_put {D D' : Nat → Bool} {j : Nat} (hj : D j = false) (hD' : ∀ i, D' i = if i = j then true else D i) : ∀ {n : Nat}, j < n → cnt D' n + 1 = cnt D n
  | 0, h => by omega
  | n + 1, h => by
    simp only [cnt]
    by_cases e : j = n
    · subst e
      rw [hD', if_pos rfl, hj, cnt_same (D := D) (D' := D') (n := j) (fun i hi => by rw [hD', if_neg (by omega)])]
      simp
    · have hne : ¬ n = j := fun h2 => e h2.symm
      have := cnt_put hj hD' (n := n) (by omega)
      rw [hD' n, if_neg hne]
      omega

theorem drawn_sound (hc : CallSound P call) (hm : P.follows .mixedOrders = true) {id : Nat} {Q : Exit → Act → World → Prop} (hok : ∀ o ∈ ops.toList, operOk N o = true) (hdr : drawOk ops = true) (hst : Stable P call ops tm0 H0)
    (h : aSeq P call ops ops.toList tm0 H0 = some (tmF, HF)) (hf : Fresh ρ0 H0.length HF.length) (hr : HR ρ0 H0.get w0) (ht : TR ρ0 tm0 a0 N)
    (hQ : ∀ a' w' ρ', a'.defers = a0.defers → TR ρ' tmF a' N → HR ρ' HF.get w' → Stp H0.length HF.length ρ0 H0.get w0 ρ' HF.get w' → Q .normal a' w') : (Code.region id ops true).wp P Q a0 w0 := by
  have hd := drawOk_spec hdr
  have tr := trace_of h
  refine wp_region_any hm ?_
  -- the end
  have fin : ∀ (D : Nat → Bool) p ρ a w, Inv P ops N (tT P call ops tm0 H0) (hT P call ops tm0 H0) HF ρ0 w0 a0 D p ρ a w → (∀ i, i < ops.size → D i = true) → Q .normal a w := by
    intro D p ρ a w I hall
    have hno : ∀ i o, p ≤ i → i < ops.size → ops[i]? = some o → isE o.op = false := by
      intro i o h1 h2 ho
      cases he : isE o.op with
      | false => rfl
      | true => have := (I.eff i o ho he).1 (hall i h2); omega
    have hG : GD (hT P call ops tm0 H0) ops.size p = HF.get := by
      rw [← tr.GD_move hc I.ple (Nat.le_refl _) hno]
      funext b
      unfold GD
      rw [tr.hn]
      by_cases hb : b < HF.length
      · rw [if_pos hb]; rfl
      · rw [if_neg hb, tr.ini_out hc (by rw [tr.hn]; omega), get_none (by omega)]
    have h1 := I.tr
    rw [tr.val_all hd hall] at h1
    have h2 := I.hr
    rw [hG] at h2
    have h3 := I.stp
    rw [hG, tr.h0] at h3
    exact hQ a w ρ I.dfr h1 h2 h3
  have go : ∀ (fuel : Nat) (listed : Array Bool) p ρ a w, listed.size = ops.size → cnt (fun i => listed.getD i false) ops.size ≤ fuel →
      Inv P ops N (tT P call ops tm0 H0) (hT P call ops tm0 H0) HF ρ0 w0 a0 (fun i => listed.getD i false) p ρ a w →
      (∀ (j : Nat) (o : Oper) e, ops[j]? = some o → listed.getD j false = true → e ∈ o.after → Region.binds .any e = true → listed.getD e.on false = true) → wpAny P .any ops Q fuel listed a w := by
    intro fuel
    induction fuel with
    | zero =>
      intro listed p ρ a w hsz hcnt I _
      have hall := cnt_zero (Nat.le_zero.1 hcnt)
      refine ⟨?_, fin _ p ρ a w I hall⟩
      rw [List.eq_nil_iff_forall_not_mem]
      intro j hj
      rw [mem_ready] at hj
      obtain ⟨h1, o, h2, _⟩ := hj
      have := hall j (size_of_get h2)
      have hlt : j < listed.size := by rw [hsz]; exact size_of_get h2
      simp only [Array.getD_eq_getD_getElem?, Array.getElem?_eq_getElem hlt, Option.getD_some] at h1 this
      rw [h1] at this; cases this
    | succ fuel ih =>
      intro listed p ρ a w hsz hcnt I hcl
      refine ⟨fun hnil => ?_, fun j hj => ?_⟩
      · -- nothing is ready: all is done
        refine fin _ p ρ a w I ?_
        intro i
        induction i using Nat.strongRecOn with
        | _ i ih2 =>
          intro hi
          cases hh : listed.getD i false with
          | true => rfl
          | false =>
            exfalso
            have hg := Array.getElem?_eq_getElem hi
            have : i ∈ Region.ready .any ops listed := by
              rw [mem_ready]
              have hlt : i < listed.size := by omega
              refine ⟨by simpa [Array.getD_eq_getD_getElem?, Array.getElem?_eq_getElem hlt] using hh, _, hg, fun e he hb => ?_⟩
              have hlt2 := hd.edge i _ e hg he hb
              exact ih2 e.on hlt2 (by omega)
            rw [hnil] at this
            cases this
      · rw [mem_ready] at hj
        obtain ⟨h1, o, h2, h3⟩ := hj
        have hjn := size_of_get h2
        have hlt : j < listed.size := by omega
        have hjD : listed.getD j false = false := by simpa [Array.getD_eq_getD_getElem?, Array.getElem?_eq_getElem hlt] using h1
        have hD' : ∀ i, (listed.setIfInBounds j true).getD i false = if i = j then true else listed.getD i false := by
          intro i
          by_cases e : i = j
          · subst e; simp [Array.getD_eq_getD_getElem?, hlt]
          · rw [if_neg e]; exact getD_set_ne false (Ne.symm e)
        have hpre : ∀ i, befB (Region.before ops) i j = true → listed.getD i false = true := by
          intro i hb
          obtain ⟨o', e, q1, q2, q3, q4⟩ := (before_spec ops).2 j i hb
          rw [h2] at q1; cases q1
          have := h3 e q2 q3
          rcases q4 with rfl | ⟨q5, q6⟩
          · exact this
          · exact bef_closed (D := fun i => listed.getD i false = true) (fun k ok e hok hk he hbd => hcl k ok e hok hk he hbd) e.on i this q6
        refine I.step hc tr hd hok hst hf h2 hjD hpre hD' ?_
        intro p' ρ' a' w' I'
        refine ih _ p' ρ' a' w' (by simpa using hsz) ?_ I' ?_
        · have := cnt_put (D := fun i => listed.getD i false) (D' := fun i => (listed.setIfInBounds j true).getD i false) hjD hD' hjn
          omega
        · intro k ok e hok hk he hbd
          rw [hD'] at hk ⊢
          by_cases ek : e.on = j
          · rw [if_pos ek]
          · rw [if_neg ek]
            by_cases e2 : k = j
            · subst e2
              rw [h2] at hok; cases hok
              exact h3 e he hbd
            · rw [if_neg e2] at hk
              exact hcl k ok e hok hk he hbd
  refine go ops.size (Array.replicate ops.size false) 0 ρ0 a0 _ (by simp) ?_ ?_ ?_
  · have : ∀ n, cnt (fun i => (Array.replicate ops.size false).getD i false) n ≤ n := by
      intro n
      induction n with
      | zero => exact Nat.le_refl _
      | succ n ih => simp only [cnt]; split <;> omega
    exact this _
  · have hfalse : ∀ i, (Array.replicate ops.size false).getD i false = false := by
      intro i
      simp only [Array.getD_eq_getD_getElem?, Array.getElem?_replicate]
      split <;> rfl
    have hle := tr.len_le hc (i := 0) (j := ops.size) (by omega) (Nat.le_refl _)
    rw [tr.h0, tr.hn] at hle
    have hG0 : ∀ b, b < H0.length → GD (hT P call ops tm0 H0) ops.size 0 b = H0.get b := by
      intro b hb
      unfold GD
      rw [tr.h0, if_pos hb]
      rfl
    have key : ∀ b l k, ρ0 b = some l → GD (hT P call ops tm0 H0) ops.size 0 b = some k → H0.get b = some k := by
      intro b l k hl hk
      by_cases hb : b < H0.length
      · rw [hG0 b hb] at hk; exact hk
      · by_cases hb2 : b < HF.length
        · rw [hf b (by omega) hb2] at hl; cases hl
        · unfold GD at hk
          rw [tr.h0, if_neg hb, tr.ini_out hc (by rw [tr.hn]; omega)] at hk
          cases hk
    refine ⟨by omega, .inl rfl, ?_, ?_, ?_, rfl, ?_, ?_, ?_, ?_, ?_⟩
    · intro e o _ _
      rw [hfalse]
      simp
    · intro k i hk
      rw [hfalse] at hk; cases hk
    · have : val ops (tT P call ops tm0 H0) (fun i => (Array.replicate ops.size false).getD i false) = tm0 := by
        funext t
        rw [val_none (fun i o hi => by rw [hfalse] at hi; cases hi), tr.t0]
      rw [this]; exact ht
    · have hr' : HR ρ0 H0.get { w0 with drawn := w0.drawn + 1 } := hr.world rfl
      exact ⟨fun b l k hl hk => hr'.cell b l k hl (key b l k hl hk), fun b l k hl hk => hr'.own b l k hl (key b l k hl hk),
        fun b b' l l' k k' hne hl hl' hk hk' => hr'.inj b b' l l' k k' hne hl hl' (key b l k hl hk) (key b' l' k' hl' hk')⟩
    · intro b l h1 h2 h3
      rw [tr.h0] at h1
      rw [hf b h1 h2] at h3; cases h3
    · rintro j hj _
      obtain ⟨hjn, cs, hcs⟩ := tr.al hj
      have q1 := tr.len_le hc (i := 0) (j := j) (by omega) (by omega)
      have q2 := tr.len_le hc (i := j + 1) (j := ops.size) (by omega) (Nat.le_refl _)
      rw [tr.h0] at q1
      rw [tr.hn, hcs] at q2
      simp at q2
      exact hf _ q1 (by omega)
    · intro j _ _ h; omega
    · rw [tr.h0]
      refine ⟨hle, fun _ _ => rfl, fun b hb _ => hG0 b hb, ?_, ?_, fun _ _ _ => rfl, Nat.le_refl _, rfl, rfl, rfl⟩
      · intro b k' hb hk _
        rw [hG0 b hb] at hk
        exact ⟨k', hk, rfl, rfl⟩
      · intro b l h1 h2 h3
        rw [hf b h1 h2] at h3; cases h3
  · intro j o e _ h2
    simp only [Array.getD_eq_getD_getElem?, Array.getElem?_replicate] at h2
    split at h2 <;> simp at h2
end
end Go.Proofs.Ytdagncfnkenbfaa.AM
/- The abstract machine, eighteenth part: code. -/
namespace Go.Proofs.Ytdagncfnkenbfaa.AM
open Go

inductive Ex where
  | normal
  | exit (id : Nat)
  | ret
  deriving DecidableEq

def Ex.conv : Ex → Exit
  | .normal => .normal
  | .exit id => .exit id
  | .ret => .ret

open Classical in
noncomputable def aRegion (P : Program) (call : CallF) (ops : Array Oper) (draw : Bool) (tm : Tm) (H : AH) : Option (Tm × AH) :=
  if draw = true ∧ ¬ (drawOk ops = true ∧ Stable P call ops tm H) then none else aSeq P call ops ops.toList tm H

noncomputable def aCode (P : Program) (call : CallF) : Nat → Code → Tm → AH → Option (Ex × Tm × AH)
  | 0, _, _, _ => none
  | k + 1, c, tm, H =>
    match c with
    | .skip => some (.normal, tm, H)
    | .region _ ops draw => (aRegion P call ops draw tm H).map fun x => (.normal, x.1, x.2)
    | .seq a b =>
      match aCode P call k a tm H with
      | some (.normal, tm, H) => aCode P call k b tm H
      | r => r
    | .cond c a b =>
      match aev tm c with
      | .bool true => aCode P call k a tm H
      | .bool false => aCode P call k b tm H
      | _ => none
    | .block id c =>
      match aCode P call k c tm H with
      | some (.exit i, tm, H) => if i = id then some (.normal, tm, H) else some (.exit i, tm, H)
      | r => r
    | .loop c =>
      match aCode P call k c tm H with
      | some (.normal, tm, H) => aCode P call k (.loop c) tm H
      | r => r
    | .exit id => some (.exit id, tm, H)
    | .ret => some (.ret, tm, H)
    | _ => none

def codeOk (N : Nat) : Code → Bool
  | .skip | .exit _ | .ret => true
  | .region _ ops _ => ops.toList.all (operOk N)
  | .seq a b => codeOk N a && codeOk N b
  | .cond c a b => opdOk c && codeOk N a && codeOk N b
  | .block _ c => codeOk N c
  | .loop c => codeOk N c
  | _ => false

section
variable {P : Program} {call : CallF} {N : Nat}

theorem aRegion_some {ops : Array Oper} {draw : Bool} {tm : Tm} {H : AH} {x : Tm × AH} (h : aRegion P call ops draw tm H = some x) :
    (draw = true → drawOk ops = true ∧ Stable P call ops tm H) ∧ aSeq P call ops ops.toList tm H = some x := by
  unfold aRegion at h
  split at h
  · cases h
  · rename_i hn
    exact ⟨fun hd => Classical.not_not.1 fun h2 => hn ⟨hd, h2⟩, h⟩

theorem code_le (hc : CallSound P call) : ∀ (k : Nat) (c : Code) (tm tm' : Tm) (H H' : AH) (ex : Ex), aCode P call k c tm H = some (ex, tm', H') → H.length ≤ H'.length := by
  intro k
  induction k with
  | zero => intro c tm tm' H H' ex h; simp [aCode] at h
  | succ k ih =>
    intro c tm tm' H H' ex h
    cases c with
    | skip => simp only [aCode, Option.some.injEq, Prod.mk.injEq] at h; rw [h.2.2]; exact Nat.le_refl _
    | exit id => simp only [aCode, Option.some.injEq, Prod.mk.injEq] at h; rw [h.2.2]; exact Nat.le_refl _
    | ret => simp only [aCode, Option.some.injEq, Prod.mk.injEq] at h; rw [h.2.2]; exact Nat.le_refl _
    | region id ops draw =>
      simp only [aCode, Option.map_eq_some_iff, Prod.mk.injEq] at h
      obtain ⟨x, h1, _, _, rfl⟩ := h
      exact seq_le hc (aRegion_some h1).2
    | seq a b =>
      simp only [aCode] at h
      split at h
      · rename_i tm1 H1 h1
        exact Nat.le_trans (ih _ _ _ _ _ _ h1) (ih _ _ _ _ _ _ h)
      · exact ih _ _ _ _ _ _ h
    | cond c a b =>
      simp only [aCode] at h
      split at h
      · exact ih _ _ _ _ _ _ h
      · exact ih _ _ _ _ _ _ h
      · cases h
    | block id c =>
      simp only [aCode] at h
      split at h
      · rename_i i tm1 H1 h1
        have := ih _ _ _ _ _ _ h1
        split at h <;> (simp only [Option.some.injEq, Prod.mk.injEq] at h; rw [← h.2.2]; exact this)
      · exact ih _ _ _ _ _ _ h
    | loop c =>
      simp only [aCode] at h
      split at h
      · rename_i tm1 H1 h1
        exact Nat.le_trans (ih _ _ _ _ _ _ h1) (ih _ _ _ _ _ _ h)
      · exact ih _ _ _ _ _ _ h
    | _ => simp [aCode] at h

theorem code_sound (hc : CallSound P call) (hm : P.follows .mixedOrders = true) : ∀ (k : Nat) (c : Code) (tm tm' : Tm) (H H' : AH) (ex : Ex), codeOk N c = true → aCode P call k c tm H = some (ex, tm', H') →
    ∀ (ρ : Rho) (w : World) (a : Act) (Q : Exit → Act → World → Prop), Fresh ρ H.length H'.length → HR ρ H.get w → TR ρ tm a N →
    (∀ a' w' ρ', a'.defers = a.defers → TR ρ' tm' a' N → HR ρ' H'.get w' → Stp H.length H'.length ρ H.get w ρ' H'.get w' → Q ex.conv a' w') → c.wp P Q a w := by
  intro k
  induction k using Nat.strongRecOn with
  | _ k ih =>
  intro c tm tm' H H' ex hok h ρ w a Q hf hr ht hQ
  cases k with
  | zero => simp [aCode] at h
  | succ k =>
  cases c with
  | skip =>
    simp only [aCode, Option.some.injEq, Prod.mk.injEq] at h
    obtain ⟨rfl, rfl, rfl⟩ := h
    exact wp_skip (hQ a w ρ rfl ht hr (Stp.refl ..))
  | exit id =>
    simp only [aCode, Option.some.injEq, Prod.mk.injEq] at h
    obtain ⟨rfl, rfl, rfl⟩ := h
    exact wp_exit (hQ a w ρ rfl ht hr (Stp.refl ..))
  | ret =>
    simp only [aCode, Option.some.injEq, Prod.mk.injEq] at h
    obtain ⟨rfl, rfl, rfl⟩ := h
    exact wp_ret (hQ a w ρ rfl ht hr (Stp.refl ..))
  | region id ops draw =>
    simp only [aCode, Option.map_eq_some_iff, Prod.mk.injEq] at h
    obtain ⟨⟨tm1, H1⟩, h1, rfl, rfl, rfl⟩ := h
    obtain ⟨hd, hs⟩ := aRegion_some h1
    have hok' : ∀ o ∈ ops.toList, operOk N o = true := by
      intro o ho
      simp only [codeOk] at hok
      exact (List.all_eq_true.1 hok) o ho
    cases draw with
    | false => exact region_sound hc hok' hs hf hr ht hQ
    | true => exact drawn_sound hc hm hok' (hd rfl).1 (hd rfl).2 hs hf hr ht hQ
  | seq x y =>
    simp only [codeOk, Bool.and_eq_true] at hok
    simp only [aCode] at h
    cases h1 : aCode P call k x tm H with
    | none => rw [h1] at h; cases h
    | some r =>
      obtain ⟨e1, tm1, H1⟩ := r
      have hl1 := code_le hc _ _ _ _ _ _ _ h1
      refine wp_seq ?_
      cases e1 with
      | normal =>
        rw [h1] at h
        simp only at h
        have hl2 := code_le hc _ _ _ _ _ _ _ h
        refine ih k (by omega) x tm tm1 H H1 .normal hok.1 h1 ρ w a _ (fun b b1 b2 => hf b b1 (by omega)) hr ht ?_
        intro a1 w1 ρ1 hd1 ht1 hr1 hs1
        refine ih k (by omega) y tm1 tm' H1 H' ex hok.2 h ρ1 w1 a1 Q ?_ hr1 ht1 ?_
        · intro b b1 b2
          rw [hs1.ext b (.inr b1)]
          exact hf b (by omega) b2
        · intro a2 w2 ρ2 hd2 ht2 hr2 hs2
          exact hQ a2 w2 ρ2 (hd2.trans hd1) ht2 hr2 (hs1.trans hs2 (fun b hb => get_none hb))
      | exit id =>
        rw [h1] at h
        simp only [Option.some.injEq, Prod.mk.injEq] at h
        obtain ⟨rfl, rfl, rfl⟩ := h
        exact ih k (by omega) x _ _ _ _ (.exit id) hok.1 h1 ρ w a _ hf hr ht hQ
      | ret =>
        rw [h1] at h
        simp only [Option.some.injEq, Prod.mk.injEq] at h
        obtain ⟨rfl, rfl, rfl⟩ := h
        exact ih k (by omega) x _ _ _ _ .ret hok.1 h1 ρ w a _ hf hr ht hQ
  | cond c x y =>
    simp only [codeOk, Bool.and_eq_true] at hok
    simp only [aCode] at h
    have hev := ht.ev c hok.1.1
    split at h
    · rename_i hcv
      rw [hcv] at hev
      generalize hz : a.eval c = z at hev
      cases hev
      exact wp_cond_true hz (ih k (by omega) x _ _ _ _ _ hok.1.2 h ρ w a Q hf hr ht hQ)
    · rename_i hcv
      rw [hcv] at hev
      generalize hz : a.eval c = z at hev
      cases hev
      exact wp_cond_false hz (ih k (by omega) y _ _ _ _ _ hok.2 h ρ w a Q hf hr ht hQ)
    · cases h
  | block id c =>
    simp only [codeOk] at hok
    simp only [aCode] at h
    refine wp_block ?_
    cases h1 : aCode P call k c tm H with
    | none => rw [h1] at h; cases h
    | some r =>
      obtain ⟨e1, tm1, H1⟩ := r
      cases e1 with
      | normal =>
        rw [h1] at h
        simp only [Option.some.injEq, Prod.mk.injEq] at h
        obtain ⟨rfl, rfl, rfl⟩ := h
        exact ih k (by omega) c _ _ _ _ .normal hok h1 ρ w a _ hf hr ht hQ
      | exit i =>
        rw [h1] at h
        simp only at h
        by_cases e : i = id
        · rw [if_pos e] at h
          simp only [Option.some.injEq, Prod.mk.injEq] at h
          obtain ⟨rfl, rfl, rfl⟩ := h
          refine ih k (by omega) c _ _ _ _ (.exit i) hok h1 ρ w a _ hf hr ht ?_
          intro a' w' ρ' q1 q2 q3 q4
          simp only [Ex.conv, Exit.inBlock, e, if_true]
          exact hQ a' w' ρ' q1 q2 q3 q4
        · rw [if_neg e] at h
          simp only [Option.some.injEq, Prod.mk.injEq] at h
          obtain ⟨rfl, rfl, rfl⟩ := h
          refine ih k (by omega) c _ _ _ _ (.exit i) hok h1 ρ w a _ hf hr ht ?_
          intro a' w' ρ' q1 q2 q3 q4
          simp only [Ex.conv, Exit.inBlock, e, if_false]
          exact hQ a' w' ρ' q1 q2 q3 q4
      | ret =>
        rw [h1] at h
        simp only [Option.some.injEq, Prod.mk.injEq] at h
        obtain ⟨rfl, rfl, rfl⟩ := h
        exact ih k (by omega) c _ _ _ _ .ret hok h1 ρ w a _ hf hr ht hQ
  | loop c =>
    simp only [codeOk] at hok
    refine wp_loop_ghost (I := fun n a1 w1 => n ≤ k + 1 ∧ ∃ tm1 H1 ρ1, aCode P call n (.loop c) tm1 H1 = some (ex, tm', H') ∧ a1.defers = a.defers ∧ TR ρ1 tm1 a1 N ∧ HR ρ1 H1.get w1 ∧ Stp H.length H1.length ρ H.get w ρ1 H1.get w1) (k + 1) ⟨Nat.le_refl _, tm, H, ρ, h, rfl, ht, hr, Stp.refl ..⟩ ?_
    intro n a1 w1 hI
    obtain ⟨hn, tm1, H1, ρ1, h1, hd1, ht1, hr1, hs1⟩ := hI
    cases n with
    | zero => simp [aCode] at h1
    | succ n =>
      have hle1 := code_le hc _ _ _ _ _ _ _ h1
      simp only [aCode] at h1
      have hf1 : Fresh ρ1 H1.length H'.length := by
        intro b b1 b2
        rw [hs1.ext b (.inr b1)]
        exact hf b (by have := hs1.le; omega) b2
      cases h2 : aCode P call n c tm1 H1 with
      | none => rw [h2] at h1; cases h1
      | some r =>
        obtain ⟨e2, tm2, H2⟩ := r
        have hl2 := code_le hc _ _ _ _ _ _ _ h2
        cases e2 with
        | normal =>
          rw [h2] at h1
          simp only at h1
          have hl3 := code_le hc _ _ _ _ _ _ _ h1
          refine ih n (by omega) c tm1 tm2 H1 H2 .normal hok h2 ρ1 w1 a1 _ (fun b b1 b2 => hf1 b b1 (by omega)) hr1 ht1 ?_
          intro a2 w2 ρ2 q1 q2 q3 q4
          exact ⟨n, Nat.lt_succ_self n, by omega, tm2, H2, ρ2, h1, q1.trans hd1, q2, q3, hs1.trans q4 (fun b hb => get_none hb)⟩
        | exit i =>
          rw [h2] at h1
          simp only [Option.some.injEq, Prod.mk.injEq] at h1
          obtain ⟨rfl, rfl, rfl⟩ := h1
          refine ih n (by omega) c tm1 _ H1 _ (.exit i) hok h2 ρ1 w1 a1 _ hf1 hr1 ht1 ?_
          intro a2 w2 ρ2 q1 q2 q3 q4
          exact hQ a2 w2 ρ2 (q1.trans hd1) q2 q3 (hs1.trans q4 (fun b hb => get_none hb))
        | ret =>
          rw [h2] at h1
          simp only [Option.some.injEq, Prod.mk.injEq] at h1
          obtain ⟨rfl, rfl, rfl⟩ := h1
          refine ih n (by omega) c tm1 _ H1 _ .ret hok h2 ρ1 w1 a1 _ hf1 hr1 ht1 ?_
          intro a2 w2 ρ2 q1 q2 q3 q4
          exact hQ a2 w2 ρ2 (q1.trans hd1) q2 q3 (hs1.trans q4 (fun b hb => get_none hb))
  | _ => simp [aCode] at h
end
end Go.Proofs.Ytdagncfnkenbfaa.AM
