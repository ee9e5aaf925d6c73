/- Part 2 of a proof in parts; the last part, YthhmonkjedemgaaGpart, proves this: At every input within the bounds that the given rows TrafficAlgebraSaid and TrafficSetsSaid name, the laws TrafficAlgebra and TrafficSets of the package flagstonelaw14 return true and leave their arguments as they were. There is no further condition. -/
import Derived.Test.YthhmonkjedemgaaApart
import Derived.ChangeOld
import Derived.SizedLaws
import Derived.Below

section
/- The machine follows the evaluator: regions in the text's order, code, functions. -/
set_option linter.unusedVariables false
set_option linter.unusedSimpArgs false
namespace Go.Eng

section
variable {P : Program} {β : Loc} {s : St} {w : World}

theorem ER.put {sz : Nat → Nat} {e : Env} {a : Act} (h : ER β sz e a.tmps) (d : Option Tmp) {v u : Value} (hv : VR β sz v u) : ER β sz (Eng.put e d (some v)) (a.put d u).tmps := by
  cases d with
  | none => exact h
  | some d =>
    refine ⟨by simp [Eng.put, Act.put, h.1], fun t v' ht => ?_⟩
    simp only [Eng.put, List.getElem?_set] at ht
    simp only [Act.put, Array.getElem?_setIfInBounds]
    by_cases hd : d = t
    · rw [if_pos hd] at ht ⊢
      have hlen := h.1
      split at ht
      · simp at ht; subst ht; exact ⟨u, by rw [if_pos (by omega)], hv⟩
      · simp at ht
    · rw [if_neg hd] at ht ⊢; exact h.2 t v' ht
theorem ER.drop {sz : Nat → Nat} {e : Env} {a : Act} (h : ER β sz e a.tmps) (d : Option Tmp) (u : Value) : ER β sz (Eng.put e d none) (a.put d u).tmps := by
  cases d with
  | none => exact h
  | some d =>
    refine ⟨by simp [Eng.put, Act.put, h.1], fun t v' ht => ?_⟩
    simp only [Eng.put, List.getElem?_set] at ht
    simp only [Act.put, Array.getElem?_setIfInBounds]
    by_cases hd : d = t
    · rw [if_pos hd] at ht; split at ht <;> simp at ht
    · rw [if_neg hd] at ht ⊢; exact h.2 t v' ht
theorem ER.set {sz : Nat → Nat} {e : Env} {a : Array Value} (h : ER β sz e a) (d : Nat) : ER β sz (e.set d none) a := by
  refine ⟨by simp [h.1], fun t v' ht => ?_⟩
  rw [List.getElem?_set] at ht
  by_cases hd : d = t
  · rw [if_pos hd] at ht; split at ht <;> simp at ht
  · rw [if_neg hd] at ht; exact h.2 t v' ht
theorem ER.forget {sz : Nat → Nat} {a : Array Value} (keep : Nat) : ∀ (ops : List Oper) {e : Env}, ER β sz e a → ER β sz (Eng.forget keep ops e) a
  | [], e, h => h
  | o :: r, e, h => by
    unfold Eng.forget
    simp only [List.foldl_cons]
    refine ER.forget keep r (e := match o.dst with | some d => if keep.testBit d = true then e else e.set d none | none => e) ?_
    cases o.dst with
    | none => exact h
    | some d => simp only; split; exact h; exact h.set d

theorem wanted_sim {sz : Nat → Nat} {ops : Array Oper} {o : Oper} {e : Env} {a : Act} (h : ER β sz e a.tmps) {b : Bool} (hw : wantedA ops o e = some b) : Region.wanted o (yielded ops a.tmps) = b := by
  unfold wantedA at hw
  unfold Region.wanted
  cases hg : o.guard with
  | none => rw [hg] at hw; simp at hw; simpa using hw
  | some gw =>
    obtain ⟨j, want⟩ := gw
    rw [hg] at hw
    simp only at hw ⊢
    cases hd : (ops[j]?).bind (·.dst) with
    | none => simp [hd] at hw
    | some t =>
      simp only [hd] at hw
      cases he : e[t]? with
      | none => simp [he] at hw
      | some q =>
        simp only [he, Option.getD_some] at hw
        cases q with
        | none => simp at hw
        | some v =>
          obtain ⟨u, hu, hr⟩ := h.2 t v he
          cases v <;> simp at hw
          have := hr.bool; subst this
          simp only [yielded, hd, Option.bind_some, hu]
          rename_i b'
          rw [← hw]
          cases b' <;> cases want <;> rfl

/-- what is shown of what is called: the machine's call comes to the evaluator's answer -/
def Sim (P : Program) (c : CallF) : Prop := ∀ (g : FuncId) (args : List Value) (s : St) (v : Value) (s' : St), c g args s = some (v, s') →
  (∃ fn, P.funcs[g]? = some fn ∧ (fn.name == "runtime.NumGoroutine") = false ∧ fn.body.isNone = false) ∧
  ∀ (β : Loc) (w : World) (args' : Array Value), Rel β s w → VL β (szw w) args args'.toList →
    Calls P g args' w fun e w' => ∃ u β', e = .returned u ∧ Step β s w β' s' w' ∧ VR β' (szw w') v u

theorem callee_sim {c : CallF} (hS : Sim P c) (hr : Rel β s w) {o : Oper} {e : Env} {a : Act} (he : ER β (szw w) e a.tmps) {g : FuncId} {args : List Value} (h : calleeOf e o = some (g, args)) {v : Value} {s' : St} (hc : c g args s = some (v, s')) :
    ∃ args', (execOp a.eval o).run P w = .ok (.enter g args') w ∧ VL β (szw w) args args'.toList := by
  unfold calleeOf at h
  split at h
  · rename_i k ho
    split at h
    · rename_i x hx
      split at h
      · rename_i g' first captured l h1 h2
        simp only [Option.some.injEq, Prod.mk.injEq] at h
        obtain ⟨rfl, rfl⟩ := h
        obtain ⟨⟨fn, hf, hn, hb⟩, _⟩ := hS _ _ _ _ _ hc
        obtain ⟨x', y', hu, g1, g2⟩ := (opd_sim he h1).func'
        have g3 := opds_sim he h2
        refine ⟨x' ++ k.args.map a.eval ++ y', ?_, ?_⟩
        · have hn' : ¬ (fn.name = "runtime.NumGoroutine") := by simpa using hn
          have hb' : ¬ (fn.body = none) := by intro h; rw [h] at hb; simp at hb
          simp [execOp, ho, resolve, hx, hu, Deferred.ofValue, invoke, callFunc, hf, hn', hb']
        · simp only [Array.toList_append, Array.toList_map]
          exact (g1.append g3).append g2
      · simp at h
    · simp at h
  · simp at h

/-- one operation, in the machine's own rule -/
theorem oper_wp (hP : goodZeros P = true) {c : CallF} (hS : Sim P c) (hr : Rel β s w) {o : Oper} {e : Env} {a : Act} (he : ER β (szw w) e a.tmps) {v : Value} {s' : St} (h : evalOp P c o e s = some (v, s'))
    {next : Act → World → Prop} {Q : Exit → Act → World → Prop} (hn : ∀ u β' w', Step β s w β' s' w' → VR β' (szw w') v u → next (a.put o.dst u) w') : o.wp P a w next Q := by
  unfold Oper.wp
  cases hc : calleeOf e o with
  | none =>
    rw [evalOp_noCall hc] at h
    obtain ⟨β', w', u, hres, hst, hv⟩ := op_sim hP hr he h
    rcases hres with hres | ⟨hres, rfl⟩
    · rw [hres]; exact hn u β' w' hst hv
    · rw [hres]; exact hn undef β' w' hst hv
  | some q =>
    obtain ⟨g, args⟩ := q
    rw [evalOp_calleeOf hc] at h
    obtain ⟨args', hrun, hargs⟩ := callee_sim hS hr he hc h
    rw [hrun]
    have hcall := (hS _ _ _ _ _ h).2 β w args' hr hargs
    refine hcall.mono ?_
    rintro e' w' ⟨u, β', rfl, hst, hv⟩
    exact hn u β' w' hst hv

theorem ops_sim (hP : goodZeros P = true) {c : CallF} (hS : Sim P c) (ops : Array Oper) {Q : Exit → Act → World → Prop} : ∀ (l : List Oper) (k : Nat) (β : Loc) (s : St) (w : World) (e : Env) (a : Act) (e' : Env) (s' : St), (∀ j, l[j]? = ops[k + j]?) → evalOps P c ops l e s = some (e', s') → Rel β s w → ER β (szw w) e a.tmps →
    (∀ a' w' β', Step β s w β' s' w' → ER β' (szw w') e' a'.tmps → a'.defers = a.defers → Q .normal a' w') → wpOps P ops Q (List.range' k l.length) a w := by
  intro l
  induction l with
  | nil =>
    intro k β s w e a e' s' hl h hr he hQ
    simp only [evalOps, Option.some.injEq, Prod.mk.injEq] at h
    obtain ⟨rfl, rfl⟩ := h
    exact hQ a w β (Step.refl hr) he rfl
  | cons o l ih =>
    intro k β s w e a e' s' hl h hr he hQ
    have ho : ops[k]? = some o := by have := hl 0; simpa using this.symm
    have hl' : ∀ j, l[j]? = ops[k + 1 + j]? := fun j => by have := hl (j + 1); simpa [Nat.add_assoc, Nat.add_comm 1 j] using this
    simp only [List.length_cons, List.range'_succ, wpOps, ho]
    simp only [evalOps] at h
    split at h
    · rename_i hw
      rw [wanted_sim he hw]
      simp only [if_true]
      split at h
      · rename_i v s1 hop
        refine .inl (oper_wp hP hS hr he hop fun u β1 w1 hst hv => ?_)
        refine ih (k + 1) β1 s1 w1 _ (a.put o.dst u) e' s' hl' h hst.rel ((he.mono (hst.locs hr)).put o.dst hv) ?_
        intro a' w' β' hst' he' hd
        refine hQ a' w' β' (Step.trans hr hst hst') he' (hd.trans ?_)
        cases o.dst <;> rfl
      · simp at h
    · rename_i hw
      rw [wanted_sim he hw]
      simp only [Bool.false_eq_true, if_false]
      refine ih (k + 1) β s w _ (a.put o.dst undef) e' s' hl' h hr (he.drop o.dst undef) ?_
      intro a' w' β' hst' he' hd
      refine hQ a' w' β' hst' he' (hd.trans ?_)
      cases o.dst <;> rfl
    · simp at h

/-- a region that draws its order: shown in the text behind this one -/
def DrawSim (P : Program) (c : CallF) (ops : Array Oper) : Prop := ∀ (id : Nat) (β : Loc) (s : St) (w : World) (e : Env) (a : Act) (e' : Env) (s' : St) (Q : Exit → Act → World → Prop), evalDraw P c ops (Region.before ops) ops.toList 0 [] e s = some (e', s') → Rel β s w → ER β (szw w) e a.tmps →
    (∀ a' w' β', Step β s w β' s' w' → ER β' (szw w') e' a'.tmps → a'.defers = a.defers → Q .normal a' w') → (Code.region id ops true).wp P Q a w

def exOf : Ex → Exit
  | .normal => .normal
  | .ret => .ret
  | .exit id => .exit id
/-- every region that draws, in code -/
def drawn : Code → List (Array Oper)
  | .region _ ops true => [ops]
  | .seq a b | .cond _ a b => drawn a ++ drawn b
  | .block _ b | .loop b | .scope b => drawn b
  | _ => []

theorem wp_loop_ev {c : Code} {Q : Exit → Act → World → Prop} (R : Nat → Act → World → Prop) (zero : ∀ a w, ¬ R 0 a w) (round : ∀ m a w, R (m + 1) a w → c.wp P (Exit.then (fun a' w' => R m a' w') Q) a w) : ∀ m a w, R m a w → (Code.loop c).wp P Q a w := by
  intro m a w hR b k cs
  have key : ∀ m a w, R m a w → ∃ e a' w', Q e a' w' ∧ Arrives P (lone (b.at a (.code c :: .inLoop c :: k)) cs w) b k cs e a' w' := by
    intro m
    induction m with
    | zero => intro a w h; exact absurd h (zero a w)
    | succ m ih =>
      intro a w h
      obtain ⟨e, a₁, w₁, hq, harr⟩ := round m a w h b (.inLoop c :: k) cs
      cases e with
      | normal =>
        obtain ⟨e₂, a₂, w₂, hq₂, harr₂⟩ := ih a₁ w₁ hq
        exact ⟨e₂, a₂, w₂, hq₂, .of_steps (Steps.trans harr (.one step_inLoop)) harr₂⟩
      | exit id => exact ⟨_, a₁, w₁, hq, .pass (x := .inLoop c) rfl (fun _ _ => .inl (by simp)) harr⟩
      | goto l => exact ⟨_, a₁, w₁, hq, .pass (x := .inLoop c) rfl (fun _ _ => .inl (by simp)) harr⟩
      | ret => exact ⟨_, a₁, w₁, hq, .pass (x := .inLoop c) rfl (fun _ _ => .inl (by simp)) harr⟩
      | panic ch => exact ⟨_, a₁, w₁, hq, .pass (x := .inLoop c) rfl (fun _ _ => .inl (by simp)) harr⟩
      | outgrown => exact ⟨_, a₁, w₁, hq, .pass (x := .inLoop c) rfl (fun _ _ => .inl (by simp)) harr⟩
  obtain ⟨e, a', w', hq, harr⟩ := key m a w hR
  exact ⟨e, a', w', hq, .of_steps (.one step_loop) harr⟩

theorem code_sim (hP : goodZeros P = true) {c : CallF} (hS : Sim P c) (n keep hold : Nat) : ∀ (k : Code), (∀ ops ∈ drawn k, DrawSim P c ops) → ∀ (β : Loc) (s : St) (w : World) (e : Env) (a : Act) (x : Ex) (e' : Env) (s' : St), evalCode P n c keep hold k e s = some (x, e', s') → Rel β s w → ER β (szw w) e a.tmps →
    k.wp P (fun ex a' w' => ex = exOf x ∧ a'.defers = a.defers ∧ ∃ β', Step β s w β' s' w' ∧ ER β' (szw w') e' a'.tmps) a w := by
  intro k
  induction k with
  | skip =>
    intro _ β s w e a x e' s' h hr he
    simp only [evalCode, Option.some.injEq, Prod.mk.injEq] at h; obtain ⟨rfl, rfl, rfl⟩ := h
    exact wp_skip ⟨rfl, rfl, β, Step.refl hr, he⟩
  | label l =>
    intro _ β s w e a x e' s' h hr he
    simp only [evalCode, Option.some.injEq, Prod.mk.injEq] at h; obtain ⟨rfl, rfl, rfl⟩ := h
    exact wp_label ⟨rfl, rfl, β, Step.refl hr, he⟩
  | ret =>
    intro _ β s w e a x e' s' h hr he
    simp only [evalCode, Option.some.injEq, Prod.mk.injEq] at h; obtain ⟨rfl, rfl, rfl⟩ := h
    exact wp_ret ⟨rfl, rfl, β, Step.refl hr, he⟩
  | exit id =>
    intro _ β s w e a x e' s' h hr he
    simp only [evalCode, Option.some.injEq, Prod.mk.injEq] at h; obtain ⟨rfl, rfl, rfl⟩ := h
    exact wp_exit ⟨rfl, rfl, β, Step.refl hr, he⟩
  | region id ops draw =>
    intro hd β s w e a x e' s' h hr he
    cases draw with
    | false =>
      simp only [evalCode, Option.map_eq_some_iff] at h
      obtain ⟨⟨e1, s1⟩, h1, h2⟩ := h
      simp only [Prod.mk.injEq] at h2; obtain ⟨rfl, rfl, rfl⟩ := h2
      refine wp_region ?_
      have := ops_sim hP hS ops (Q := fun ex a' w' => ex = exOf .normal ∧ a'.defers = a.defers ∧ ∃ β', Step β s w β' s1 w' ∧ ER β' (szw w') (forget keep ops.toList e1) a'.tmps) ops.toList 0 β s w e a e1 s1 (by simp) h1 hr he
        (fun a' w' β' hst he' hdf => ⟨rfl, hdf, β', hst, he'.forget keep ops.toList⟩)
      rwa [List.range_eq_range', ← Array.length_toList]
    | true =>
      simp only [evalCode, Option.map_eq_some_iff] at h
      obtain ⟨⟨e1, s1⟩, h1, h2⟩ := h
      simp only [Prod.mk.injEq] at h2; obtain ⟨rfl, rfl, rfl⟩ := h2
      exact hd ops (by simp [drawn]) id β s w e a e1 s1 _ h1 hr he (fun a' w' β' hst he' hdf => ⟨rfl, hdf, β', hst, he'.forget keep ops.toList⟩)
  | seq p q ihp ihq =>
    intro hd β s w e a x e' s' h hr he
    simp only [evalCode] at h
    refine wp_seq ?_
    cases hp : evalCode P n c keep hold p e s with
    | none => rw [hp] at h; simp at h
    | some r =>
      obtain ⟨y, e1, s1⟩ := r
      rw [hp] at h
      refine wp_mono (ihp (fun ops ho => hd ops (by simp [drawn, ho])) β s w e a y e1 s1 hp hr he) ?_
      rintro ex a1 w1 ⟨rfl, hdf, β1, hst, he1⟩
      cases y with
      | normal =>
        simp only at h
        refine wp_mono (ihq (fun ops ho => hd ops (by simp [drawn, ho])) β1 s1 w1 e1 a1 x e' s' h hst.rel he1) ?_
        rintro ex a2 w2 ⟨rfl, hdf2, β2, hst2, he2⟩
        exact ⟨rfl, hdf2.trans hdf, β2, Step.trans hr hst hst2, he2⟩
      | ret =>
        simp only [Option.some.injEq, Prod.mk.injEq] at h; obtain ⟨rfl, rfl, rfl⟩ := h
        exact ⟨rfl, hdf, β1, hst, he1⟩
      | exit id =>
        simp only [Option.some.injEq, Prod.mk.injEq] at h; obtain ⟨rfl, rfl, rfl⟩ := h
        exact ⟨rfl, hdf, β1, hst, he1⟩
  | cond o p q ihp ihq =>
    intro hd β s w e a x e' s' h hr he
    simp only [evalCode] at h
    have he2 : ER β (szw w) (afterCond hold o e) a.tmps := by
      unfold afterCond
      split
      · split
        · exact he
        · exact he.set _
      · exact he
    split at h
    · rename_i hc
      exact wp_cond_true (opd_sim he hc).bool (ihp (fun ops ho => hd ops (by simp [drawn, ho])) β s w _ a x e' s' h hr he2)
    · rename_i hc
      exact wp_cond_false (opd_sim he hc).bool (ihq (fun ops ho => hd ops (by simp [drawn, ho])) β s w _ a x e' s' h hr he2)
    · simp at h
  | block id p ih =>
    intro hd β s w e a x e' s' h hr he
    simp only [evalCode] at h
    refine wp_block ?_
    cases hp : evalCode P n c keep hold p e s with
    | none => rw [hp] at h; simp at h
    | some r =>
      obtain ⟨y, e1, s1⟩ := r
      rw [hp] at h
      refine wp_mono (ih (fun ops ho => hd ops (by simp [drawn, ho])) β s w e a y e1 s1 hp hr he) ?_
      rintro ex a1 w1 ⟨rfl, hdf, β1, hst, he1⟩
      cases y with
      | normal => simp only [Option.some.injEq, Prod.mk.injEq] at h; obtain ⟨rfl, rfl, rfl⟩ := h; exact ⟨rfl, hdf, β1, hst, he1⟩
      | ret => simp only [Option.some.injEq, Prod.mk.injEq] at h; obtain ⟨rfl, rfl, rfl⟩ := h; exact ⟨rfl, hdf, β1, hst, he1⟩
      | exit i =>
        simp only at h
        simp only [exOf, Exit.inBlock]
        by_cases hi : i = id
        · rw [if_pos hi] at h ⊢
          simp only [Option.some.injEq, Prod.mk.injEq] at h; obtain ⟨rfl, rfl, rfl⟩ := h; exact ⟨rfl, hdf, β1, hst, he1⟩
        · rw [if_neg hi] at h ⊢
          simp only [Option.some.injEq, Prod.mk.injEq] at h; obtain ⟨rfl, rfl, rfl⟩ := h; exact ⟨rfl, hdf, β1, hst, he1⟩
  | loop p ih =>
    intro hd β s w e a x e' s' h hr he
    simp only [evalCode] at h
    refine wp_loop_ev (fun m a1 w1 => ∃ e1 s1 β1, iter (evalCode P n c keep hold p) m e1 s1 = some (x, e', s') ∧ a1.defers = a.defers ∧ Step β s w β1 s1 w1 ∧ ER β1 (szw w1) e1 a1.tmps) ?_ ?_ n a w ⟨e, s, β, h, rfl, Step.refl hr, he⟩
    · rintro a1 w1 ⟨e1, s1, β1, h1, _⟩; simp [iter] at h1
    · rintro m a1 w1 ⟨e1, s1, β1, h1, hdf, hst, he1⟩
      simp only [iter] at h1
      cases hp : evalCode P n c keep hold p e1 s1 with
      | none => rw [hp] at h1; simp at h1
      | some r =>
        obtain ⟨y, e2, s2⟩ := r
        rw [hp] at h1
        refine wp_mono (ih (fun ops ho => hd ops (by simp [drawn, ho])) β1 s1 w1 e1 a1 y e2 s2 hp hst.rel he1) ?_
        rintro ex a2 w2 ⟨rfl, hdf2, β2, hst2, he2⟩
        cases y with
        | normal => exact ⟨e2, s2, β2, h1, hdf2.trans hdf, Step.trans hr hst hst2, he2⟩
        | ret => simp only [Option.some.injEq, Prod.mk.injEq] at h1; obtain ⟨rfl, rfl, rfl⟩ := h1; exact ⟨rfl, hdf2.trans hdf, β2, Step.trans hr hst hst2, he2⟩
        | exit i => simp only [Option.some.injEq, Prod.mk.injEq] at h1; obtain ⟨rfl, rfl, rfl⟩ := h1; exact ⟨rfl, hdf2.trans hdf, β2, Step.trans hr hst hst2, he2⟩
  | rangeFunc f p q r => intro _ β s w e a x e' s' h; simp [evalCode] at h
  | scope b => intro _ β s w e a x e' s' h; simp [evalCode] at h
  | goto l => intro _ β s w e a x e' s' h; simp [evalCode] at h
  | refuse y => intro _ β s w e a x e' s' h; simp [evalCode] at h

/-! ### functions -/
theorem resVals_sim (hr : Rel β s w) {e : Env} {a : Act} (he : ER β (szw w) e a.tmps) : ∀ {rs : List ResultVar} {l : List Value}, resVals P e s rs = some l →
    ∃ l', (rs.mapM (m := Sem) fun | .tmp t => pure (a.tmps.getD t undef) | .cell x t => do loadVar t (← asAddr (a.tmps.getD x undef))).run P w = .ok l' w ∧ VL β (szw w) l l'
  | [], l, h => by simp [resVals] at h; subst h; exact ⟨[], by simp, .nil⟩
  | r :: rs, l, h => by
    simp only [resVals] at h
    split at h
    · rename_i v hv
      cases hl : resVals P e s rs with
      | none => simp [hl] at h
      | some l2 =>
        simp [hl] at h; subst h
        obtain ⟨l', h1, h2⟩ := resVals_sim hr he hl
        have hone : ∃ u, (match r with | .tmp t => pure (a.tmps.getD t undef) | .cell x t => do loadVar t (← asAddr (a.tmps.getD x undef)) : Sem Value).run P w = .ok u w ∧ VR β (szw w) v u := by
          cases r with
          | tmp t =>
            simp only [resVal] at hv
            have := opd_sim (x := .tmp t) he (by simpa [opd] using hv)
            exact ⟨a.tmps.getD t undef, rfl, this⟩
          | cell x t =>
            simp only [resVal] at hv
            split at hv
            · rename_i id off hx
              have hp := opd_sim (x := .tmp x) he (by simpa [opd] using hx)
              obtain ⟨_, b, base, hb, hu⟩ := hp.ptr'
              obtain ⟨u, g1, g2⟩ := load_sim (P := P) hr hv hb
              refine ⟨u, ?_, g2⟩
              simp only [Act.eval] at hu
              simp [hu, asAddr, g1]
            · simp at hv
        obtain ⟨u, g1, g2⟩ := hone
        refine ⟨u :: l', ?_, VL.cons g2 h2⟩
        rw [List.mapM_cons]
        simp only [Sem.run_bind]
        rw [g1]
        simp only [Result.andThen_ok]
        rw [h1]
        rfl
    · simp at h

def DrawOK (P : Program) (c : CallF) : Prop := ∀ (f : FuncId) (fn : Func) (k : Code), P.funcs[f]? = some fn → fn.body = some k → ∀ ops ∈ drawn k, DrawSim P c ops

theorem VR.of_atom {sz : Nat → Nat} {v u : Value} (h : VR β sz v u) (ha : Eng.atom v = true) : u = v := by
  cases h <;> first | rfl | simp [Eng.atom] at ha
theorem VL.of_atoms {sz : Nat → Nat} {l l' : List Value} (h : VL β sz l l') (ha : l.all atom = true) : l' = l := by
  apply List.ext_getElem?
  intro i
  by_cases hi : i < l.length
  · have hi' : i < l'.length := by rw [← h.1]; exact hi
    rw [List.getElem?_eq_getElem hi, List.getElem?_eq_getElem hi', (h.2 i _ _ (List.getElem?_eq_getElem hi) (List.getElem?_eq_getElem hi')).of_atom (List.all_eq_true.1 ha _ (List.getElem_mem hi))]
  · have := h.1
    rw [List.getElem?_eq_none (by omega), List.getElem?_eq_none (by omega)]

/-- a call that answers the same from every world, and turns nothing that stood before -/
structure Pure (P : Program) (g : FuncId) (args : List Value) (v : Value) : Prop where
  fn : ∃ fn, P.funcs[g]? = some fn ∧ (fn.name == "runtime.NumGoroutine") = false ∧ fn.body.isNone = false
  val : atom v = true
  arg : args.all atom = true
  run : ∀ w : World, Calls P g args.toArray w fun e w' => e = .returned v ∧ Go.RowKit.Below w.heap.size w w'
theorem Step.below (hr : Rel β s w) {w' : World} (h : Go.RowKit.Below w.heap.size w w') : Step β s w β s w' := by
  have hsz : ∀ b, b < w.heap.size → szw w' b = szw w b := fun b hb => by unfold szw; rw [h.block b hb]
  have keep : ∀ id b base, β id = some (b, base) → β id = some (b, base) ∧ szw w b = szw w' b := fun id b base e => ⟨e, (hsz b (hr.dom id b base e).2).symm⟩
  exact { rel := ⟨fun id o b base ho hb => (hr.objs id o b base ho hb).mono keep (h.block b (hr.dom id b base hb).2), hr.apart, fun id b base e => ⟨(hr.dom id b base e).1, Nat.lt_of_lt_of_le (hr.dom id b base e).2 h.size⟩, hr.nxt⟩, ext := fun _ _ => rfl, next := Nat.le_refl _, low := Nat.le_refl _, size := h.size, szs := hsz, os := h.os, tape := h.tape, output := h.output, mono := fun _ o' _ h hm => ⟨o', h, hm⟩, frame := fun b hb _ => h.block b hb, fresh := fun id b base hid e => absurd (hr.dom id b base e).1 (by omega), same := fun _ _ _ => rfl, total := fun id h1 h2 => by omega }

theorem func_sim (hP : goodZeros P = true) (M : Masks) (hC : ∀ g args v, M.closed g args = some v → Pure P g args v) (hD : ∀ c, Sim P c → DrawOK P c) (n : Nat) : Sim P (evalF P M n) := by
  induction n with
  | zero => intro g args s v s' h; simp [evalF] at h
  | succ n ih =>
    intro g args s v s' h
    simp only [evalF] at h
    cases hc : M.closed g args with
    | some v0 =>
      simp only [hc, Option.some.injEq, Prod.mk.injEq] at h
      obtain ⟨rfl, rfl⟩ := h
      have hp := hC g args v0 hc
      refine ⟨hp.fn, fun β w args' hr hargs => ?_⟩
      have := hargs.of_atoms hp.arg
      have e : args' = args.toArray := by rw [← this]
      subst e
      exact (hp.run w).mono fun e w' ⟨he, hb⟩ => ⟨v0, β, he, Step.below hr hb, .atom hp.val⟩
    | none =>
    simp only [hc] at h
    cases hf : P.funcs[g]? with
    | none => simp [hf] at h
    | some fn =>
      simp only [hf] at h
      cases hb : fn.body with
      | none => simp [hb] at h
      | some k =>
        simp only [hb] at h
        split at h
        · simp at h
        · rename_i hcond
          simp only [Bool.or_eq_true, decide_eq_true_eq, not_or, Bool.not_eq_true, Nat.not_lt] at hcond
          refine ⟨⟨fn, rfl, hcond.1, by simp [hb]⟩, ?_⟩
          intro β w args' hr hargs
          cases hk : evalCode P n (evalF P M n) (M.keep g) (M.hold g) k (args.map some ++ List.replicate (fn.ntmps - args.length) none) s with
          | none => rw [hk] at h; simp at h
          | some r =>
            obtain ⟨x, e1, s1⟩ := r
            rw [hk] at h
            have hlen : args.length = args'.size := by have := hargs.1; simpa using this
            have he0 : ER β (szw w) (args.map some ++ List.replicate (fn.ntmps - args.length) none) (args' ++ Array.replicate (fn.ntmps - args'.size) undef) := by
              refine ⟨by simp [hlen], fun t u ht => ?_⟩
              by_cases hlt : t < args.length
              · rw [List.getElem?_append_left (by simpa using hlt)] at ht
                simp only [List.getElem?_map] at ht
                cases hq : args[t]? with
                | none => simp [hq] at ht
                | some u0 =>
                  simp [hq] at ht; subst ht
                  have hlt' : t < args'.size := by omega
                  refine ⟨args'[t], by rw [Array.getElem?_append_left hlt', Array.getElem?_eq_getElem hlt'], hargs.2 t u0 _ hq (by simp [hlt'])⟩
              · rw [List.getElem?_append_right (by simp; omega)] at ht
                rw [List.getElem?_replicate] at ht
                split at ht <;> simp at ht
            have hwp := code_sim hP ih n (M.keep g) (M.hold g) k (hD _ ih g fn k hf hb) β s w _ { tmps := args' ++ Array.replicate (fn.ntmps - args'.size) undef, defers := [] } x e1 s1 hk hr he0
            have hres : ∃ l, resVals P e1 s1 fn.results.toList = some l ∧ v = tupled l ∧ s' = s1 ∧ (x = .normal ∨ x = .ret) := by
              cases x with
              | normal =>
                simp only [Option.map_eq_some_iff] at h
                obtain ⟨l, h1, h2⟩ := h
                simp only [Prod.mk.injEq] at h2
                exact ⟨l, h1, h2.1.symm, h2.2.symm, .inl rfl⟩
              | ret =>
                simp only [Option.map_eq_some_iff] at h
                obtain ⟨l, h1, h2⟩ := h
                simp only [Prod.mk.injEq] at h2
                exact ⟨l, h1, h2.1.symm, h2.2.symm, .inr rfl⟩
              | exit i => simp at h
            obtain ⟨l, hl, rfl, rfl, hx⟩ := hres
            refine calls_of_wp hf hb (wp_mono hwp ?_)
            rintro ex a' w' ⟨rfl, hdf, β', hst, he'⟩
            obtain ⟨l', g1, g2⟩ := resVals_sim (P := P) hst.rel he' hl
            have hrun : ∃ u, (results fn a'.tmps).run P w' = .ok u w' ∧ VR β' (szw w') (tupled l) u := by
              have hm : (fn.results.mapM (m := Sem) fun | .tmp t => pure (a'.tmps.getD t undef) | .cell x t => do loadVar t (← asAddr (a'.tmps.getD x undef))).run P w' = .ok l'.toArray w' := by
                rw [Array.mapM_eq_mapM_toList]
                simp only [Sem.run_map]
                rw [g1]
                rfl
              have e0 : (results fn a'.tmps).run P w' = .ok (if h : l'.toArray.size = 1 then l'.toArray[0] else .tuple l'.toArray) w' := by
                unfold results
                simp only [Sem.run_bind]
                exact (congrArg (fun r => Result.andThen r fun vs w => (pure (if h : vs.size = 1 then vs[0] else Value.tuple vs) : Sem Value).run P w) hm).trans rfl
              rw [e0]
              clear e0 hm g1
              match l, l', g2 with
              | [], [], g2 => exact ⟨_, rfl, .tuple rfl (by simp)⟩
              | [v], [u], g2 => exact ⟨u, rfl, g2.2 0 v u rfl rfl⟩
              | v1 :: v2 :: l, u1 :: u2 :: l', g2 => exact ⟨.tuple (u1 :: u2 :: l').toArray, by simp, VR.tupleMk (by simpa using g2)⟩
              | [], u :: _, g2 => exact absurd g2.1 (by simp)
              | v :: _, [], g2 => exact absurd g2.1 (by simp)
              | [v], u1 :: u2 :: _, g2 => exact absurd g2.1 (by simp)
              | v1 :: v2 :: _, [u], g2 => exact absurd g2.1 (by simp)
            obtain ⟨u, hu, hv⟩ := hrun
            rcases hx with rfl | rfl
            · exact ⟨by rw [hdf], u, hu, u, β', rfl, hst, hv⟩
            · exact ⟨by rw [hdf], u, hu, u, β', rfl, hst, hv⟩
end
end Go.Eng
end

section
/- Regions that draw their order: whatever order the machine draws, it comes to what the evaluator finds in the text's order. First part: what an operation looks at; the text's order step by step. -/
set_option linter.unusedVariables false
set_option linter.unusedSimpArgs false
namespace Go.Eng

section
variable {P : Program}

/-! ### 1. what an operation looks at -/
abbrev at_ (e : Env) (t : Tmp) : Option Value := (e[t]?).getD none
theorem opd_congr {e e' : Env} {x : Operand} (h : ∀ t, x = .tmp t → at_ e t = at_ e' t) : opd e x = opd e' x := by
  cases x <;> first | rfl | exact h _ rfl
theorem opds_congr {e e' : Env} : ∀ {xs : List Operand}, (∀ x ∈ xs, opd e x = opd e' x) → opds e xs = opds e' xs
  | [], _ => rfl
  | x :: r, h => by simp only [opds, h x (by simp), opds_congr (xs := r) fun y hy => h y (by simp [hy])]
theorem parts_congr {e e' : Env} : ∀ {xs : List (Nat × Operand)}, (∀ x ∈ xs, opd e x.2 = opd e' x.2) → parts e xs = parts e' xs
  | [], _ => rfl
  | (i, x) :: r, h => by simp only [parts, h (i, x) (by simp), parts_congr (xs := r) fun y hy => h y (by simp [hy])]
theorem opdO_congr {e e' : Env} {x : Option Operand} (h : ∀ y, x = some y → opd e y = opd e' y) : opdO e x = opdO e' x := by
  cases x with
  | none => rfl
  | some y => simp only [opdO, h y rfl]

theorem evalOp_congr {c : CallF} {ops : Array Oper} {o : Oper} {e e' : Env} {s : St} (h : ∀ t ∈ o.looksAt ops, at_ e t = at_ e' t) : evalOp P c o e s = evalOp P c o e' s := by
  have hx : ∀ x ∈ o.op.operands.toList, opd e x = opd e' x := fun x hx => opd_congr fun t ht => h t (by
    subst ht
    exact List.mem_append_left _ (List.mem_filterMap.2 ⟨.tmp t, hx, rfl⟩))
  unfold evalOp
  cases ho : o.op <;> rw [ho] at hx <;> simp only [Op.operands, Call.operands] at hx ⊢
  case build t ps => rw [parts_congr fun x hxm => hx x.2 (List.mem_map.2 ⟨x, hxm, rfl⟩)]
  case buildSlice t n ps => rw [parts_congr fun x hxm => hx x.2 (List.mem_map.2 ⟨x, hxm, rfl⟩)]
  case makeFunc fn a b =>
    cases fn <;> simp only
    rw [opds_congr fun x hxm => hx x (by simp at hxm ⊢; exact .inl hxm), opds_congr fun x hxm => hx x (by simp at hxm ⊢; exact .inr hxm)]
  case slice t x lo hi mx =>
    rw [hx x (by simp), opdO_congr (x := lo) fun y hy => hx y (by subst hy; simp), opdO_congr (x := hi) fun y hy => hx y (by subst hy; simp), opdO_congr (x := mx) fun y hy => hx y (by subst hy; simp)]
  case call k =>
    cases hc : k.callee with
    | value f => rw [hc] at hx; simp only at hx ⊢; rw [hx f (by simp), opds_congr fun x hxm => hx x (by simp at hxm ⊢; exact .inr hxm)]
    | invoke r m => rfl
    | builtin b => rw [hc] at hx; simp only at hx ⊢; rw [opds_congr fun x hxm => hx x (by simpa using hxm)]
  all_goals first
    | rfl
    | (simp at hx; simp only [hx]; done)
theorem wanted_congr {ops : Array Oper} {o : Oper} {e e' : Env} (h : ∀ t ∈ o.looksAt ops, at_ e t = at_ e' t) : wantedA ops o e = wantedA ops o e' := by
  unfold wantedA
  cases hg : o.guard with
  | none => rfl
  | some gw =>
    obtain ⟨j, want⟩ := gw
    simp only
    cases hd : (ops[j]?).bind (·.dst) with
    | none => rfl
    | some t =>
      have := h t (by simp [Oper.looksAt, hg, hd])
      unfold at_ at this
      simp only [this]

/-! ### 2. the text's order, step by step -/
structure Tra where
  E : Nat → Env
  S : Nat → St
  W : Nat → Bool
  V : Nat → Value
  T : Nat → St
def Tra.ok (P : Program) (c : CallF) (ops : Array Oper) (tr : Tra) (k : Nat) : Prop :=
  ∃ o, ops[k]? = some o ∧ wantedA ops o (tr.E k) = some (tr.W k) ∧
    (tr.W k = true → evalOp P c o (tr.E k) { tr.S k with low := (tr.S k).next } = some (tr.V k, tr.T k) ∧ tr.E (k + 1) = put (tr.E k) o.dst (some (tr.V k)) ∧
      tr.S (k + 1) = { tr.T k with low := if still o.op then (tr.S k).low else min (tr.S k).low (tr.T k).low }) ∧
    (tr.W k = false → tr.E (k + 1) = put (tr.E k) o.dst none ∧ tr.S (k + 1) = tr.S k)
/-- performed, and not still -/
def Tra.ns (ops : Array Oper) (tr : Tra) (k : Nat) : Bool := tr.W k && match ops[k]? with | some o => !still o.op | none => false
def Tra.loud (ops : Array Oper) (tr : Tra) (k : Nat) : Bool := tr.ns ops k && decide ((tr.T k).low < (tr.S k).next)

theorem draw_trace {c : CallF} {ops : Array Oper} {b : Array Nat} : ∀ (l : List Oper) (i : Nat) (d : List (Nat × Bool)) (e : Env) (s : St) (e' : Env) (s' : St), (∀ j, l[j]? = ops[i + j]?) → evalDraw P c ops b l i d e s = some (e', s') →
    ∃ tr : Tra, tr.E i = e ∧ tr.S i = s ∧ tr.E (i + l.length) = e' ∧ tr.S (i + l.length) = s' ∧ (∀ k, i ≤ k → k < i + l.length → tr.ok P c ops k) ∧
      (∀ k, i ≤ k → k < i + l.length → tr.ns ops k = true → (∀ x ∈ d, (tr.loud ops k = true ∨ x.2 = true) → (b.getD k 0).testBit x.1 = true) ∧ ∀ j, i ≤ j → j < k → tr.ns ops j = true → (tr.loud ops j = true ∨ tr.loud ops k = true) → (b.getD k 0).testBit j = true) := by
  intro l
  induction l with
  | nil =>
    intro i d e s e' s' hl h
    simp only [evalDraw, Option.some.injEq, Prod.mk.injEq] at h
    obtain ⟨rfl, rfl⟩ := h
    exact ⟨⟨fun _ => e, fun _ => s, fun _ => false, fun _ => undef, fun _ => s⟩, rfl, rfl, rfl, rfl, fun k h1 h2 => by simp at h2; omega, fun k h1 h2 => by simp at h2; omega⟩
  | cons o l ih =>
    intro i d e s e' s' hl h
    have ho : ops[i]? = some o := by have := hl 0; simpa using this.symm
    have hl' : ∀ j, l[j]? = ops[i + 1 + j]? := fun j => by have := hl (j + 1); simpa [Nat.add_assoc, Nat.add_comm 1 j] using this
    have len : i + (o :: l).length = i + 1 + l.length := by simp; omega
    simp only [evalDraw] at h
    -- what is common: a trace from i + 1 on, and the first step
    have build : ∀ (tr : Tra) (wi : Bool) (vi : Value) (ti : St) (d' : List (Nat × Bool)), tr.E (i + 1 + l.length) = e' → tr.S (i + 1 + l.length) = s' → (∀ k, i + 1 ≤ k → k < i + 1 + l.length → tr.ok P c ops k) →
        (∀ k, i + 1 ≤ k → k < i + 1 + l.length → tr.ns ops k = true → (∀ x ∈ d', (tr.loud ops k = true ∨ x.2 = true) → (b.getD k 0).testBit x.1 = true) ∧ ∀ j, i + 1 ≤ j → j < k → tr.ns ops j = true → (tr.loud ops j = true ∨ tr.loud ops k = true) → (b.getD k 0).testBit j = true) →
        wantedA ops o e = some wi →
        (wi = true → evalOp P c o e { s with low := s.next } = some (vi, ti) ∧ tr.E (i + 1) = put e o.dst (some vi) ∧ tr.S (i + 1) = { ti with low := if still o.op then s.low else min s.low ti.low }) →
        (wi = false → tr.E (i + 1) = put e o.dst none ∧ tr.S (i + 1) = s) →
        (∀ x ∈ d, x ∈ d') → (wi = true → still o.op = false → (i, decide (ti.low < s.next)) ∈ d' ∧ ∀ x ∈ d, (decide (ti.low < s.next) = true ∨ x.2 = true) → (b.getD i 0).testBit x.1 = true) →
        ∃ tr : Tra, tr.E i = e ∧ tr.S i = s ∧ tr.E (i + (o :: l).length) = e' ∧ tr.S (i + (o :: l).length) = s' ∧ (∀ k, i ≤ k → k < i + (o :: l).length → tr.ok P c ops k) ∧
          (∀ k, i ≤ k → k < i + (o :: l).length → tr.ns ops k = true → (∀ x ∈ d, (tr.loud ops k = true ∨ x.2 = true) → (b.getD k 0).testBit x.1 = true) ∧ ∀ j, i ≤ j → j < k → tr.ns ops j = true → (tr.loud ops j = true ∨ tr.loud ops k = true) → (b.getD k 0).testBit j = true) := by
      intro tr wi vi ti d' hE hS hok hbar hw h1 h0 hd hns
      let tr' : Tra := ⟨fun k => if k = i then e else tr.E k, fun k => if k = i then s else tr.S k, fun k => if k = i then wi else tr.W k, fun k => if k = i then vi else tr.V k, fun k => if k = i then ti else tr.T k⟩
      have ne : ∀ k, i + 1 ≤ k → tr'.E k = tr.E k ∧ tr'.S k = tr.S k ∧ tr'.W k = tr.W k ∧ tr'.V k = tr.V k ∧ tr'.T k = tr.T k := fun k hk => by
        have : ¬ k = i := by omega
        simp [tr', this]
      have eq : tr'.E i = e ∧ tr'.S i = s ∧ tr'.W i = wi ∧ tr'.V i = vi ∧ tr'.T i = ti := by simp [tr']
      have nsne : ∀ k, i + 1 ≤ k → tr'.ns ops k = tr.ns ops k ∧ tr'.loud ops k = tr.loud ops k := fun k hk => by
        obtain ⟨_, a2, a3, _, a5⟩ := ne k hk
        simp only [Tra.ns, Tra.loud, a2, a3, a5, and_self]
      refine ⟨tr', eq.1, eq.2.1, by rw [len, (ne _ (by omega)).1]; exact hE, by rw [len, (ne _ (by omega)).2.1]; exact hS, ?_, ?_⟩
      · intro k hk1 hk2
        by_cases hk : k = i
        · subst hk
          refine ⟨o, ho, by rw [eq.1, eq.2.2.1]; exact hw, fun hh => ?_, fun hh => ?_⟩
          · rw [eq.2.2.1] at hh
            rw [eq.1, eq.2.1, eq.2.2.2.1, eq.2.2.2.2, (ne _ (Nat.le_refl _)).1, (ne _ (Nat.le_refl _)).2.1]
            exact h1 hh
          · rw [eq.2.2.1] at hh
            rw [eq.1, eq.2.1, (ne _ (Nat.le_refl _)).1, (ne _ (Nat.le_refl _)).2.1]
            exact h0 hh
        · have := hok k (by omega) (by omega)
          obtain ⟨a1, a2, a3, a4, a5⟩ := ne k (by omega)
          obtain ⟨b1, b2, _⟩ := ne (k + 1) (by omega)
          unfold Tra.ok at this ⊢
          rw [a1, a2, a3, a4, a5, b1, b2]; exact this
      · intro k hk1 hk2 hnk
        by_cases hk : k = i
        · subst hk
          refine ⟨?_, fun j h1 h2 => by omega⟩
          intro x hx hor
          have hwt : wi = true ∧ still o.op = false := by
            simp only [Tra.ns, eq.2.2.1, ho, Bool.and_eq_true, Bool.not_eq_true'] at hnk; exact hnk
          have hl : tr'.loud ops k = decide (ti.low < s.next) := by
            simp only [Tra.loud, hnk, Bool.true_and, eq.2.1, eq.2.2.2.2]
          rw [hl] at hor
          exact (hns hwt.1 hwt.2).2 x hx hor
        · obtain ⟨c1, c2⟩ := nsne k (by omega)
          rw [c1] at hnk
          obtain ⟨g1, g2⟩ := hbar k (by omega) (by omega) hnk
          refine ⟨fun x hx => by rw [c2]; exact g1 x (hd x hx), ?_⟩
          intro j hj1 hj2 hnj hor
          by_cases hj : j = i
          · subst hj
            have hwt : wi = true ∧ still o.op = false := by
              simp only [Tra.ns, eq.2.2.1, ho, Bool.and_eq_true, Bool.not_eq_true'] at hnj; exact hnj
            have hlj : tr'.loud ops j = decide (ti.low < s.next) := by
              simp only [Tra.loud, hnj, Bool.true_and, eq.2.1, eq.2.2.2.2]
            rw [hlj, c2] at hor
            exact g1 _ (hns hwt.1 hwt.2).1 hor.symm
          · obtain ⟨d1, d2⟩ := nsne j (by omega)
            rw [d1] at hnj
            rw [d2, c2] at hor
            exact g2 j (by omega) hj2 hnj hor
    split at h
    · rename_i hw
      split at h
      · rename_i v s1 hop
        split at h
        · rename_i hst
          obtain ⟨tr, t1, t2, t3, t4, t5, t6⟩ := ih (i + 1) d _ _ e' s' hl' h
          exact build tr true v s1 d t3 t4 t5 t6 hw (fun _ => ⟨hop, t1, by rw [t2, if_pos hst]⟩) (fun h => by simp at h) (fun _ hx => hx) (fun _ hns => by rw [hst] at hns; simp at hns)
        · rename_i hst
          split at h
          · rename_i hall
            obtain ⟨tr, t1, t2, t3, t4, t5, t6⟩ := ih (i + 1) ((i, decide (s1.low < s.next)) :: d) _ _ e' s' hl' h
            refine build tr true v s1 ((i, decide (s1.low < s.next)) :: d) t3 t4 t5 t6 hw (fun _ => ⟨hop, t1, by rw [t2, if_neg hst]⟩) (fun h => by simp at h) (fun _ hx => List.mem_cons_of_mem _ hx) (fun _ _ => ⟨by simp, ?_⟩)
            intro x hx hor
            have := List.all_eq_true.1 hall x hx
            simp only [Bool.or_eq_true, Bool.not_eq_true', Bool.or_eq_false_iff] at this
            rcases this with ⟨g1, g2⟩ | g
            · rcases hor with hor | hor
              · rw [g1] at hor; simp at hor
              · rw [g2] at hor; simp at hor
            · exact g
          · simp at h
      · simp at h
    · rename_i hw
      obtain ⟨tr, t1, t2, t3, t4, t5, t6⟩ := ih (i + 1) d _ _ e' s' hl' h
      exact build tr false undef s d t3 t4 t5 t6 hw (fun h => by simp at h) (fun _ => ⟨t1, t2⟩) (fun _ hx => hx) (fun h => by simp at h)
    · simp at h
end
end Go.Eng
end

section
/- Regions that draw their order, second part: the text's order run beside the machine's; slots and rows in any order. -/
set_option linter.unusedVariables false
set_option linter.unusedSimpArgs false
namespace Go.Eng

section
variable {P : Program}

/-! ### 1. fewer numbers -/
def res (β : Loc) (N : Nat) : Loc := fun id => if id < N then β id else none
theorem res_some {β : Loc} {N id : Nat} {p : Nat × Nat} (h : res β N id = some p) : id < N ∧ β id = some p := by
  unfold res at h; split at h
  · rename_i hl; exact ⟨hl, h⟩
  · simp at h
theorem res_of {β : Loc} {N id : Nat} (h : id < N) : res β N id = β id := by unfold res; rw [if_pos h]

theorem VR.restrict {β γ : Loc} {sz sz' : Nat → Nat} {N : Nat} (hγ : ∀ id p, γ id = some p → id < N) {v u : Value} (r : VR β sz v u) : ∀ {u' : Value}, VR γ sz' v u' → VR (res β N) sz v u := by
  induction r with
  | atom h => intro u' _; exact .atom h
  | ptr h =>
    intro u' r'
    obtain ⟨_, b', base', h', _⟩ := r'.ptr'
    exact .ptr (by rw [res_of (hγ _ _ h')]; exact h)
  | slice h ho hn hx hz =>
    intro u' r'
    obtain ⟨_, _, _, _, _, _, _, h', _⟩ := r'.slice'
    exact .slice (by rw [res_of (hγ _ _ h')]; exact h) ho hn hx hz
  | map h =>
    intro u' r'
    obtain ⟨_, h', _⟩ := r'.mapSome
    exact .map (by rw [res_of (hγ _ _ h')]; exact h)
  | func hx hy hx' hy' ihx ihy =>
    intro u' r'
    obtain ⟨x2, y2, _, g1, g2⟩ := r'.func'
    refine .func hx hy (fun i v1 v2 h1 h2 => ?_) (fun i v1 v2 h1 h2 => ?_)
    · have hlt : i < x2.toList.length := by rw [← g1.1]; simpa using (Array.getElem?_eq_some_iff.1 h1).1
      exact ihx i v1 v2 h1 h2 (g1.2 i v1 _ (by simpa using h1) (List.getElem?_eq_getElem hlt))
    · have hlt : i < y2.toList.length := by rw [← g2.1]; simpa using (Array.getElem?_eq_some_iff.1 h1).1
      exact ihy i v1 v2 h1 h2 (g2.2 i v1 _ (by simpa using h1) (List.getElem?_eq_getElem hlt))
  | agg hx hx' ih =>
    intro u' r'
    obtain ⟨x2, _, g1⟩ := r'.agg'
    refine .agg hx (fun i v1 v2 h1 h2 => ?_)
    have hlt : i < x2.toList.length := by rw [← g1.1]; simpa using (Array.getElem?_eq_some_iff.1 h1).1
    exact ih i v1 v2 h1 h2 (g1.2 i v1 _ (by simpa using h1) (List.getElem?_eq_getElem hlt))
  | tuple hx hx' ih =>
    intro u' r'
    obtain ⟨x2, _, g1⟩ := r'.tuple'
    refine .tuple hx (fun i v1 v2 h1 h2 => ?_)
    have hlt : i < x2.toList.length := by rw [← g1.1]; simpa using (Array.getElem?_eq_some_iff.1 h1).1
    exact ih i v1 v2 h1 h2 (g1.2 i v1 _ (by simpa using h1) (List.getElem?_eq_getElem hlt))
theorem VL.restrict {β γ : Loc} {sz sz' : Nat → Nat} {N : Nat} (hγ : ∀ id p, γ id = some p → id < N) {l l' l2 : List Value} (r : VL β sz l l') (r' : VL γ sz' l l2) : VL (res β N) sz l l' := by
  refine ⟨r.1, fun i v u h1 h2 => ?_⟩
  have hlt : i < l2.length := by rw [← r'.1]; exact (List.getElem?_eq_some_iff.1 h1).1
  exact (r.2 i v u h1 h2).restrict hγ (r'.2 i v _ h1 (List.getElem?_eq_getElem hlt))
theorem ObjR.restrict {β γ : Loc} {w w' : World} {N : Nat} (hγ : ∀ id p, γ id = some p → id < N) {b base b' base' : Nat} {o : AObj} (r : ObjR β w b base o) (r' : ObjR γ w' b' base' o) : ObjR (res β N) w b base o := by
  cases o with
  | cells c own =>
    obtain ⟨C, e, fz, h1, h2, h3, h4⟩ := r
    obtain ⟨_, _, _, _, _, h3', _⟩ := r'
    exact ⟨C, e, fz, h1, h2, h3.restrict hγ h3', h4⟩
  | map es =>
    obtain ⟨h0, E, cl, h1, h2, h3⟩ := r
    obtain ⟨_, E', _, _, h2', h3'⟩ := r'
    refine ⟨h0, E, cl, h1, h2, fun i k v m a d => ?_⟩
    obtain ⟨x, y, z⟩ := h3 i k v m a d
    have hlt : i < E'.size := by rw [h2']; exact (List.getElem?_eq_some_iff.1 a).1
    obtain ⟨_, _, z'⟩ := h3' i k v E'[i] a (Array.getElem?_eq_getElem hlt)
    exact ⟨x, y, z.restrict hγ z'⟩
  | dead => exact True.intro

/-! ### 2. the text's order run beside -/
theorem exec_one (hP : goodZeros P = true) {c : CallF} (hS : Sim P c) {β : Loc} {s : St} {w : World} (hr : Rel β s w) {o : Oper} {e : Env} {a : Act} (he : ER β (szw w) e a.tmps) {v : Value} {s' : St} (h : evalOp P c o e s = some (v, s')) :
    ∃ u β' w', Step β s w β' s' w' ∧ VR β' (szw w') v u := by
  cases hc : calleeOf e o with
  | none =>
    rw [evalOp_noCall hc] at h
    obtain ⟨β', w', u, _, hst, hv⟩ := op_sim hP hr he h
    exact ⟨u, β', w', hst, hv⟩
  | some q =>
    obtain ⟨g, args⟩ := q
    rw [evalOp_calleeOf hc] at h
    obtain ⟨args', _, hargs⟩ := callee_sim hS hr he hc h
    obtain ⟨_, w', _, ⟨u, β', _, hst, hv⟩, _⟩ := (hS _ _ _ _ _ h).2 β w args' hr hargs []
    exact ⟨u, β', w', hst, hv⟩

structure Facts (tr : Tra) (j : Nat) : Prop where
  next : (tr.S j).next ≤ (tr.S (j + 1)).next
  same : ∀ id, id < (tr.S j).next → (tr.W j = true → id < (tr.T j).low) → (tr.S (j + 1)).heap.get id = (tr.S j).heap.get id
  mono : ∀ id o', id < (tr.S j).next → (tr.S (j + 1)).heap.get id = some o' → o'.mine = true → ∃ o, (tr.S j).heap.get id = some o ∧ o.mine = true
  low : (tr.S (j + 1)).low ≤ (tr.S j).low
  still : tr.W j = false → tr.S (j + 1) = tr.S j
structure Beside (tr : Tra) (β0 : Loc) (k : Nat) (β : Loc) (w : World) (a : Act) : Prop where
  rel : Rel β (tr.S k) w
  env : ER β (szw w) (tr.E k) a.tmps
  ext : ∀ id, id < (tr.S 0).next → β id = β0 id
  total : ∀ id, (tr.S 0).next ≤ id → id < (tr.S k).next → ∃ p, β id = some p

theorem Rel.low {β : Loc} {s : St} {w : World} (h : Rel β s w) (l : Nat) : Rel β { s with low := l } w := ⟨h.objs, h.apart, h.dom, h.nxt⟩
theorem Rel.of_low {β : Loc} {s t : St} {w : World} (h : Rel β s w) (h1 : t.heap = s.heap) (h2 : t.next = s.next) : Rel β t w := by
  obtain ⟨a, b, c⟩ := t
  simp only at h1 h2
  subst h1; subst h2
  exact ⟨h.objs, h.apart, h.dom, h.nxt⟩

theorem beside (hP : goodZeros P = true) {c : CallF} (hS : Sim P c) {ops : Array Oper} {tr : Tra} {n : Nat} (hok : ∀ k, k < n → tr.ok P c ops k) {β0 : Loc} {w0 : World} {a0 : Act} (hr0 : Rel β0 (tr.S 0) w0) (he0 : ER β0 (szw w0) (tr.E 0) a0.tmps) :
    ∀ k, k ≤ n → (∃ β w a, Beside tr β0 k β w a) ∧ ∀ j, j < k → Facts tr j := by
  intro k
  induction k with
  | zero => exact fun _ => ⟨⟨β0, w0, a0, hr0, he0, fun _ _ => rfl, fun id h1 h2 => by omega⟩, fun j hj => by omega⟩
  | succ k ih =>
    intro hk
    obtain ⟨⟨β, w, a, hb⟩, hf⟩ := ih (by omega)
    obtain ⟨o, ho, hw, h1, h0⟩ := hok k (by omega)
    have hn0 : ∀ j, j ≤ k → (tr.S 0).next ≤ (tr.S j).next := by
      intro j hj
      induction j with
      | zero => exact Nat.le_refl _
      | succ j ihj => exact Nat.le_trans (ihj (by omega)) (hf j (by omega)).next
    cases hwk : tr.W k with
    | false =>
      obtain ⟨g1, g2⟩ := h0 hwk
      refine ⟨⟨β, w, a.put o.dst undef, ?_, ?_, hb.ext, ?_⟩, ?_⟩
      · rw [g2]; exact hb.rel
      · rw [g1]; exact hb.env.drop o.dst undef
      · rw [g2]; exact hb.total
      · intro j hj
        by_cases hjk : j < k
        · exact hf j hjk
        · have : j = k := by omega
          subst this
          exact ⟨by rw [g2]; exact Nat.le_refl _, fun id _ _ => by rw [g2], fun id o' _ h hm => by rw [g2] at h; exact ⟨o', h, hm⟩, by rw [g2]; exact Nat.le_refl _, fun _ => g2⟩
    | true =>
      obtain ⟨g1, g2, g3⟩ := h1 hwk
      obtain ⟨u, β', w', hst, hv⟩ := exec_one hP hS (hb.rel.low (tr.S k).next) hb.env g1
      have hS1 : (tr.S (k + 1)).heap = (tr.T k).heap ∧ (tr.S (k + 1)).next = (tr.T k).next := by rw [g3]; exact ⟨rfl, rfl⟩
      have hn : (tr.S k).next ≤ (tr.T k).next := hst.next
      refine ⟨⟨β', w', a.put o.dst u, hst.rel.of_low hS1.1 hS1.2, ?_, ?_, ?_⟩, ?_⟩
      · rw [g2]; exact (hb.env.mono (hst.locs (hb.rel.low _))).put o.dst hv
      · intro id hid
        have := hn0 k (Nat.le_refl _)
        exact (hst.ext id (show id < (tr.S k).next by omega)).trans (hb.ext id hid)
      · intro id hid1 hid2
        rw [hS1.2] at hid2
        by_cases hlt : id < (tr.S k).next
        · obtain ⟨p, hp⟩ := hb.total id hid1 hlt
          exact ⟨p, (hst.ext id hlt).trans hp⟩
        · exact hst.total id (show (tr.S k).next ≤ id by omega) hid2
      · intro j hj
        by_cases hjk : j < k
        · exact hf j hjk
        · have : j = k := by omega
          subst this
          refine ⟨by rw [hS1.2]; exact hn, ?_, ?_, ?_, fun h => by rw [hwk] at h; simp at h⟩
          · intro id hid hl
            rw [hS1.1]
            exact hst.same id hid (hl hwk)
          · intro id o' hid h hm
            rw [hS1.1] at h
            exact hst.mono id o' hid h hm
          · rw [g3]; simp only; split
            · exact Nat.le_refl _
            · exact Nat.min_le_left _ _

/-! ### 3. slots, in any order -/
def dstOf (ops : Array Oper) (k : Nat) : Option Tmp := (ops[k]?).bind (·.dst)
def Tra.val (tr : Tra) (k : Nat) : Option Value := if tr.W k then some (tr.V k) else none
def eu (ops : Array Oper) (tr : Tra) (L : Nat → Bool) : Nat → Env
  | 0 => tr.E 0
  | k + 1 => if L k then put (eu ops tr L k) (dstOf ops k) (tr.val k) else eu ops tr L k
def add (L : Nat → Bool) (i : Nat) : Nat → Bool := fun k => if k = i then true else L k

theorem length_put (e : Env) (d : Option Tmp) (v : Option Value) : (put e d v).length = e.length := by cases d <;> simp [put]
theorem length_eu (ops : Array Oper) (tr : Tra) (L : Nat → Bool) (k : Nat) : (eu ops tr L k).length = (tr.E 0).length := by
  induction k with
  | zero => rfl
  | succ k ih => simp only [eu]; split <;> simp [length_put, ih]
theorem put_at (e : Env) (d : Option Tmp) (v : Option Value) (t : Nat) : (put e d v)[t]? = if d = some t ∧ t < e.length then some v else e[t]? := by
  cases d with
  | none => simp [put]
  | some d =>
    simp only [put, List.getElem?_set, Option.some.injEq]
    by_cases h : d = t
    · subst h
      by_cases hl : d < e.length
      · simp [hl]
      · simp [hl]
    · simp [h]
theorem E_succ {c : CallF} {ops : Array Oper} {tr : Tra} {k : Nat} (h : tr.ok P c ops k) : tr.E (k + 1) = put (tr.E k) (dstOf ops k) (tr.val k) := by
  obtain ⟨o, ho, _, h1, h0⟩ := h
  unfold dstOf Tra.val
  rw [ho]
  cases hw : tr.W k with
  | true => simp only [Option.bind_some, if_true]; exact (h1 hw).2.1
  | false => simp only [Option.bind_some, Bool.false_eq_true, if_false]; exact (h0 hw).1
theorem eu_all {c : CallF} {ops : Array Oper} {tr : Tra} {n : Nat} (hok : ∀ k, k < n → tr.ok P c ops k) {L : Nat → Bool} (hL : ∀ k, k < n → L k = true) : ∀ k, k ≤ n → eu ops tr L k = tr.E k := by
  intro k
  induction k with
  | zero => intro _; rfl
  | succ k ih => intro hk; simp only [eu, hL k (by omega), if_true]; rw [ih (by omega), E_succ (hok k (by omega))]
theorem length_E {c : CallF} {ops : Array Oper} {tr : Tra} {n : Nat} (hok : ∀ k, k < n → tr.ok P c ops k) : ∀ k, k ≤ n → (tr.E k).length = (tr.E 0).length := by
  intro k
  induction k with
  | zero => intro _; rfl
  | succ k ih => intro hk; rw [E_succ (hok k (by omega)), length_put, ih (by omega)]

theorem eu_reads {c : CallF} {ops : Array Oper} {tr : Tra} {n : Nat} (hok : ∀ k, k < n → tr.ok P c ops k) {L : Nat → Bool} {i t : Nat} (hi : i ≤ n) (h1 : ∀ j, j < i → dstOf ops j = some t → L j = true) (h2 : ∀ j, i ≤ j → j < n → dstOf ops j = some t → L j = false) :
    (eu ops tr L n)[t]? = (tr.E i)[t]? := by
  have A : ∀ k, k ≤ i → (eu ops tr L k)[t]? = (tr.E k)[t]? := by
    intro k
    induction k with
    | zero => intro _; rfl
    | succ k ih =>
      intro hk
      have ihk := ih (by omega)
      rw [E_succ (hok k (by omega)), put_at, length_E hok k (by omega)]
      simp only [eu]
      cases hL : L k with
      | true => simp only [if_true]; rw [put_at, length_eu, ihk]
      | false =>
        simp only [Bool.false_eq_true, if_false]
        rw [ihk, if_neg]
        rintro ⟨hd, _⟩
        rw [h1 k (by omega) hd] at hL
        simp at hL
  have B : ∀ k, i + k ≤ n → (eu ops tr L (i + k))[t]? = (tr.E i)[t]? := by
    intro k
    induction k with
    | zero => intro _; exact A i (Nat.le_refl _)
    | succ k ih =>
      intro hk
      have ihk := ih (by omega)
      rw [← Nat.add_assoc]
      simp only [eu]
      cases hL : L (i + k) with
      | false => simp only [Bool.false_eq_true, if_false]; exact ihk
      | true =>
        simp only [if_true]
        rw [put_at, if_neg, ihk]
        rintro ⟨hd, _⟩
        rw [h2 (i + k) (by omega) (by omega) hd] at hL
        simp at hL
  have := B (n - i) (by omega)
  rwa [show i + (n - i) = n by omega] at this
theorem put_comm {e : Env} {d1 d2 : Option Tmp} {v1 v2 : Option Value} (h : ∀ t, d1 = some t → d2 ≠ some t) : put (put e d1 v1) d2 v2 = put (put e d2 v2) d1 v1 := by
  apply List.ext_getElem?
  intro t
  simp only [put_at, length_put]
  by_cases h1 : d1 = some t
  · have := h t h1
    simp [h1, this]
  · simp [h1]
theorem eu_add {ops : Array Oper} {tr : Tra} {n : Nat} {L : Nat → Bool} {i : Nat} (hi : i < n) (hL : L i = false) (h : ∀ j, i < j → j < n → L j = true → ∀ t, dstOf ops i = some t → dstOf ops j ≠ some t) :
    eu ops tr (add L i) n = put (eu ops tr L n) (dstOf ops i) (tr.val i) := by
  have A : ∀ k, k ≤ i → eu ops tr (add L i) k = eu ops tr L k := by
    intro k
    induction k with
    | zero => intro _; rfl
    | succ k ih =>
      intro hk
      have hne : add L i k = L k := by unfold add; rw [if_neg (by omega)]
      simp only [eu, hne]
      rw [ih (by omega)]
  have B : ∀ k, i + 1 + k ≤ n → eu ops tr (add L i) (i + 1 + k) = put (eu ops tr L (i + 1 + k)) (dstOf ops i) (tr.val i) := by
    intro k
    induction k with
    | zero =>
      intro _
      have hii : add L i i = true := by unfold add; rw [if_pos rfl]
      simp only [Nat.add_zero, eu, hii, if_true, hL, Bool.false_eq_true, if_false]
      rw [← A i (Nat.le_refl _)]
    | succ k ih =>
      intro hk
      rw [← Nat.add_assoc]
      simp only [eu]
      rw [ih (by omega)]
      have hne : add L i (i + 1 + k) = L (i + 1 + k) := by unfold add; rw [if_neg (by omega)]
      rw [hne]
      cases hLk : L (i + 1 + k) with
      | false => simp
      | true =>
        simp only [if_true]
        exact put_comm fun t ht => h (i + 1 + k) (by omega) (by omega) hLk t ht
  have := B (n - (i + 1)) (by omega)
  rwa [show i + 1 + (n - (i + 1)) = n by omega] at this
end
end Go.Eng
end

section
/- Regions that draw their order, third part: one operation more, in whatever order. -/
set_option linter.unusedVariables false
set_option linter.unusedSimpArgs false
namespace Go.Eng

section
variable {P : Program}

/-- what holds when the operations of L have been performed, in some order; the first loud one that hasn't is m -/
structure Inv (ops : Array Oper) (tr : Tra) (β0 : Loc) (w0 : World) (a0 : Act) (L : Nat → Bool) (m : Nat) (β : Loc) (a : Act) (w : World) : Prop where
  mle : m ≤ ops.size
  before : ∀ i, i < m → tr.loud ops i = true → L i = true
  after : ∀ i, m ≤ i → i < ops.size → tr.ns ops i = true → L i = false
  at_m : m = ops.size ∨ tr.loud ops m = true
  rel : Rel β (tr.S m) w
  ext : ∀ id, id < (tr.S 0).next → β id = β0 id
  size : w0.heap.size ≤ w.heap.size
  szs : ∀ b, b < w0.heap.size → szw w b = szw w0 b
  os : w.os = w0.os
  tape : w.tape = w0.tape
  output : w.output = w0.output
  frame : ∀ b, b < w0.heap.size → (∀ id base o, β0 id = some (b, base) → (tr.S 0).heap.get id = some o → o.mine = true → id < (tr.S m).low) → w.heap[b]? = w0.heap[b]?
  fresh : ∀ id b base, (tr.S 0).next ≤ id → β id = some (b, base) → w0.heap.size ≤ b ∨ ∃ i o bi, i < (tr.S 0).next ∧ β0 i = some (b, bi) ∧ (tr.S 0).heap.get i = some o ∧ o.mine = true ∧ (tr.S m).low ≤ i
  d1 : ∀ id p, (tr.S 0).next ≤ id → β id = some p → ∃ j, j < m ∧ L j = true ∧ tr.ns ops j = true ∧ (tr.S j).next ≤ id ∧ id < (tr.S (j + 1)).next
  d2 : ∀ j, j < ops.size → L j = true → tr.ns ops j = true → ∀ id, (tr.S j).next ≤ id → id < (tr.S (j + 1)).next → ∃ p, β id = some p
  env : ER β (szw w) (eu ops tr L ops.size) a.tmps
  dfr : a.defers = a0.defers

section facts
variable {tr : Tra} {n : Nat} (hf : ∀ j, j < n → Facts tr j)
theorem next_mono {tr : Tra} {n : Nat} (hf : ∀ j, j < n → Facts tr j) {i k : Nat} (h : i ≤ k) (hk : k ≤ n) : (tr.S i).next ≤ (tr.S k).next := by
  induction k with
  | zero => have : i = 0 := by omega
            subst this; exact Nat.le_refl _
  | succ k ih =>
    by_cases e : i = k + 1
    · subst e; exact Nat.le_refl _
    · exact Nat.le_trans (ih (by omega) (by omega)) (hf k (by omega)).next
theorem low_mono {tr : Tra} {n : Nat} (hf : ∀ j, j < n → Facts tr j) {i k : Nat} (h : i ≤ k) (hk : k ≤ n) : (tr.S k).low ≤ (tr.S i).low := by
  induction k with
  | zero => have : i = 0 := by omega
            subst this; exact Nat.le_refl _
  | succ k ih =>
    by_cases e : i = k + 1
    · subst e; exact Nat.le_refl _
    · exact Nat.le_trans (hf k (by omega)).low (ih (by omega) (by omega))
/-- what isn't loud leaves the older objects alone -/
theorem quiet_same {c : CallF} {ops : Array Oper} {tr : Tra} (hok : ∀ k, k < ops.size → tr.ok P c ops k) (hf : ∀ j, j < ops.size → Facts tr j) {j : Nat} (hj : j < ops.size) (hq : tr.loud ops j = false) : ∀ id, id < (tr.S j).next → (tr.S (j + 1)).heap.get id = (tr.S j).heap.get id := by
  intro id hid
  refine (hf j hj).same id hid fun hw => ?_
  obtain ⟨o, ho, _, h1, _⟩ := hok j hj
  cases hs : still o.op with
  | true =>
    have := (still_same hs (h1 hw).1).1
    rw [this]; exact hid
  | false =>
    have hns : tr.ns ops j = true := by simp [Tra.ns, hw, ho, hs]
    simp only [Tra.loud, hns, Bool.true_and, decide_eq_false_iff_not] at hq
    omega
theorem quiet_range {c : CallF} {ops : Array Oper} {tr : Tra} (hok : ∀ k, k < ops.size → tr.ok P c ops k) (hf : ∀ j, j < ops.size → Facts tr j) {i k : Nat} (hik : i ≤ k) (hk : k ≤ ops.size) (hq : ∀ j, i ≤ j → j < k → tr.loud ops j = false) : ∀ id, id < (tr.S i).next → (tr.S k).heap.get id = (tr.S i).heap.get id := by
  induction k with
  | zero => intro id _; have : i = 0 := by omega
            subst this; rfl
  | succ k ih =>
    intro id hid
    by_cases e : i = k + 1
    · subst e; rfl
    · rw [quiet_same hok hf (by omega) (hq k (by omega) (by omega)) id (Nat.lt_of_lt_of_le hid (next_mono hf (show i ≤ k by omega) (by omega)))]
      exact ih (by omega) (by omega) (fun j h1 h2 => hq j h1 (by omega)) id hid
theorem mono_range {tr : Tra} {n : Nat} (hf : ∀ j, j < n → Facts tr j) : ∀ k, k ≤ n → ∀ id o, id < (tr.S 0).next → (tr.S k).heap.get id = some o → o.mine = true → ∃ o0, (tr.S 0).heap.get id = some o0 ∧ o0.mine = true := by
  intro k
  induction k with
  | zero => intro _ id o _ h hm; exact ⟨o, h, hm⟩
  | succ k ih =>
    intro hk id o hid h hm
    obtain ⟨o1, h1, hm1⟩ := (hf k (by omega)).mono id o (Nat.lt_of_lt_of_le hid (next_mono hf (Nat.zero_le k) (by omega))) h hm
    exact ih (by omega) id o1 hid h1 hm1
/-- what isn't performed for memory makes no number -/
theorem notns_next {c : CallF} {ops : Array Oper} {tr : Tra} (hok : ∀ k, k < ops.size → tr.ok P c ops k) {j : Nat} (hj : j < ops.size) (h : tr.ns ops j = false) : (tr.S (j + 1)).next = (tr.S j).next ∧ (tr.S (j + 1)).heap = (tr.S j).heap := by
  obtain ⟨o, ho, _, h1, h0⟩ := hok j hj
  cases hw : tr.W j with
  | false => rw [(h0 hw).2]; exact ⟨rfl, rfl⟩
  | true =>
    have hs : still o.op = true := by simpa [Tra.ns, hw, ho] using h
    have := (still_same hs (h1 hw).1).1
    rw [(h1 hw).2.2, this]; exact ⟨rfl, rfl⟩
end facts

/-- the mark moves on over operations that aren't loud and, if they make anything, haven't been performed -/
theorem Inv.advance {c : CallF} {ops : Array Oper} {tr : Tra} (hok : ∀ k, k < ops.size → tr.ok P c ops k) (hf : ∀ j, j < ops.size → Facts tr j) (hdom : ∀ k, k ≤ ops.size → ∀ id o, (tr.S k).heap.get id = some o → id < (tr.S k).next)
    {β0 : Loc} {w0 : World} {a0 : Act} {L : Nat → Bool} {m m' : Nat} {β : Loc} {a : Act} {w : World} (hm : m ≤ m') (hm' : m' ≤ ops.size) (hq : ∀ j, m ≤ j → j < m' → tr.loud ops j = false) (hL : ∀ j, m ≤ j → j < ops.size → tr.ns ops j = true → L j = false) (hat : m' = ops.size ∨ tr.loud ops m' = true)
    (before : ∀ i, i < m → tr.loud ops i = true → L i = true)
    (rel : Rel β (tr.S m) w) (ext : ∀ id, id < (tr.S 0).next → β id = β0 id) (size : w0.heap.size ≤ w.heap.size) (szs : ∀ b, b < w0.heap.size → szw w b = szw w0 b) (os : w.os = w0.os) (tape : w.tape = w0.tape) (output : w.output = w0.output)
    (frame : ∀ b, b < w0.heap.size → (∀ id base o, β0 id = some (b, base) → (tr.S 0).heap.get id = some o → o.mine = true → id < (tr.S m).low) → w.heap[b]? = w0.heap[b]?)
    (fresh : ∀ id b base, (tr.S 0).next ≤ id → β id = some (b, base) → w0.heap.size ≤ b ∨ ∃ i o bi, i < (tr.S 0).next ∧ β0 i = some (b, bi) ∧ (tr.S 0).heap.get i = some o ∧ o.mine = true ∧ (tr.S m).low ≤ i)
    (d1 : ∀ id p, (tr.S 0).next ≤ id → β id = some p → ∃ j, j < m ∧ L j = true ∧ tr.ns ops j = true ∧ (tr.S j).next ≤ id ∧ id < (tr.S (j + 1)).next)
    (d2 : ∀ j, j < ops.size → L j = true → tr.ns ops j = true → ∀ id, (tr.S j).next ≤ id → id < (tr.S (j + 1)).next → ∃ p, β id = some p)
    (env : ER β (szw w) (eu ops tr L ops.size) a.tmps) (dfr : a.defers = a0.defers) : Inv ops tr β0 w0 a0 L m' β a w where
  mle := hm'
  before := fun i hi hl => by
    by_cases h : i < m
    · exact before i h hl
    · rw [hq i (by omega) hi] at hl; simp at hl
  after := fun i h1 h2 h3 => hL i (by omega) h2 h3
  at_m := hat
  rel := by
    have hs := quiet_range hok hf hm hm' hq
    have hn := next_mono hf hm hm'
    refine ⟨fun id o b base ho hb => ?_, fun i j oi oj b bi bj hi hj hmi hlj hbi hbj => ?_, fun id b base hb => ?_, hdom m' hm'⟩
    · rw [hs id (rel.dom id b base hb).1] at ho
      exact rel.objs id o b base ho hb
    · rw [hs i (rel.dom i b bi hbi).1] at hi
      rw [hs j (rel.dom j b bj hbj).1] at hj
      exact rel.apart i j oi oj b bi bj hi hj hmi hlj hbi hbj
    · have := rel.dom id b base hb
      exact ⟨by omega, this.2⟩
  ext := ext
  size := size
  szs := szs
  os := os
  tape := tape
  output := output
  frame := fun b hb h => frame b hb fun id base o a1 a2 a3 => Nat.lt_of_lt_of_le (h id base o a1 a2 a3) (low_mono hf hm hm')
  fresh := fun id b base h1 h2 => by
    rcases fresh id b base h1 h2 with h | ⟨i, o, bi, g1, g2, g3, g4, g5⟩
    · exact .inl h
    · exact .inr ⟨i, o, bi, g1, g2, g3, g4, Nat.le_trans (low_mono hf hm hm') g5⟩
  d1 := fun id p h1 h2 => let ⟨j, g1, g⟩ := d1 id p h1 h2; ⟨j, by omega, g⟩
  d2 := d2
  env := env
  dfr := dfr

/-- the next loud place from k on -/
theorem next_loud (ops : Array Oper) (tr : Tra) : ∀ (d k : Nat), k + d = ops.size → ∃ m, k ≤ m ∧ m ≤ ops.size ∧ (∀ j, k ≤ j → j < m → tr.loud ops j = false) ∧ (m = ops.size ∨ tr.loud ops m = true) := by
  intro d
  induction d with
  | zero => intro k h; exact ⟨k, Nat.le_refl _, by omega, fun j h1 h2 => by omega, .inl (by omega)⟩
  | succ d ih =>
    intro k h
    cases hl : tr.loud ops k with
    | true => exact ⟨k, Nat.le_refl _, by omega, fun j h1 h2 => by omega, .inr hl⟩
    | false =>
      obtain ⟨m, h1, h2, h3, h4⟩ := ih (k + 1) (by omega)
      refine ⟨m, by omega, h2, fun j g1 g2 => ?_, h4⟩
      by_cases e : j = k
      · subst e; exact hl
      · exact h3 j (by omega) g2

/-- one operation more -/
theorem Inv.perform (hP : goodZeros P = true) {c : CallF} (hS : Sim P c) {ops : Array Oper} {tr : Tra} (hok : ∀ k, k < ops.size → tr.ok P c ops k) (hf : ∀ j, j < ops.size → Facts tr j)
    {β0 : Loc} {w0 : World} {a0 : Act} (hbes : ∀ k, k ≤ ops.size → ∃ β w a, Beside tr β0 k β w a) (hr0 : Rel β0 (tr.S 0) w0)
    (hbar : ∀ k, k < ops.size → tr.ns ops k = true → ∀ j, j < k → tr.ns ops j = true → (tr.loud ops j = true ∨ tr.loud ops k = true) → ((Region.before ops).getD k 0).testBit j = true)
    (hnames : ∀ i j oi oj, j < i → ops[i]? = some oi → ops[j]? = some oj → oi.apart ops oj = true ∨ ((Region.before ops).getD i 0).testBit j = true)
    {L : Nat → Bool} {m : Nat} {β : Loc} {a : Act} {w : World} (hI : Inv ops tr β0 w0 a0 L m β a w) {i : Nat} (hi : i < ops.size) (hLi : L i = false)
    (hpre : ∀ j, ((Region.before ops).getD i 0).testBit j = true → L j = true) (hcl : ∀ k, L k = true → k < ops.size → ∀ j, ((Region.before ops).getD k 0).testBit j = true → L j = true)
    {K : Act → World → Prop} {Q : Exit → Act → World → Prop} (hK : ∀ m' β' a' w', Inv ops tr β0 w0 a0 (add L i) m' β' a' w' → K a' w') : wpOp P ops Q i K a w := by
  obtain ⟨o, ho, hw, h1, h0⟩ := hok i hi
  have hdst : dstOf ops i = o.dst := by simp [dstOf, ho]
  have hdom : ∀ k, k ≤ ops.size → ∀ id o, (tr.S k).heap.get id = some o → id < (tr.S k).next := fun k hk => by
    obtain ⟨_, _, _, hb⟩ := hbes k hk; exact hb.rel.nxt
  have hn0 : ∀ k, k ≤ ops.size → (tr.S 0).next ≤ (tr.S k).next := fun k hk => next_mono hf (Nat.zero_le k) hk
  -- writers of what the operation looks at, or writes
  have wbefore : ∀ j, j < i → ∀ t, dstOf ops j = some t → (t ∈ o.looksAt ops ∨ o.dst = some t) → L j = true := by
    intro j hj t hd ht
    obtain ⟨oj, hoj, _⟩ := hok j (by omega)
    have hdj : oj.dst = some t := by simpa [dstOf, hoj] using hd
    rcases hnames i j o oj hj ho hoj with hap | hb
    · obtain ⟨g1, g2, g3⟩ := Oper.apart_spec hap
      rcases ht with ht | ht
      · exact absurd ht (g3 t hdj)
      · exact absurd hdj (g2 t ht)
    · exact hpre j hb
  have wafter : ∀ j, i < j → j < ops.size → ∀ t, dstOf ops j = some t → (t ∈ o.looksAt ops ∨ o.dst = some t) → L j = false := by
    intro j hj hjn t hd ht
    obtain ⟨oj, hoj, _⟩ := hok j hjn
    have hdj : oj.dst = some t := by simpa [dstOf, hoj] using hd
    rcases hnames j i oj o hj hoj ho with hap | hb
    · obtain ⟨g1, g2, g3⟩ := Oper.apart_spec hap
      rcases ht with ht | ht
      · exact absurd ht (g1 t hdj)
      · exact absurd ht (g2 t hdj)
    · cases hL : L j with
      | false => rfl
      | true => rw [hcl j hL hjn i hb] at hLi; simp at hLi
  have look : ∀ t ∈ o.looksAt ops, at_ (eu ops tr L ops.size) t = at_ (tr.E i) t := by
    intro t ht
    unfold at_
    rw [eu_reads hok (Nat.le_of_lt hi) (fun j hj hd => wbefore j hj t hd (.inl ht)) (fun j hj hjn hd => ?_)]
    by_cases e : j = i
    · subst e; exact hLi
    · exact wafter j (by omega) hjn t hd (.inl ht)
  have hadd : eu ops tr (add L i) ops.size = put (eu ops tr L ops.size) o.dst (tr.val i) := by
    rw [← hdst]
    refine eu_add hi hLi fun j hj hjn hLj t ht hd => ?_
    rw [hdst] at ht
    rw [wafter j hj hjn t hd (.inr ht)] at hLj
    simp at hLj
  have hwa : wantedA ops o (eu ops tr L ops.size) = some (tr.W i) := by rw [wanted_congr look]; exact hw
  have addI : add L i i = true := by unfold add; rw [if_pos rfl]
  have addN : ∀ j, j ≠ i → add L i j = L j := fun j hj => by unfold add; rw [if_neg hj]
  have addT : ∀ j, L j = true → add L i j = true := fun j hj => by unfold add; split <;> simp_all
  unfold wpOp
  simp only [ho]
  rw [wanted_sim hI.env hwa]
  cases hwi : tr.W i with
  | false =>
    simp only [Bool.false_eq_true, if_false]
    have hns : tr.ns ops i = false := by simp [Tra.ns, hwi]
    refine hK m β _ w { hI with
      before := fun j hj hl => addT j (hI.before j hj hl)
      after := fun j h1 h2 h3 => by
        by_cases e : j = i
        · subst e; rw [hns] at h3; simp at h3
        · rw [addN j e]; exact hI.after j h1 h2 h3
      d1 := fun id p g1 g2 => let ⟨j, k1, k2, k3⟩ := hI.d1 id p g1 g2; ⟨j, k1, addT j k2, k3⟩
      d2 := fun j hj hl hn => by
        by_cases e : j = i
        · subst e; rw [hns] at hn; simp at hn
        · rw [addN j e] at hl; exact hI.d2 j hj hl hn
      env := by rw [hadd, Tra.val, hwi]; exact hI.env.drop o.dst undef
      dfr := by rw [← hI.dfr]; cases o.dst <;> rfl }
  | true =>
    simp only [if_true]
    obtain ⟨g1, g2, g3⟩ := h1 hwi
    have hval : tr.val i = some (tr.V i) := by simp [Tra.val, hwi]
    have hev : ∀ st, evalOp P c o (eu ops tr L ops.size) st = evalOp P c o (tr.E i) st := fun st => evalOp_congr look
    refine .inl ?_
    cases hs : still o.op with
    | true =>
      have hns : tr.ns ops i = false := by simp [Tra.ns, ho, hs]
      have hall := (still_same hs g1).2
      refine oper_wp hP hS (hI.rel.low (tr.S m).next) hI.env (v := tr.V i) (s' := { tr.S m with low := (tr.S m).next }) (by rw [hev]; exact hall _) fun u β' w' hst hv => ?_
      have hrel' : Rel β' (tr.S m) w' := hst.rel.of_low rfl rfl
      have hβ : β' = β := by
        funext id
        by_cases hid : id < (tr.S m).next
        · exact hst.ext id hid
        · rw [hrel'.none (by omega), hI.rel.none (by omega)]
      subst hβ
      have hblk : ∀ b, b < w.heap.size → w'.heap[b]? = w.heap[b]? := fun b hb => hst.frame b hb fun id base o hid _ _ => (hI.rel.dom id b base hid).1
      refine hK m β' _ w' { hI with
        before := fun j hj hl => addT j (hI.before j hj hl)
        after := fun j h1 h2 h3 => by
          by_cases e : j = i
          · subst e; rw [hns] at h3; simp at h3
          · rw [addN j e]; exact hI.after j h1 h2 h3
        rel := hrel'
        size := Nat.le_trans hI.size hst.size
        szs := fun b hb => (hst.szs b (Nat.lt_of_lt_of_le hb hI.size)).trans (hI.szs b hb)
        os := hst.os.trans hI.os
        tape := hst.tape.trans hI.tape
        output := hst.output.trans hI.output
        frame := fun b hb hyp => (hblk b (Nat.lt_of_lt_of_le hb hI.size)).trans (hI.frame b hb hyp)
        d1 := fun id p g1 g2 => let ⟨j, k1, k2, k3⟩ := hI.d1 id p g1 g2; ⟨j, k1, addT j k2, k3⟩
        d2 := fun j hj hl hn => by
          by_cases e : j = i
          · subst e; rw [hns] at hn; simp at hn
          · rw [addN j e] at hl; exact hI.d2 j hj hl hn
        env := by rw [hadd, hval]; exact (hI.env.mono (hst.locs (hI.rel.low _))).put o.dst hv
        dfr := by rw [← hI.dfr]; cases o.dst <;> rfl }
    | false =>
      have hns : tr.ns ops i = true := by simp [Tra.ns, ho, hs, hwi]
      have hS1 : (tr.S (i + 1)).heap = (tr.T i).heap ∧ (tr.S (i + 1)).next = (tr.T i).next := by rw [g3]; exact ⟨rfl, rfl⟩
      -- the first loud one that is left has nothing behind it
      have hlate : m < i → False := fun hmi => by
        rcases hI.at_m with e | hlm
        · omega
        · have hnm : tr.ns ops m = true := by simp only [Tra.loud, Bool.and_eq_true] at hlm; exact hlm.1
          have := hpre m (hbar i hi hns m hmi hnm (.inl hlm))
          rw [hI.after m (Nat.le_refl _) (by omega) hnm] at this
          simp at this
      cases hl : tr.loud ops i with
      | false =>
        have him : i < m := by
          rcases Nat.lt_trichotomy i m with h | h | h
          · exact h
          · rcases hI.at_m with e | hlm
            · omega
            · rw [← h, hl] at hlm; simp at hlm
          · exact (hlate h).elim
        have hq : ∀ j, i ≤ j → j < m → tr.loud ops j = false := by
          intro j hj1 hj2
          by_cases e : j = i
          · subst e; exact hl
          · cases hlj : tr.loud ops j with
            | false => rfl
            | true =>
              have hnj : tr.ns ops j = true := by simp only [Tra.loud, Bool.and_eq_true] at hlj; exact hlj.1
              have hj3 : j < ops.size := by have := hI.mle; omega
              have := hcl j (hI.before j hj2 hlj) hj3 i (hbar j hj3 hnj i (by omega) hns (.inr hlj))
              rw [hLi] at this; simp at this
        have hlow : (tr.S i).next ≤ (tr.T i).low := by
          simp only [Tra.loud, hns, Bool.true_and, decide_eq_false_iff_not] at hl; omega
        obtain ⟨γ, wγ, aγ, hb⟩ := hbes i (Nat.le_of_lt hi)
        have hγ : ∀ id p, γ id = some p → id < (tr.S i).next := fun id p h => by obtain ⟨x, y⟩ := p; exact (hb.rel.dom id x y h).1
        have hγt : ∀ id p, β id = some p → id < (tr.S i).next → ∃ q, γ id = some q := fun id p h hid => by
          by_cases h0 : id < (tr.S 0).next
          · exact ⟨p, by rw [hb.ext id h0, ← hI.ext id h0]; exact h⟩
          · exact hb.total id (by omega) hid
        have hsm := quiet_range hok hf (Nat.le_of_lt him) hI.mle hq
        have hrel : Rel (res β (tr.S i).next) (tr.S i) w := by
          refine ⟨fun id o' b base hg hb' => ?_, fun k1 k2 o1 o2 b b1 b2 hk1 hk2 hm1 hl2 hb1 hb2 => ?_, fun id b base hb' => ?_, hb.rel.nxt⟩
          · obtain ⟨hid, hb2⟩ := res_some hb'
            obtain ⟨⟨x, y⟩, hq'⟩ := hγt id _ hb2 hid
            exact (hI.rel.objs id o' b base (by rw [hsm id hid]; exact hg) hb2).restrict hγ (hb.rel.objs id o' x y hg hq')
          · obtain ⟨hi1, hb1⟩ := res_some hb1
            obtain ⟨hi2, hb2⟩ := res_some hb2
            exact hI.rel.apart k1 k2 o1 o2 b b1 b2 (by rw [hsm k1 hi1]; exact hk1) (by rw [hsm k2 hi2]; exact hk2) hm1 hl2 hb1 hb2
          · obtain ⟨hid, hb2⟩ := res_some hb'
            exact ⟨hid, (hI.rel.dom id b base hb2).2⟩
        -- the slots that the operation looks at
        let e' : Env := (List.range (eu ops tr L ops.size).length).map fun t => if t ∈ o.looksAt ops then at_ (eu ops tr L ops.size) t else none
        have he'at : ∀ t ∈ o.looksAt ops, at_ e' t = at_ (eu ops tr L ops.size) t := by
          intro t ht
          simp only [e', at_, List.getElem?_map]
          rcases Nat.lt_or_ge t (eu ops tr L ops.size).length with hlt | hge
          · simp [List.getElem?_range hlt, ht]
          · have q1 : (eu ops tr L ops.size)[t]? = none := List.getElem?_eq_none hge
            have q2 : (List.range (eu ops tr L ops.size).length)[t]? = none := List.getElem?_eq_none (by rw [List.length_range]; exact hge)
            rw [q1, q2]; rfl
        have henv : ER (res β (tr.S i).next) (szw w) e' a.tmps := by
          refine ⟨by simp only [e', List.length_map, List.length_range]; exact hI.env.1, fun t v ht => ?_⟩
          have hlt : t < (eu ops tr L ops.size).length := by
            have := (List.getElem?_eq_some_iff.1 ht).1
            simpa [e'] using this
          simp only [e', List.getElem?_map, List.getElem?_range hlt, Option.map_some, Option.some.injEq] at ht
          split at ht
          · rename_i hmem
            have h1' : (eu ops tr L ops.size)[t]? = some (some v) := by
              unfold at_ at ht
              rw [List.getElem?_eq_getElem hlt] at ht ⊢
              simpa using ht
            obtain ⟨u, hu, hr'⟩ := hI.env.2 t v h1'
            have h2' : (tr.E i)[t]? = some (some v) := by
              have := look t hmem
              unfold at_ at this
              rw [h1'] at this
              cases hE : (tr.E i)[t]? with
              | none => rw [hE] at this; simp at this
              | some q => rw [hE] at this; simp at this; rw [this]
            obtain ⟨u', _, hr2⟩ := hb.env.2 t v h2'
            exact ⟨u, hu, hr'.restrict hγ hr2⟩
          · simp at ht
        have hev' : evalOp P c o e' { tr.S i with low := (tr.S i).next } = some (tr.V i, tr.T i) := by
          rw [evalOp_congr he'at, hev]; exact g1
        refine oper_wp hP hS (hrel.low (tr.S i).next) henv hev' fun u β1 w' hst hv => ?_
        have hblk : ∀ b, b < w.heap.size → w'.heap[b]? = w.heap[b]? := fun b hb' => hst.frame b hb' fun id base o2 hid _ _ => Nat.lt_of_lt_of_le (res_some hid).1 hlow
        have hN1 : (tr.S i).next ≤ (tr.S (i + 1)).next := (hf i hi).next
        let β' : Loc := fun id => if (tr.S i).next ≤ id ∧ id < (tr.S (i + 1)).next then β1 id else β id
        have hin : ∀ id, (tr.S i).next ≤ id → id < (tr.S (i + 1)).next → β' id = β1 id := fun id h1 h2 => by simp only [β']; rw [if_pos ⟨h1, h2⟩]
        have hout : ∀ id, ¬ ((tr.S i).next ≤ id ∧ id < (tr.S (i + 1)).next) → β' id = β id := fun id h => by simp only [β']; rw [if_neg h]
        have hβn : ∀ id, (tr.S i).next ≤ id → id < (tr.S (i + 1)).next → β id = none := fun id h1 h2 => by
          cases hq' : β id with
          | none => rfl
          | some p =>
            obtain ⟨j, k1, k2, k3, k4, k5⟩ := hI.d1 id p (Nat.le_trans (hn0 i (Nat.le_of_lt hi)) h1) hq'
            have hjn : j < ops.size := by have := hI.mle; omega
            rcases Nat.lt_trichotomy j i with h | h | h
            · have := next_mono hf (show j + 1 ≤ i by omega) (Nat.le_of_lt hi); omega
            · subst h; rw [hLi] at k2; simp at k2
            · have := next_mono hf (show i + 1 ≤ j by omega) (Nat.le_of_lt hjn); omega
        have hβ1 : ∀ id, id < (tr.S i).next → β1 id = β id := fun id hid => (hst.ext id hid).trans (res_of hid)
        have sub : ∀ id b base, β id = some (b, base) → β' id = some (b, base) ∧ szw w b = szw w' b := fun id b base h => by
          refine ⟨?_, (hst.szs b (hI.rel.dom id b base h).2).symm⟩
          rw [hout id (fun hh => by rw [hβn id hh.1 hh.2] at h; simp at h)]; exact h
        have sub1 : ∀ id b base, β1 id = some (b, base) → β' id = some (b, base) ∧ szw w' b = szw w' b := fun id b base h => by
          refine ⟨?_, rfl⟩
          by_cases h1 : id < (tr.S i).next
          · rw [hout id (by omega), ← hβ1 id h1]; exact h
          · have := (hst.rel.dom id b base h).1
            rw [hin id (by omega) (by rw [hS1.2]; exact this)]; exact h
        have hnew : ∀ id b base, (tr.S i).next ≤ id → id < (tr.S (i + 1)).next → β1 id = some (b, base) → w.heap.size ≤ b := fun id b base h1 h2 h => by
          rcases hst.fresh id b base h1 h with hh | ⟨j, _, _, k1, _, _, _, k5⟩
          · exact hh
          · have k1 : j < (tr.S i).next := k1
            omega
        have hsm1 := quiet_range hok hf (show i + 1 ≤ m by omega) hI.mle (fun j h1 h2 => hq j (by omega) h2)
        have hNm : (tr.S (i + 1)).next ≤ (tr.S m).next := next_mono hf (show i + 1 ≤ m by omega) hI.mle
        have hobj1 : ∀ id o', (tr.S i).next ≤ id → id < (tr.S (i + 1)).next → (tr.S m).heap.get id = some o' → (tr.T i).heap.get id = some o' := fun id o' h1 h2 h => by
          rw [hsm1 id h2, hS1.1] at h; exact h
        refine hK m β' _ w' {
          mle := hI.mle
          before := fun j hj hl => addT j (hI.before j hj hl)
          after := fun j h1 h2 h3 => by rw [addN j (by omega)]; exact hI.after j h1 h2 h3
          at_m := hI.at_m
          rel := ?_
          ext := fun id hid => by
            have := hn0 i (Nat.le_of_lt hi)
            rw [hout id (by omega)]; exact hI.ext id hid
          size := Nat.le_trans hI.size hst.size
          szs := fun b hb' => (hst.szs b (Nat.lt_of_lt_of_le hb' hI.size)).trans (hI.szs b hb')
          os := hst.os.trans hI.os
          tape := hst.tape.trans hI.tape
          output := hst.output.trans hI.output
          frame := fun b hb' hyp => (hblk b (Nat.lt_of_lt_of_le hb' hI.size)).trans (hI.frame b hb' hyp)
          fresh := fun id b base h1 h2 => by
            by_cases hh : (tr.S i).next ≤ id ∧ id < (tr.S (i + 1)).next
            · rw [hin id hh.1 hh.2] at h2
              exact .inl (Nat.le_trans hI.size (hnew id b base hh.1 hh.2 h2))
            · rw [hout id hh] at h2; exact hI.fresh id b base h1 h2
          d1 := fun id p h1 h2 => by
            by_cases hh : (tr.S i).next ≤ id ∧ id < (tr.S (i + 1)).next
            · exact ⟨i, him, addI, hns, hh.1, hh.2⟩
            · rw [hout id hh] at h2
              obtain ⟨j, k1, k2, k3⟩ := hI.d1 id p h1 h2
              exact ⟨j, k1, addT j k2, k3⟩
          d2 := fun j hj hl hn id q1 q2 => by
            by_cases e : j = i
            · subst e
              rw [hin id q1 q2]
              exact hst.total id q1 (by rw [hS1.2] at q2; exact q2)
            · rw [addN j e] at hl
              obtain ⟨⟨x, y⟩, hp⟩ := hI.d2 j hj hl hn id q1 q2
              exact ⟨(x, y), (sub id x y hp).1⟩
          env := by rw [hadd, hval]; exact (hI.env.mono sub).put o.dst (hv.mono sub1)
          dfr := by rw [← hI.dfr]; cases o.dst <;> rfl }
        refine ⟨fun id o' b base hg hb' => ?_, fun k1 k2 o1 o2 b b1 b2 hk1 hk2 hm1 hl2 hb1 hb2 => ?_, fun id b base hb' => ?_, hI.rel.nxt⟩
        · by_cases hh : (tr.S i).next ≤ id ∧ id < (tr.S (i + 1)).next
          · rw [hin id hh.1 hh.2] at hb'
            exact (hst.rel.objs id o' b base (hobj1 id o' hh.1 hh.2 hg) hb').mono sub1 rfl
          · rw [hout id hh] at hb'
            exact (hI.rel.objs id o' b base hg hb').mono sub (hblk b (hI.rel.dom id b base hb').2)
        · by_cases h1' : (tr.S i).next ≤ k1 ∧ k1 < (tr.S (i + 1)).next
          · rw [hin k1 h1'.1 h1'.2] at hb1
            by_cases h2' : (tr.S i).next ≤ k2 ∧ k2 < (tr.S (i + 1)).next
            · rw [hin k2 h2'.1 h2'.2] at hb2
              exact hst.rel.apart k1 k2 o1 o2 b b1 b2 (hobj1 k1 o1 h1'.1 h1'.2 hk1) (hobj1 k2 o2 h2'.1 h2'.2 hk2) hm1 hl2 hb1 hb2
            · rw [hout k2 h2'] at hb2
              have := hnew k1 b b1 h1'.1 h1'.2 hb1
              have := (hI.rel.dom k2 b b2 hb2).2
              omega
          · rw [hout k1 h1'] at hb1
            by_cases h2' : (tr.S i).next ≤ k2 ∧ k2 < (tr.S (i + 1)).next
            · rw [hin k2 h2'.1 h2'.2] at hb2
              have := hnew k2 b b2 h2'.1 h2'.2 hb2
              have := (hI.rel.dom k1 b b1 hb1).2
              omega
            · rw [hout k2 h2'] at hb2
              exact hI.rel.apart k1 k2 o1 o2 b b1 b2 hk1 hk2 hm1 hl2 hb1 hb2
        · by_cases hh : (tr.S i).next ≤ id ∧ id < (tr.S (i + 1)).next
          · rw [hin id hh.1 hh.2] at hb'
            exact ⟨by omega, (hst.rel.dom id b base hb').2⟩
          · rw [hout id hh] at hb'
            have := hI.rel.dom id b base hb'
            exact ⟨this.1, Nat.lt_of_lt_of_le this.2 hst.size⟩
      | true =>
        have him : i = m := by
          rcases Nat.lt_trichotomy i m with h | h | h
          · rw [hI.before i h hl] at hLi; simp at hLi
          · exact h
          · exact (hlate h).elim
        subst him
        refine oper_wp hP hS (hI.rel.low (tr.S i).next) hI.env (v := tr.V i) (s' := tr.T i) (by rw [hev]; exact g1) fun u β1 w' hst0 hv => ?_
        have hlo : (tr.S (i + 1)).low ≤ (tr.S i).low ∧ (tr.S (i + 1)).low ≤ (tr.T i).low := by
          rw [g3]; simp only [hs, Bool.false_eq_true, if_false]; exact ⟨Nat.min_le_left _ _, Nat.min_le_right _ _⟩
        have hst : Step β (tr.S i) w β1 (tr.S (i + 1)) w' := by
          have := hst0.lower (tr.S i).next (tr.S (i + 1)).low hlo.1 hlo.2
          have e : ({ tr.T i with low := (tr.S (i + 1)).low } : St) = tr.S (i + 1) := by rw [g3]
          rwa [e] at this
        obtain ⟨m', m1, m2, m3, m4⟩ := next_loud ops tr (ops.size - (i + 1)) (i + 1) (by omega)
        have hN := hn0 i (Nat.le_of_lt hi)
        have hlocs := hst.locs hI.rel
        refine hK m' β1 _ w' (Inv.advance hok hf hdom m1 m2 m3 ?_ m4 ?_ hst.rel ?_ (Nat.le_trans hI.size hst.size) (fun b hb' => (hst.szs b (Nat.lt_of_lt_of_le hb' hI.size)).trans (hI.szs b hb')) (hst.os.trans hI.os) (hst.tape.trans hI.tape) (hst.output.trans hI.output) ?_ ?_ ?_ ?_ ?_ ?_)
        · intro j h1 h2 h3
          rw [addN j (by omega)]; exact hI.after j (by omega) h2 h3
        · intro j hj hlj
          by_cases e : j = i
          · subst e; exact addI
          · exact addT j (hI.before j (by omega) hlj)
        · intro id hid
          exact (hst.ext id (by omega)).trans (hI.ext id hid)
        · intro b hb' hyp
          refine (hst.frame b (Nat.lt_of_lt_of_le hb' hI.size) ?_).trans (hI.frame b hb' fun id base o' q1 q2 q3 => Nat.lt_of_lt_of_le (hyp id base o' q1 q2 q3) hlo.1)
          intro id base o' hid hg hm'
          by_cases h0' : id < (tr.S 0).next
          · obtain ⟨o0, q1, q2⟩ := mono_range hf i (Nat.le_of_lt hi) id o' h0' hg hm'
            exact hyp id base o0 (by rw [← hI.ext id h0']; exact hid) q1 q2
          · rcases hI.fresh id b base (by omega) hid with hh | ⟨k, ok, bk, q1, q2, q3, q4, q5⟩
            · omega
            · have := hyp k bk ok q2 q3 q4
              omega
        · intro id b base h1' h2'
          by_cases hid : id < (tr.S i).next
          · rcases hI.fresh id b base h1' ((hst.ext id hid).symm.trans h2') with hh | ⟨k, ok, bk, q1, q2, q3, q4, q5⟩
            · exact .inl hh
            · exact .inr ⟨k, ok, bk, q1, q2, q3, q4, Nat.le_trans hlo.1 q5⟩
          · rcases hst.fresh id b base (by omega) h2' with hh | ⟨k, ok, bk, q1, q2, q3, q4, q5⟩
            · exact .inl (Nat.le_trans hI.size hh)
            · by_cases hk0 : k < (tr.S 0).next
              · obtain ⟨o0, r1, r2⟩ := mono_range hf i (Nat.le_of_lt hi) k ok hk0 q3 q4
                exact .inr ⟨k, o0, bk, hk0, by rw [← hI.ext k hk0]; exact q2, r1, r2, q5⟩
              · rcases hI.fresh k b bk (by omega) q2 with hh | ⟨k', ok', bk', r1, r2, r3, r4, r5⟩
                · exact .inl hh
                · exact .inr ⟨k', ok', bk', r1, r2, r3, r4, Nat.le_trans hlo.1 r5⟩
        · intro id p h1' h2'
          by_cases hid : id < (tr.S i).next
          · obtain ⟨j, k1, k2, k3⟩ := hI.d1 id p h1' ((hst.ext id hid).symm.trans h2')
            exact ⟨j, by omega, addT j k2, k3⟩
          · obtain ⟨x, y⟩ := p
            exact ⟨i, by omega, addI, hns, by omega, (hst.rel.dom id x y h2').1⟩
        · intro j hj hlj hnj id h1' h2'
          by_cases e : j = i
          · subst e; exact hst.total id h1' h2'
          · rw [addN j e] at hlj
            obtain ⟨⟨x, y⟩, hp⟩ := hI.d2 j hj hlj hnj id h1' h2'
            exact ⟨(x, y), (hlocs id x y hp).1⟩
        · rw [hadd, hval]; exact (hI.env.mono hlocs).put o.dst hv
        · rw [← hI.dfr]; cases o.dst <;> rfl
end
end Go.Eng
end

section
/- Regions that draw their order, whole; and the machine follows the evaluator through every function. -/
set_option linter.unusedVariables false
set_option linter.unusedSimpArgs false
namespace Go.Eng

section
variable {P : Program}

/-! ### 1. what stands ahead of what -/
def bitsOf (acc : Array Nat) (o : Oper) : Nat := o.after.foldl (fun s e => if Region.binds .any e then s ||| 2 ^ e.on ||| acc.getD e.on 0 else s) 0
theorem before_eq (ops : Array Oper) : Region.before ops = ops.toList.foldl (fun acc o => acc.push (bitsOf acc o)) #[] := by
  unfold Region.before
  rw [← Array.foldl_toList]
  rfl
theorem fold_size (l : List Oper) : ∀ (acc : Array Nat), (l.foldl (fun acc o => acc.push (bitsOf acc o)) acc).size = acc.size + l.length := by
  induction l with
  | nil => intro acc; rfl
  | cons o l ih => intro acc; simp only [List.foldl_cons, ih, Array.size_push, List.length_cons]; omega
theorem fold_old (l : List Oper) : ∀ (acc : Array Nat) (i : Nat), i < acc.size → (l.foldl (fun acc o => acc.push (bitsOf acc o)) acc)[i]? = acc[i]? := by
  induction l with
  | nil => intro acc i _; rfl
  | cons o l ih =>
    intro acc i hi
    simp only [List.foldl_cons]
    rw [ih _ i (by simp; omega), Array.getElem?_push, if_neg (by omega)]
theorem bits_inv (acc : Array Nat) (o : Oper) (j : Nat) (h : (bitsOf acc o).testBit j = true) : ∃ e ∈ o.after, Region.binds .any e = true ∧ (e.on = j ∨ (acc.getD e.on 0).testBit j = true) := by
  unfold bitsOf at h
  rw [← Array.foldl_toList] at h
  have key : ∀ (l : List Edge) (s : Nat), (l.foldl (fun s e => if Region.binds .any e then s ||| 2 ^ e.on ||| acc.getD e.on 0 else s) s).testBit j = true → s.testBit j = true ∨ ∃ e ∈ l, Region.binds .any e = true ∧ (e.on = j ∨ (acc.getD e.on 0).testBit j = true) := by
    intro l
    induction l with
    | nil => intro s h; exact .inl h
    | cons e l ih =>
      intro s h
      simp only [List.foldl_cons] at h
      rcases ih _ h with h1 | ⟨e', h1, h2⟩
      · by_cases hb : Region.binds .any e = true
        · rw [if_pos hb] at h1
          simp only [Nat.testBit_or, Bool.or_eq_true, Nat.testBit_two_pow, decide_eq_true_eq] at h1
          rcases h1 with (h1 | h1) | h1
          · exact .inl h1
          · exact .inr ⟨e, by simp, hb, .inl h1⟩
          · exact .inr ⟨e, by simp, hb, .inr h1⟩
        · rw [if_neg hb] at h1; exact .inl h1
      · exact .inr ⟨e', by simp [h1], h2⟩
  rcases key o.after.toList 0 h with h1 | ⟨e, h1, h2⟩
  · simp at h1
  · exact ⟨e, by simpa using h1, h2⟩
theorem before_inv (ops : Array Oper) (i j : Nat) (h : ((Region.before ops).getD i 0).testBit j = true) : ∃ o, ops[i]? = some o ∧ ∃ e ∈ o.after, Region.binds .any e = true ∧ (e.on = j ∨ ((Region.before ops).getD e.on 0).testBit j = true) := by
  have hsz : (Region.before ops).size = ops.size := by rw [before_eq, fold_size]; simp
  by_cases hi : i < ops.size
  · have hil : i < ops.toList.length := by rw [Array.length_toList]; exact hi
    have hl : ops.toList = ops.toList.take i ++ ops[i] :: ops.toList.drop (i + 1) := by
      have e1 := List.drop_eq_getElem_cons hil
      rw [Array.getElem_toList] at e1
      rw [← e1, List.take_append_drop]
    have hpre : (ops.toList.take i).foldl (fun acc o => acc.push (bitsOf acc o)) #[] = (ops.toList.take i).foldl (fun acc o => acc.push (bitsOf acc o)) #[] := rfl
    generalize hA : (ops.toList.take i).foldl (fun acc o => acc.push (bitsOf acc o)) #[] = A at hpre
    have hAs : A.size = i := by rw [← hA, fold_size]; simp; omega
    have hb : Region.before ops = (ops.toList.drop (i + 1)).foldl (fun acc o => acc.push (bitsOf acc o)) (A.push (bitsOf A ops[i])) := by
      rw [before_eq, hl, List.foldl_append, hA]
      simp only [List.foldl_cons]
      congr 1
      rw [← hl]
    have hgi : (Region.before ops).getD i 0 = bitsOf A ops[i] := by
      rw [Array.getD_eq_getD_getElem?, hb, fold_old _ _ i (by simp; omega), Array.getElem?_push, if_pos hAs.symm]
      rfl
    rw [hgi] at h
    obtain ⟨e, h1, h2, h3⟩ := bits_inv A ops[i] j h
    refine ⟨ops[i], by simp [hi], e, h1, h2, ?_⟩
    rcases h3 with h3 | h3
    · exact .inl h3
    · right
      by_cases he : e.on < A.size
      · have : (Region.before ops).getD e.on 0 = A.getD e.on 0 := by
          rw [Array.getD_eq_getD_getElem?, hb, fold_old _ _ e.on (by simp; omega), Array.getElem?_push, if_neg (by omega), Array.getD_eq_getD_getElem?]
        rw [this]; exact h3
      · rw [Array.getD_eq_getD_getElem?, Array.getElem?_eq_none (by omega)] at h3
        simp at h3
  · rw [Array.getD_eq_getD_getElem?, Array.getElem?_eq_none (by omega)] at h
    simp at h

/-- what is asked of a region that draws: operations that name one slot are ordered -/
def regOK (ops : Array Oper) : Bool :=
  (List.range ops.size).all fun i => match ops[i]? with
    | none => true
    | some oi => oi.after.all (fun e => !Region.binds .any e || decide (e.on < i)) && (List.range i).all fun j => match ops[j]? with
      | some oj => oi.apart ops oj || ((Region.before ops).getD i 0).testBit j
      | none => true
theorem regOK_names {ops : Array Oper} (h : regOK ops = true) (i j : Nat) (oi oj : Oper) (hj : j < i) (h1 : ops[i]? = some oi) (h2 : ops[j]? = some oj) : oi.apart ops oj = true ∨ ((Region.before ops).getD i 0).testBit j = true := by
  have hi : i < ops.size := (Array.getElem?_eq_some_iff.1 h1).1
  have := List.all_eq_true.1 h i (by simpa using hi)
  rw [h1] at this
  simp only [Bool.and_eq_true] at this
  have := List.all_eq_true.1 this.2 j (by simpa using hj)
  rw [h2] at this
  simpa using this
theorem regOK_edges {ops : Array Oper} (h : regOK ops = true) (i : Nat) (oi : Oper) (h1 : ops[i]? = some oi) (e : Edge) (he : e ∈ oi.after) (hb : Region.binds .any e = true) : e.on < i := by
  have hi : i < ops.size := (Array.getElem?_eq_some_iff.1 h1).1
  have := List.all_eq_true.1 h i (by simpa using hi)
  rw [h1] at this
  simp only [Bool.and_eq_true] at this
  have := Array.all_eq_true_iff_forall_mem.1 this.1 e he
  simpa [hb] using this

theorem draw_sim (hP : goodZeros P = true) (hfol : P.follows .mixedOrders = true) {c : CallF} (hS : Sim P c) {ops : Array Oper} (hreg : regOK ops = true) : DrawSim P c ops := by
  intro id β0 s w e a e' s' Q h hr he hQ
  refine wp_region_any hfol ?_
  obtain ⟨tr, t1, t2, t3, t4, hok, hbar⟩ := draw_trace ops.toList 0 [] e s e' s' (by simp) h
  simp only [Nat.zero_add, Array.length_toList] at t3 t4 hok hbar
  subst t1; subst t2; subst t3; subst t4
  have hok : ∀ k, k < ops.size → tr.ok P c ops k := fun k hk => hok k (Nat.zero_le k) hk
  have hbar : ∀ k, k < ops.size → tr.ns ops k = true → ∀ j, j < k → tr.ns ops j = true → (tr.loud ops j = true ∨ tr.loud ops k = true) → ((Region.before ops).getD k 0).testBit j = true :=
    fun k hk hn j hj hnj hor => (hbar k (Nat.zero_le k) hk hn).2 j (Nat.zero_le j) hj hnj hor
  have hr1 : Rel β0 (tr.S 0) { w with drawn := w.drawn + 1 } := hr.draw _
  have he1 : ER β0 (szw { w with drawn := w.drawn + 1 }) (tr.E 0) a.tmps := he
  have hbf := beside hP hS hok hr1 he1
  have hf : ∀ j, j < ops.size → Facts tr j := fun j hj => (hbf ops.size (Nat.le_refl _)).2 j hj
  have hbes : ∀ k, k ≤ ops.size → ∃ β w a, Beside tr β0 k β w a := fun k hk => (hbf k hk).1
  have hdom : ∀ k, k ≤ ops.size → ∀ id o, (tr.S k).heap.get id = some o → id < (tr.S k).next := fun k hk => by
    obtain ⟨_, _, _, hb⟩ := hbes k hk; exact hb.rel.nxt
  -- when all have been performed
  have fin : ∀ (L : Nat → Bool) (m : Nat) (β : Loc) (a' : Act) (w' : World), (∀ k, k < ops.size → L k = true) → Inv ops tr β0 { w with drawn := w.drawn + 1 } a L m β a' w' → Q .normal a' w' := by
    intro L m β a' w' hall hI
    have hm : m = ops.size := by
      rcases hI.at_m with h | h
      · exact h
      · have hnm : tr.ns ops m = true := by simp only [Tra.loud, Bool.and_eq_true] at h; exact h.1
        by_cases hlt : m < ops.size
        · have h1 := hI.after m (Nat.le_refl _) hlt hnm
          rw [hall m hlt] at h1; simp at h1
        · have := hI.mle; omega
    subst hm
    have hlast : ∀ idd, (tr.S 0).next ≤ idd → ∀ k, k ≤ ops.size → idd < (tr.S k).next → ∃ p, β idd = some p := by
      intro idd h0 k
      induction k with
      | zero => intro _ hh; omega
      | succ k ih =>
        intro hk hh
        by_cases hlt : idd < (tr.S k).next
        · exact ih (by omega) hlt
        · cases hns : tr.ns ops k with
          | true => exact hI.d2 k (by omega) (hall k (by omega)) hns idd (by omega) hh
          | false => rw [(notns_next hok (by omega) hns).1] at hh; omega
    have hmono := mono_range hf ops.size (Nat.le_refl _)
    have hsame : ∀ k, k ≤ ops.size → ∀ idd, idd < (tr.S 0).next → idd < (tr.S k).low → (tr.S k).heap.get idd = (tr.S 0).heap.get idd := by
      intro k
      induction k with
      | zero => intro _ idd _ _; rfl
      | succ k ih =>
        intro hk idd h1 h2
        have hn := next_mono hf (Nat.zero_le k) (by omega)
        have hlow := (hf k (by omega)).low
        rw [(hf k (by omega)).same idd (by omega) ?_]
        · exact ih (by omega) idd h1 (by omega)
        · intro hw
          obtain ⟨o, ho, _, q1, _⟩ := hok k (by omega)
          have q3 := (q1 hw).2.2
          cases hs : still o.op with
          | true => rw [(still_same hs (q1 hw).1).1]; exact (by omega : idd < (tr.S k).next)
          | false =>
            have : (tr.S (k + 1)).low ≤ (tr.T k).low := by rw [q3]; simp only [hs, Bool.false_eq_true, if_false]; exact Nat.min_le_right _ _
            omega
    have hst : Step β0 (tr.S 0) { w with drawn := w.drawn + 1 } β (tr.S ops.size) w' := {
      rel := hI.rel
      ext := hI.ext
      next := next_mono hf (Nat.zero_le _) (Nat.le_refl _)
      low := low_mono hf (Nat.zero_le _) (Nat.le_refl _)
      size := hI.size
      szs := hI.szs
      os := hI.os
      tape := hI.tape
      output := hI.output
      mono := fun idd o' h1 h2 h3 => hmono idd o' h1 h2 h3
      frame := hI.frame
      fresh := hI.fresh
      same := hsame ops.size (Nat.le_refl _)
      total := fun idd h1 h2 => hlast idd h1 ops.size (Nat.le_refl _) h2 }
    refine hQ a' w' β (Step.trans hr (Step.draw _ hr) hst) ?_ hI.dfr
    have := hI.env
    rwa [eu_all hok hall ops.size (Nat.le_refl _)] at this
  have key : ∀ (fuel : Nat) (listed : Array Bool) (U : List Nat) (m : Nat) (β : Loc) (a' : Act) (w' : World), listed.size = ops.size → (∀ k, k < ops.size → listed.getD k false = false → k ∈ U) → U.length ≤ fuel →
      (∀ k, listed.getD k false = true → k < ops.size → ∀ j, ((Region.before ops).getD k 0).testBit j = true → listed.getD j false = true) →
      Inv ops tr β0 { w with drawn := w.drawn + 1 } a (fun k => listed.getD k false) m β a' w' → wpAny P .any ops Q fuel listed a' w' := by
    have noneReady : ∀ (listed : Array Bool), listed.size = ops.size → Region.ready .any ops listed = [] → ∀ k, k < ops.size → listed.getD k false = true := by
      intro listed hsz hnil k
      induction k using Nat.strongRecOn with
      | _ k ihk =>
        intro hk
        cases hk' : listed.getD k false with
        | true => rfl
        | false =>
          have hkl : k < listed.size := by omega
          have : k ∈ Region.ready .any ops listed := mem_ready.2 ⟨by simp [hkl] at hk' ⊢; exact hk', ops[k], by simp [hk], fun e he hb => ihk e.on (regOK_edges hreg k ops[k] (by simp [hk]) e he hb) (by have := regOK_edges hreg k ops[k] (by simp [hk]) e he hb; omega)⟩
          rw [hnil] at this
          simp at this
    intro fuel
    induction fuel with
    | zero =>
      intro listed U m β a' w' hsz hU hlen hcl hI
      have hall : ∀ k, k < ops.size → listed.getD k false = true := fun k hk => by
        cases hk' : listed.getD k false with
        | true => rfl
        | false =>
          have := hU k hk hk'
          have hnil : U = [] := List.eq_nil_of_length_eq_zero (by omega)
          rw [hnil] at this
          simp at this
      refine ⟨?_, fin _ m β a' w' hall hI⟩
      cases hrd : Region.ready .any ops listed with
      | nil => rfl
      | cons x xs =>
        have hx : x ∈ Region.ready .any ops listed := by rw [hrd]; simp
        obtain ⟨g1, o, g2, _⟩ := mem_ready.1 hx
        have hxs : x < ops.size := (Array.getElem?_eq_some_iff.1 g2).1
        have := hall x hxs
        have hxl : x < listed.size := by omega
        simp [hxl] at g1 this
        rw [g1] at this; simp at this
    | succ fuel ih =>
      intro listed U m β a' w' hsz hU hlen hcl hI
      refine ⟨fun hnil => fin _ m β a' w' (noneReady listed hsz hnil) hI, ?_⟩
      intro i hi
      obtain ⟨g1, o, g2, g3⟩ := mem_ready.1 hi
      have his : i < ops.size := (Array.getElem?_eq_some_iff.1 g2).1
      have hil : i < listed.size := by omega
      have hLi : listed.getD i false = false := by simp [hil] at g1 ⊢; exact g1
      have hpre : ∀ j, ((Region.before ops).getD i 0).testBit j = true → listed.getD j false = true := by
        intro j hj
        obtain ⟨o', ho', e, he, hb, hor⟩ := before_inv ops i j hj
        rw [g2] at ho'
        simp only [Option.some.injEq] at ho'
        subst ho'
        have hon := g3 e he hb
        rcases hor with rfl | hor
        · exact hon
        · exact hcl e.on hon (by have := regOK_edges hreg i o g2 e he hb; omega) j hor
      have hset : ∀ k, (listed.setIfInBounds i true).getD k false = add (fun k => listed.getD k false) i k := by
        intro k
        unfold add
        simp only [Array.getD_eq_getD_getElem?, Array.getElem?_setIfInBounds]
        by_cases hk : i = k
        · subst hk; simp [hil]
        · rw [if_neg hk, if_neg (fun h => hk h.symm)]
      refine Inv.perform hP hS hok hf hbes hr1 hbar (regOK_names hreg) hI his hLi hpre hcl fun m' β' a2 w2 hI2 => ?_
      refine ih (listed.setIfInBounds i true) (U.erase i) m' β' a2 w2 (by simp [hsz]) ?_ ?_ ?_ ?_
      · intro k hk hk'
        rw [hset] at hk'
        unfold add at hk'
        split at hk'
        · simp at hk'
        · rename_i hne; exact (List.mem_erase_of_ne hne).2 (hU k hk hk')
      · have := List.length_erase_of_mem (hU i his hLi); omega
      · intro k hk hks j hj
        rw [hset] at hk ⊢
        unfold add at hk ⊢
        split
        · rfl
        · split at hk
          · rename_i hke; subst hke; exact hpre j hj
          · exact hcl k hk hks j hj
      · have e : (fun k => (listed.setIfInBounds i true).getD k false) = add (fun k => listed.getD k false) i := funext hset
        rw [e]; exact hI2
  obtain ⟨m0, m1, m2, m3, m4⟩ := next_loud ops tr ops.size 0 (by omega)
  have hL0 : ∀ k, (Array.replicate ops.size false).getD k false = false := fun k => by
    simp only [Array.getD_eq_getD_getElem?, Array.getElem?_replicate]; split <;> rfl
  refine key ops.size (Array.replicate ops.size false) (List.range ops.size) m0 β0 a { w with drawn := w.drawn + 1 } (by simp) (fun k hk _ => by simpa using hk) (by simp) (fun k hk => by rw [hL0] at hk; simp at hk) ?_
  have e0 : ∀ k, eu ops tr (fun k => (Array.replicate ops.size false).getD k false) k = tr.E 0 := by
    intro k
    induction k with
    | zero => rfl
    | succ k ih =>
      unfold eu
      rw [hL0, if_neg (by simp)]
      exact ih
  exact Inv.advance hok hf hdom m1 m2 m3 (fun j _ _ _ => hL0 j) m4 (fun i hi => by omega) hr1 (fun _ _ => rfl) (Nat.le_refl _) (fun _ _ => rfl) rfl rfl rfl (fun _ _ _ => rfl)
    (fun id b base h1 h2 => absurd (hr1.dom id b base h2).1 (by omega)) (fun id p h1 h2 => by obtain ⟨x, y⟩ := p; exact absurd (hr1.dom id x y h2).1 (by omega)) (fun j _ hl => by rw [hL0] at hl; simp at hl) (by rw [e0]; exact he1) rfl

/-! ### 2. the whole program -/
/-- what is asked of a program, in numbers -/
def goodRegions (P : Program) : Bool := P.funcs.toList.all fun fn => match fn.body with
  | some k => (drawn k).all regOK
  | none => true
theorem eval_sim (hP : goodZeros P = true) (hfol : P.follows .mixedOrders = true) (hreg : goodRegions P = true) (M : Masks) (hC : ∀ g args v, M.closed g args = some v → Pure P g args v) (n : Nat) : Sim P (evalF P M n) :=
  func_sim hP M hC (fun c hS f fn k hf hb ops ho => draw_sim hP hfol hS (by
    have h1 := List.all_eq_true.1 hreg fn (by have := Array.mem_of_getElem? hf; simpa using this)
    rw [hb] at h1
    exact List.all_eq_true.1 h1 ops ho)) n
/-- a closed call, evaluated -/
theorem pure_of (hP : goodZeros P = true) (hfol : P.follows .mixedOrders = true) (hreg : goodRegions P = true) (M : Masks) (hC : ∀ g args v, M.closed g args = some v → Pure P g args v) (n : Nat) {g : FuncId} {args : List Value} {v : Value} {s' : St} (h : evalF P M n g args ⟨Heap.empty, 0, 0⟩ = some (v, s')) (hv : atom v = true) (ha : args.all atom = true) : Pure P g args v := by
  obtain ⟨h1, h2⟩ := eval_sim hP hfol hreg M hC n g args _ v s' h
  refine ⟨h1, hv, ha, fun w => ?_⟩
  have h0 : Rel (fun _ => none) ⟨Heap.empty, 0, 0⟩ w := ⟨fun _ _ _ _ _ h => by simp at h, fun _ _ _ _ _ _ _ _ _ _ _ h => by simp at h, fun _ _ _ h => by simp at h, fun id o h => by simp [Heap.get_empty] at h⟩
  refine (h2 _ w args.toArray h0 (VL.atoms ha)).mono fun e w' ⟨u, β', hu, hst, hv'⟩ => ?_
  have := hv'.of_atom hv
  subst this
  exact ⟨hu, hst.os, hst.tape, hst.output, hst.size, fun k hk => hst.frame k hk (fun id base o h _ _ => by simp at h)⟩
end
end Go.Eng
end

section
/- From what a row reads of its arguments to the evaluator's start: every slice that is met is lent as a row that may be read alone. -/
set_option linter.unusedVariables false
set_option linter.unusedSimpArgs false
namespace Go.Eng

/-- the values that a law is given, as the evaluator has them -/
inductive Ty (P : Program) (s : St) : TypeId → List Value → Prop
  | bool {t : TypeId} {b : Bool} (hu : P.underlying t = some .bool) : Ty P s t [.bool b]
  | int {t : TypeId} {k : IntKind} {n : Int} (hu : P.underlying t = some (.int k)) (h : (Lit.int k n).wf = true) : Ty P s t [.int k n]
  | string {t : TypeId} {b : ByteArray} (hu : P.underlying t = some .string) (h : b.size ≤ maxLen) (hr : b.size ≤ reachBytes) : Ty P s t [.string b]
  | nil {t e : TypeId} (hu : P.underlying t = some (.slice e)) : Ty P s t [.slice none 0 0]
  | slice {t e : TypeId} {id : Nat} (rows : List (List Value)) (hu : P.underlying t = some (.slice e)) (hr : s.row id = some (rows.flatten, false)) (hm : rows.length ≤ maxLen) (hw : rows.length * P.bytesOf e ≤ reachBytes)
      (hz : ∀ r ∈ rows, r.length = P.cellsOf e) (h : ∀ r ∈ rows, Ty P s e r) : Ty P s t [.slice (some ⟨id, 0, none⟩) rows.length (2 * P.cellsOf e + 1)]
  | struct {t : TypeId} {fs : Array Field} {cs : List Value} (hu : P.underlying t = some (.struct fs)) (hl : cs.length = P.cellsOf t) (h : ∀ f ∈ fs.toList, Ty P s f.type ((cs.drop f.offset).take (P.cellsOf f.type))) : Ty P s t cs

theorem Ty.mono {P : Program} {s s' : St} (h : ∀ id p, s.row id = some p → s'.row id = some p) {t : TypeId} {cs : List Value} (k : Ty P s t cs) : Ty P s' t cs := by
  induction k with
  | bool hu => exact .bool hu
  | int hu h => exact .int hu h
  | string hu h hr => exact .string hu h hr
  | nil hu => exact .nil hu
  | slice rows hu hr hm hw hz _ ih => exact .slice rows hu (h _ _ hr) hm hw hz ih
  | struct hu hl _ ih => exact .struct hu hl ih

def RO (s : St) : Prop := ∀ id o, s.heap.get id = some o → o.mine = false
structure Ext (β : Loc) (s : St) (β' : Loc) (s' : St) : Prop where
  next : s.next ≤ s'.next
  loc : ∀ id, id < s.next → β' id = β id
  obj : ∀ id, id < s.next → s'.heap.get id = s.heap.get id
theorem Ext.refl (β : Loc) (s : St) : Ext β s β s := ⟨Nat.le_refl _, fun _ _ => rfl, fun _ _ => rfl⟩
theorem Ext.trans {β β1 β2 : Loc} {s s1 s2 : St} (h : Ext β s β1 s1) (k : Ext β1 s1 β2 s2) : Ext β s β2 s2 :=
  ⟨Nat.le_trans h.next k.next, fun id hi => (k.loc id (Nat.lt_of_lt_of_le hi h.next)).trans (h.loc id hi), fun id hi => (k.obj id (Nat.lt_of_lt_of_le hi h.next)).trans (h.obj id hi)⟩
theorem Ext.row {β β' : Loc} {s s' : St} {W : World} (hr : Rel β s W) (h : Ext β s β' s') : ∀ id p, s.row id = some p → s'.row id = some p := by
  intro id p e
  obtain ⟨c, own⟩ := p
  have ho := row_obj e
  have hn := hr.nxt id _ ho
  unfold St.row
  rw [h.obj id hn, ho]
theorem Ext.vl {β β' : Loc} {s s' : St} {W : World} (hr : Rel β s W) (h : Ext β s β' s') {l l' : List Value} (k : VL β (szw W) l l') : VL β' (szw W) l l' :=
  k.mono fun id b base e => ⟨(h.loc id (hr.dom id b base e).1).trans e, rfl⟩

/-- a row that may be read alone -/
theorem lend {β : Loc} {s : St} {W : World} (h : Rel β s W) (ro : RO s) {b base : Nat} {C : Array Value} {e : TypeId} {fz : Nat × Nat} {c : List Value} (hb : W.heap[b]? = some (.cells C e fz)) (hc : base + c.length ≤ C.size) (hv : VL β (szw W) c ((C.toList.drop base).take c.length)) :
    Rel (β.with s.next b base) (s.new (.cells c false)) W ∧ RO (s.new (.cells c false)) ∧ Ext β s (β.with s.next b base) (s.new (.cells c false)) ∧ (β.with s.next b base) s.next = some (b, base) ∧ (s.new (.cells c false)).row s.next = some (c, false) := by
  have hlt : b < W.heap.size := by
    rcases Nat.lt_or_ge b W.heap.size with h1 | h1
    · exact h1
    · rw [Array.getElem?_eq_none h1] at hb; simp at hb
  have mine : (β.with s.next b base) s.next = some (b, base) := by unfold Loc.with; rw [if_pos rfl]
  have old : ∀ id p, (β.with s.next b base) id = some p → id ≠ s.next → β id = some p := fun id p e hne => by
    unfold Loc.with at e; rw [if_neg hne] at e; exact e
  have keep : ∀ id b' base', β id = some (b', base') → (β.with s.next b base) id = some (b', base') ∧ szw W b' = szw W b' := fun id b' base' e => by
    have := h.dom id b' base' e
    refine ⟨?_, rfl⟩
    unfold Loc.with; rw [if_neg (by omega)]; exact e
  refine ⟨⟨?_, ?_, ?_, ?_⟩, ?_, ⟨?_, ?_, ?_⟩, mine, ?_⟩
  · intro id o b' base' ho hb'
    simp only [St.new, Heap.get_set] at ho
    by_cases hid : id = s.next
    · rw [if_pos hid] at ho
      subst hid
      rw [mine] at hb'
      simp only [Option.some.injEq, Prod.mk.injEq] at ho hb'
      obtain ⟨rfl, rfl⟩ := hb'
      subst ho
      exact ⟨C, e, fz, hb, hc, hv.mono keep, fun h => by simp at h⟩
    · rw [if_neg hid] at ho
      exact (h.objs id o b' base' ho (old id _ hb' hid)).mono keep rfl
  · intro i j oi oj b' bi bj hi hj hm hl hbi hbj
    simp only [St.new, Heap.get_set] at hi
    by_cases h1 : i = s.next
    · rw [if_pos h1] at hi; simp only [Option.some.injEq] at hi; subst hi; simp [AObj.mine] at hm
    · rw [if_neg h1] at hi; rw [ro i oi hi] at hm; simp at hm
  · intro id b' base' hb'
    simp only [St.new]
    by_cases hid : id = s.next
    · rw [hid, mine] at hb'; simp at hb'; omega
    · have := h.dom id b' base' (old id _ hb' hid); omega
  · intro id o ho
    simp only [St.new, Heap.get_set] at ho ⊢
    by_cases hid : id = s.next
    · omega
    · rw [if_neg hid] at ho; have := h.nxt id o ho; omega
  · intro id o ho
    simp only [St.new, Heap.get_set] at ho
    by_cases hid : id = s.next
    · rw [if_pos hid] at ho; simp only [Option.some.injEq] at ho; subst ho; rfl
    · rw [if_neg hid] at ho; exact ro id o ho
  · simp [St.new]
  · intro id hid; unfold Loc.with; rw [if_neg (by omega)]
  · intro id hid; simp only [St.new, Heap.get_set]; rw [if_neg (by omega)]
  · simp [St.row, St.new, Heap.get_set]

def tiled (P : Program) (total : Nat) : Nat → List Field → Bool
  | off, [] => decide (off = total)
  | off, f :: fs => decide (f.offset = off) && tiled P total (off + P.cellsOf f.type) fs
/-- types without pointers, maps, functions, interfaces -/
def okT (P : Program) : Nat → TypeId → Bool
  | 0, _ => false
  | m + 1, t => match P.underlying t with
    | some .bool | some (.int _) | some .string => true
    | some (.slice e) => decide (0 < P.cellsOf e) && okT P m e
    | some (.struct fs) => tiled P (P.cellsOf t) 0 fs.toList && fs.toList.all fun f => okT P m f.type
    | _ => false

def Got (W : World) (P : Program) (β : Loc) (s : St) (t : TypeId) (cs : List Value) : Prop :=
  ∃ β' s' acs, Rel β' s' W ∧ RO s' ∧ Ext β s β' s' ∧ VL β' (szw W) acs cs ∧ Ty P s' t acs

theorem got_many {W : World} {P : Program} {e : TypeId} : ∀ (rs : List (List Value)) (β : Loc) (s : St), Rel β s W → RO s → (∀ r ∈ rs, ∀ β s, Rel β s W → RO s → Got W P β s e r) →
    ∃ β' s' as, Rel β' s' W ∧ RO s' ∧ Ext β s β' s' ∧ VL β' (szw W) (List.flatten as) rs.flatten ∧ as.length = rs.length ∧ (∀ a ∈ as, Ty P s' e a) ∧ ∀ (i : Nat) a r, as[i]? = some a → rs[i]? = some r → a.length = r.length := by
  intro rs
  induction rs with
  | nil => intro β s hr ro _; exact ⟨β, s, [], hr, ro, Ext.refl _ _, VL.nil, rfl, by simp, by simp⟩
  | cons r rs ih =>
    intro β s hr ro hall
    obtain ⟨β1, s1, a, r1, o1, x1, v1, t1⟩ := hall r (by simp) β s hr ro
    obtain ⟨β2, s2, as, r2, o2, x2, v2, l2, t2, g2⟩ := ih β1 s1 r1 o1 (fun r hr' => hall r (by simp [hr']))
    refine ⟨β2, s2, a :: as, r2, o2, x1.trans x2, ?_, by simp [l2], ?_, ?_⟩
    · rw [List.flatten_cons, List.flatten_cons]
      exact (x2.vl r1 v1).append v2
    · intro y hy
      rcases List.mem_cons.1 hy with rfl | hy
      · exact t1.mono (x2.row r1)
      · exact t2 y hy
    · intro i y z hy hz
      cases i with
      | zero => simp at hy hz; subst hy; subst hz; exact v1.1
      | succ i => exact g2 i y z (by simpa using hy) (by simpa using hz)

theorem got_fields {W : World} {P : Program} {total : Nat} {cs : List Value} (hl : cs.length = total) : ∀ (fs : List Field) (off : Nat) (β : Loc) (s : St), Rel β s W → RO s → tiled P total off fs = true →
    (∀ f ∈ fs, ∀ β s, Rel β s W → RO s → Got W P β s f.type ((cs.drop f.offset).take (P.cellsOf f.type))) →
    ∃ β' s' acs, Rel β' s' W ∧ RO s' ∧ Ext β s β' s' ∧ VL β' (szw W) acs (cs.drop off) ∧ ∀ f ∈ fs, off ≤ f.offset ∧ Ty P s' f.type ((acs.drop (f.offset - off)).take (P.cellsOf f.type)) := by
  intro fs
  induction fs with
  | nil =>
    intro off β s hr ro ht _
    simp [tiled] at ht
    refine ⟨β, s, [], hr, ro, Ext.refl _ _, ?_, by simp⟩
    rw [List.drop_of_length_le (by omega)]
    exact VL.nil
  | cons f fs ih =>
    intro off β s hr ro ht hall
    simp only [tiled, Bool.and_eq_true, decide_eq_true_eq] at ht
    obtain ⟨rfl, ht⟩ := ht
    obtain ⟨β1, s1, a, r1, o1, x1, v1, t1⟩ := hall f (by simp) β s hr ro
    obtain ⟨β2, s2, as, r2, o2, x2, v2, t2⟩ := ih _ β1 s1 r1 o1 ht (fun f hf => hall f (by simp [hf]))
    have hle : f.offset + P.cellsOf f.type ≤ total := by
      have : ∀ (fs : List Field) (o : Nat), tiled P total o fs = true → o ≤ total := by
        intro fs
        induction fs with
        | nil => intro o h; simp [tiled] at h; omega
        | cons g gs ih => intro o h; simp only [tiled, Bool.and_eq_true, decide_eq_true_eq] at h; have := ih _ h.2; omega
      exact this fs _ ht
    have ha : a.length = P.cellsOf f.type := by rw [v1.1, List.length_take, List.length_drop]; omega
    refine ⟨β2, s2, a ++ as, r2, o2, x1.trans x2, ?_, ?_⟩
    · have hcut : cs.drop f.offset = (cs.drop f.offset).take (P.cellsOf f.type) ++ cs.drop (f.offset + P.cellsOf f.type) := by
        rw [← List.drop_drop, List.take_append_drop]
      rw [hcut]
      exact (x2.vl r1 v1).append v2
    · intro g hg
      rcases List.mem_cons.1 hg with rfl | hg
      · refine ⟨Nat.le_refl _, ?_⟩
        rw [Nat.sub_self, List.drop_zero, List.take_append_of_le_length (by omega), List.take_of_length_le (by omega)]
        exact t1.mono (x2.row r1)
      · obtain ⟨h1, h2⟩ := t2 g hg
        refine ⟨by omega, ?_⟩
        rw [List.drop_append, List.drop_of_length_le (by omega), List.nil_append, show g.offset - f.offset - a.length = g.offset - (f.offset + P.cellsOf f.type) by omega]
        exact h2

end Go.Eng
end

section
/- From what a row reads of its arguments to the evaluator's start, part 2. -/
set_option linter.unusedVariables false
set_option linter.unusedSimpArgs false
namespace Go.Eng

theorem add_block (a : Addr) (i : Nat) : (a.add i).block = a.block := by unfold Addr.add; split <;> rfl

/-- what a slice's reading says of its block -/
theorem slice_block {W : World} {a : Addr} {z cap : Nat} {rs : Nat → List Value} (hz : 0 < z) (hc : 0 < cap) (h : ∀ i, i < cap → W.cells? 0 (a.add (i * z)) z = some (rs i)) :
    a.spot = none ∧ ∃ C e fz, W.heap[a.block]? = some (.cells C e fz) ∧ a.off + cap * z ≤ C.size ∧ ∀ n, n ≤ cap → ((List.range n).map rs).flatten = (C.toList.drop a.off).take (n * z) := by
  obtain ⟨_, h2, h3⟩ := World.cells?_some (h (cap - 1) (by omega))
  have hlast := h3 (z - 1) (by omega)
  obtain ⟨ab, ao, asp⟩ := a
  have hsp : asp = none := by
    cases asp with
    | none => rfl
    | some q =>
      obtain ⟨_, k2, k3⟩ := World.cells?_some (h 0 hc)
      have k4 := k3 0 hz
      rw [List.getElem?_eq_getElem (by omega)] at k4
      simp only [Nat.zero_mul, Addr.add, if_true] at k4
      unfold World.cell? at k4
      split at k4 <;> simp at k4
  subst hsp
  refine ⟨rfl, ?_⟩
  simp only [addr_add] at h hlast h3 ⊢
  unfold World.cell? at hlast
  simp only at hlast
  split at hlast
  · rename_i C e fz hb
    simp only [Option.isSome_none, Bool.false_eq_true, if_false] at hlast
    have hlt : ao + (cap - 1) * z + (z - 1) < C.size := by
      rcases Nat.lt_or_ge (ao + (cap - 1) * z + (z - 1)) C.size with h1 | h1
      · exact h1
      · rw [Array.getElem?_eq_none h1, List.getElem?_eq_getElem (by omega)] at hlast; simp at hlast
    have hcz : cap * z = (cap - 1) * z + z := by
      rw [← Nat.succ_mul]; congr 1; omega
    refine ⟨C, e, fz, hb, by omega, ?_⟩
    intro n hn
    induction n with
    | zero => simp
    | succ n ih =>
      rw [List.range_succ, List.map_append, List.flatten_append, ih (by omega)]
      simp only [List.map_cons, List.map_nil, List.flatten_cons, List.flatten_nil, List.append_nil]
      obtain ⟨_, g2, g3⟩ := World.cells?_some (h n (by omega))
      rw [Nat.succ_mul, List.take_add]
      congr 1
      apply List.ext_getElem?
      intro j
      rw [List.drop_drop]
      by_cases hj : j < z
      · rw [List.getElem?_take, if_pos hj, List.getElem?_drop]
        have := g3 j hj
        rw [← this, addr_add]
        simp only [World.cell?, hb, Option.isSome_none, Bool.false_eq_true, if_false]
        rw [← Array.getElem?_toList]
      · rw [List.getElem?_eq_none (by omega), List.getElem?_eq_none (by rw [List.length_take]; omega)]
  · rw [List.getElem?_eq_getElem (by omega)] at hlast; simp at hlast

section
variable {H : Type} {enc : TypeId × Value → H} {P : Program} {W : World}

theorem mem_weightsAll {e : TypeId} {ds : List (DataW H)} {d : DataW H} (h : d ∈ ds) : ∀ n ∈ d.weights P e, n ∈ DataW.weightsAll P e ds := by
  induction ds with
  | nil => simp at h
  | cons x xs ih =>
    intro n hn
    simp only [DataW.weightsAll, List.mem_append]
    rcases List.mem_cons.1 h with rfl | h
    · exact .inl hn
    · exact .inr (ih h n hn)

theorem trod_got (hE : ∃ (b : Nat) (C : Array Value) (e : TypeId) (fz : Nat × Nat), W.heap[b]? = some (.cells C e fz)) : ∀ (fuel m : Nat) (t : TypeId) (cs : List Value) (d : DataW H) (ps : List MemPlace) (β : Loc) (s : St), Rel β s W → RO s → okT P m t = true →
    DataW.trod enc P W 0 (fun _ => true) true fuel t cs = some (d, ps) → (∀ n ∈ d.weights P t, n ≤ reachBytes) → Got W P β s t cs := by
  intro fuel
  induction fuel with
  | zero => intro m t cs d ps β s _ _ _ h; simp [DataW.trod] at h
  | succ fuel ih =>
    intro m t cs d ps β s hr ro hm h hw
    cases m with
    | zero => simp [okT] at hm
    | succ m =>
    rw [DataW.trod_step] at h
    unfold DataW.trodStep at h
    unfold okT at hm
    split at h
    case h_1 b hu => exact ⟨β, s, _, hr, ro, Ext.refl _ _, VL.cons (.atom rfl) .nil, .bool hu⟩
    case h_2 k k' n hu =>
      split at h
      · rename_i hk
        obtain ⟨rfl, hk⟩ := hk
        exact ⟨β, s, _, hr, ro, Ext.refl _ _, VL.cons (.atom rfl) .nil, .int hu hk⟩
      · simp at h
    case h_3 hu => rw [hu] at hm; simp at hm
    case h_4 b hu =>
      split at h
      · rename_i hb
        simp only [Option.some.injEq, Prod.mk.injEq] at h
        obtain ⟨rfl, _⟩ := h
        have := hw b.data.toList.length (by simp [DataW.weights])
        exact ⟨β, s, _, hr, ro, Ext.refl _ _, VL.cons (.atom rfl) .nil, .string hu hb (by rw [Array.length_toList] at this; exact this)⟩
      · simp at h
    case h_5 hu => rw [hu] at hm; simp at hm
    case h_6 hu => rw [hu] at hm; simp at hm
    case h_7 hu => exact ⟨β, s, _, hr, ro, Ext.refl _ _, VL.cons (.atom rfl) .nil, .nil hu⟩
    case h_8 e a len cap hu =>
      rw [hu] at hm
      simp only [Bool.and_eq_true, decide_eq_true_eq] at hm
      obtain ⟨hz, hme⟩ := hm
      simp only at h
      split at h
      · rename_i hcap
        simp only [Option.map_eq_some_iff, Option.bind_eq_some_iff, if_true] at h
        obtain ⟨elems, he, rest, hrest, hd⟩ := h
        have hde : d = .slice (elems.map (·.1)) (rest.map (·.1)) := (Prod.mk.inj hd).1.symm
        subst hde
        have hlen : elems.length = len := by simpa using mapM_some_length he
        have hlr : rest.length = cap - len := by simpa using mapM_some_length hrest
        have hwt : len * P.bytesOf e ≤ reachBytes := by
          have := hw ((elems.length + rest.length) * P.bytesOf e) (by simp [DataW.weights, hu])
          exact Nat.le_trans (Nat.mul_le_mul_right _ (by omega)) this
        have one : ∀ i, i < cap → ∃ r x, W.cells? 0 (a.add (i * P.cellsOf e)) (P.cellsOf e) = some r ∧ DataW.trod enc P W 0 (fun _ => true) true fuel e r = some x ∧ (i < len → x ∈ elems) := by
          intro i hi
          by_cases hl : i < len
          · have := mapM_some_get he i i (by simp [hl])
            rw [List.getElem?_eq_getElem (by omega), Option.bind_eq_some_iff] at this
            obtain ⟨r, h1, h2⟩ := this
            exact ⟨r, _, h1, h2, fun _ => List.getElem_mem _⟩
          · have := mapM_some_get (l := List.range (cap - len)) hrest (i - len) (i - len) (by rw [List.getElem?_range (by omega)])
            rw [List.getElem?_eq_getElem (by omega), Option.bind_eq_some_iff] at this
            obtain ⟨r, h1, h2⟩ := this
            rw [show len + (i - len) = i by omega] at h1
            exact ⟨r, _, h1, h2, fun h => absurd h hl⟩
        by_cases hc0 : cap = 0
        · obtain ⟨b, C, el, fz, hb⟩ := hE
          have hl0 : len = 0 := by omega
          subst hc0; subst hl0
          obtain ⟨g1, g2, g3, g4, g5⟩ := lend hr ro (base := 0) (c := []) hb (by simp) (by simp; exact VL.nil)
          refine ⟨_, _, _, g1, g2, g3, VL.cons (l := []) ?_ .nil, .slice [] hu g5 (by simp) (by simp) (by simp) (by simp)⟩
          obtain ⟨ab, ao, asp⟩ := a
          exact .slice g4 (.inl rfl) (Nat.le_refl _) (by omega) (.inr rfl)
        · let rs : Nat → List Value := fun i => if h : i < cap then (one i h).choose else []
          have hrs : ∀ i (hi : i < cap), W.cells? 0 (a.add (i * P.cellsOf e)) (P.cellsOf e) = some (rs i) ∧ ∃ x, DataW.trod enc P W 0 (fun _ => true) true fuel e (rs i) = some x ∧ (i < len → x ∈ elems) := by
            intro i hi
            have e1 : rs i = (one i hi).choose := by simp only [rs]; rw [dif_pos hi]
            rw [e1]
            obtain ⟨x, h1, h2, h3⟩ := (one i hi).choose_spec
            exact ⟨h1, x, h2, h3⟩
          obtain ⟨hsp, C, el, fz, hb, hsz, hflat⟩ := slice_block hz (Nat.pos_of_ne_zero hc0) (fun i hi => (hrs i hi).1)
          obtain ⟨β1, s1, as, r1, o1, x1, v1, l1, t1, g1⟩ := got_many (P := P) (e := e) ((List.range len).map rs) β s hr ro (by
            intro r hr'
            simp only [List.mem_map, List.mem_range] at hr'
            obtain ⟨i, hi, rfl⟩ := hr'
            intro β s hr ro
            obtain ⟨_, x, h2, h3⟩ := hrs i (by omega)
            obtain ⟨xd, xp⟩ := x
            refine ih m e (rs i) xd xp β s hr ro hme h2 ?_
            intro n hn
            refine hw n ?_
            simp only [DataW.weights, hu, List.mem_cons, List.mem_append]
            exact .inr (.inl (mem_weightsAll (List.mem_map.2 ⟨_, h3 hi, rfl⟩) n hn)))
          rw [hflat len (by omega)] at v1
          have hfl : as.flatten.length = len * P.cellsOf e := by
            rw [v1.1, List.length_take, List.length_drop]
            have := Nat.mul_le_mul_right (P.cellsOf e) hcap.2.1
            simp only [Array.length_toList]
            omega
          have hrow : ∀ r ∈ as, r.length = P.cellsOf e := by
            intro r hr'
            obtain ⟨i, hi⟩ := List.getElem?_of_mem hr'
            have hil : i < len := by
              have := (List.getElem?_eq_some_iff.1 hi).1
              rw [l1] at this; simpa using this
            have h2 : ((List.range len).map rs)[i]? = some (rs i) := by simp [hil]
            rw [g1 i r _ hi h2]
            exact (World.cells?_some (hrs i (by omega)).1).2.1
          have hn : as.length = len := by rw [l1]; simp
          obtain ⟨k1, k2, k3, k4, k5⟩ := lend r1 o1 (base := a.off) (c := as.flatten) hb (by
            rw [hfl]
            have := Nat.mul_le_mul_right (P.cellsOf e) hcap.2.1
            omega) (by rw [hfl]; exact v1)
          refine ⟨_, _, _, k1, k2, x1.trans k3, VL.cons (l := []) ?_ .nil, .slice as hu k5 (by omega) (by rw [hn]; exact hwt) hrow (fun r hr' => (t1 r hr').mono (k3.row r1))⟩
          obtain ⟨ab, ao, asp⟩ := a
          simp only at hsp
          subst hsp
          rw [hn]
          refine .slice k4 (.inr (by simp)) hcap.2.1 (by omega) (.inl ⟨⟨rfl, rfl⟩, ?_⟩)
          simp only [szw, hb]
          rw [show (2 * P.cellsOf e + 1) / 2 = P.cellsOf e by omega]
          exact hsz
      · simp at h
    case h_9 fs hu =>
      rw [hu] at hm
      simp only [Bool.and_eq_true] at hm
      obtain ⟨ht, hall⟩ := hm
      rw [List.all_eq_true] at hall
      split at h
      · rename_i hl
        simp only [Option.map_eq_some_iff] at h
        obtain ⟨xs, hx, hd⟩ := h
        have hde : d = .agg (xs.map (·.1)) := (Prod.mk.inj hd).1.symm
        subst hde
        obtain ⟨β1, s1, acs, r1, o1, x1, v1, t1⟩ := got_fields hl fs.toList 0 β s hr ro ht (by
          intro f hf β s hr ro
          obtain ⟨i, hi⟩ := List.getElem?_of_mem hf
          have hlx := mapM_some_length hx
          have hil := (List.getElem?_eq_some_iff.1 hi).1
          have := mapM_some_get hx i f hi
          rw [List.getElem?_eq_getElem (by omega)] at this
          refine ih m f.type _ (xs[i]'(by omega)).1 (xs[i]'(by omega)).2 β s hr ro (hall f hf) this ?_
          intro n hn
          refine hw n ?_
          simp only [DataW.weights, hu]
          exact DataW.weights_mem_each (j := i) (t := f.type) (by rw [List.getElem?_map, hi]; rfl) (by rw [List.getElem?_map, List.getElem?_eq_getElem (by omega)]; rfl) n hn)
        rw [List.drop_zero] at v1
        refine ⟨β1, s1, acs, r1, o1, x1, v1, .struct hu (by rw [v1.1]; exact hl) (fun f hf => ?_)⟩
        have := (t1 f hf).2
        rw [Nat.sub_zero] at this
        exact this
      · simp at h
    case h_10 hu => rw [hu] at hm; simp at hm
    case h_11 hu => rw [hu] at hm; simp at hm
    case h_12 hu => rw [hu] at hm; simp at hm
    case h_13 hu => rw [hu] at hm; simp at hm
    case h_14 hu => rw [hu] at hm; simp at hm
    case h_15 hu => rw [hu] at hm; simp at hm
    case h_16 hu => rw [hu] at hm; simp at hm
    case h_17 hu => rw [hu] at hm; simp at hm
    case h_18 hu => rw [hu] at hm; simp at hm
    case h_19 hu => rw [hu] at hm; simp at hm
    case h_20 hu => rw [hu] at hm; simp at hm
    case h_21 => simp at h
end
end Go.Eng
end

section
/- A law's row out of the evaluator: the arguments are read, the law is evaluated, nothing that stood before is turned. -/
set_option linter.unusedVariables false
set_option linter.unusedSimpArgs false
namespace Go.Eng
open Go.RowKit

def TyV (P : Program) (s : St) (t : TypeId) (v : Value) : Prop :=
  match P.underlying t with
  | some (.struct _) => ∃ cs, v = .agg cs ∧ Ty P s t cs.toList
  | _ => Ty P s t [v]
def TyL (P : Program) (s : St) : List TypeId → List Value → Prop
  | [], [] => True
  | t :: ts, v :: vs => TyV P s t v ∧ TyL P s ts vs
  | _, _ => False
theorem TyV.mono {P : Program} {s s' : St} (h : ∀ id p, s.row id = some p → s'.row id = some p) {t : TypeId} {v : Value} (k : TyV P s t v) : TyV P s' t v := by
  unfold TyV at k ⊢
  split at k
  · obtain ⟨cs, e, k⟩ := k; exact ⟨cs, e, k.mono h⟩
  · exact k.mono h

section
variable {H : Type} {enc : TypeId × Value → H} {P : Program} {W : World} {bs : Nat}

theorem okT_mono_struct {m : Nat} {t : TypeId} (h : okT P m t = true) : (∃ fs, P.underlying t = some (.struct fs)) ∨ ((∀ fs, P.underlying t ≠ some (.struct fs)) ∧ ∀ n e, P.underlying t ≠ some (.array n e)) := by
  cases m with
  | zero => simp [okT] at h
  | succ m =>
    unfold okT at h
    split at h <;> rename_i hu
    · exact .inr ⟨by simp [hu], by simp [hu]⟩
    · exact .inr ⟨by simp [hu], by simp [hu]⟩
    · exact .inr ⟨by simp [hu], by simp [hu]⟩
    · exact .inr ⟨by simp [hu], by simp [hu]⟩
    · exact .inl ⟨_, hu⟩
    · simp at h

theorem cells_one {v : Value} (h : ∀ cs, v ≠ .agg cs) : v.cells = #[v] := by
  cases v <;> first | rfl | exact absurd rfl (h _)

theorem got_args (hE : ∃ (b : Nat) (C : Array Value) (e : TypeId) (fz : Nat × Nat), W.heap[b]? = some (.cells C e fz)) (m : Nat) : ∀ (ts : List TypeId) (vs : List Value) (ds : List (DataW H)) (ps : List MemPlace) (β : Loc) (s : St), Rel β s W → RO s → (∀ t ∈ ts, okT P m t = true) →
    DataW.TrodAll enc P W 0 (fun _ => true) true ts vs ds ps → (∀ (j : Nat) t v, ts[j]? = some t → vs[j]? = some v → Value.okWide P W .any bs t v) → (∀ n ∈ DataW.weightsEach P ts ds, n ≤ reachBytes) →
    ∃ β' s' as, Rel β' s' W ∧ RO s' ∧ Ext β s β' s' ∧ VL β' (szw W) as vs ∧ TyL P s' ts as
  | [], [], [], _, β, s, hr, ro, _, _, _, _ => ⟨β, s, [], hr, ro, Ext.refl _ _, VL.nil, True.intro⟩
  | t :: ts, v :: vs, d :: ds, _, β, s, hr, ro, hm, ⟨p, q, ⟨fuel, hf⟩, h2, _⟩, hv, hw => by
    obtain ⟨β1, s1, a, r1, o1, x1, v1, t1⟩ := trod_got hE fuel m t _ d p β s hr ro (hm t (by simp)) hf (fun n hn => hw n (by simp only [DataW.weightsEach, List.mem_append]; exact .inl hn))
    obtain ⟨β2, s2, as, r2, o2, x2, v2, t2⟩ := got_args hE m ts vs ds q β1 s1 r1 o1 (fun t ht => hm t (by simp [ht])) h2 (fun j t v a b => hv (j + 1) t v (by simpa using a) (by simpa using b)) (fun n hn => hw n (by simp only [DataW.weightsEach, List.mem_append]; exact .inr hn))
    have hok := hv 0 t v rfl rfl
    rcases okT_mono_struct (hm t (by simp)) with ⟨fs, hu⟩ | ⟨hu1, hu2⟩
    · unfold Value.okWide at hok
      rw [hu] at hok
      obtain ⟨cs, rfl, _⟩ := hok
      refine ⟨β2, s2, .agg a.toArray :: as, r2, o2, x1.trans x2, VL.cons (VR.aggMk' (by simpa [Value.cells] using x2.vl r1 v1)) v2, ?_, t2⟩
      unfold TyV
      rw [hu]
      exact ⟨a.toArray, rfl, by simpa using t1.mono (x2.row r1)⟩
    · have hna : ∀ cs, v ≠ .agg cs := by
        rintro cs rfl
        unfold Value.okWide at hok
        split at hok
        · rename_i h; exact hu1 _ h
        · rename_i h; exact hu2 _ _ h
        · unfold Cell.okWide at hok
          split at hok <;> try contradiction
          unfold Cell.ok at hok
          split at hok <;> contradiction
      rw [cells_one hna] at v1
      obtain ⟨c, hc⟩ : ∃ c, a = [c] := by
        have := v1.1
        match a, this with
        | [c], _ => exact ⟨c, rfl⟩
      subst hc
      refine ⟨β2, s2, c :: as, r2, o2, x1.trans x2, VL.cons ((x2.vl r1 v1).2 0 c v rfl rfl) v2, ?_, t2⟩
      unfold TyV
      split
      · rename_i h; exact absurd h (hu1 _)
      · exact t1.mono (x2.row r1)

/-- THE LAW: where the evaluator says true at every start of this kind, the machine does, and nothing that stood before is turned -/
theorem law_calls {M : Masks} {f : FuncId} {n : Nat} (hS : ∀ n, Sim P (evalF P M n)) {ts : List TypeId} {vs : Array Value} {ds : List (DataW H)} {ps : List MemPlace} (m : Nat)
    (hE : ∃ (b : Nat) (C : Array Value) (e : TypeId) (fz : Nat × Nat), W.heap[b]? = some (.cells C e fz)) (hm : ∀ t ∈ ts, okT P m t = true)
    (hT : DataW.TrodAll enc P W 0 (fun _ => true) true ts vs.toList ds ps) (hv : ∀ (j : Nat) t v, ts[j]? = some t → vs.toList[j]? = some v → Value.okWide P W .any bs t v) (hw : ∀ n ∈ DataW.weightsEach P ts ds, n ≤ reachBytes)
    (law : ∀ (s : St) (as : List Value), RO s → TyL P s ts as → ∃ n s', evalF P M n f as s = some (.bool true, s')) :
    Calls P f vs W fun e W' => e = .returned (.bool true) ∧ Below W.heap.size W W' := by
  have h0 : Rel (fun _ => none) ⟨Heap.empty, 0, 0⟩ W := ⟨fun _ _ _ _ _ h => by simp at h, fun _ _ _ _ _ _ _ _ _ _ _ h => by simp at h, fun _ _ _ h => by simp at h, fun id o h => by simp [Heap.get_empty] at h⟩
  have ro0 : RO ⟨Heap.empty, 0, 0⟩ := fun id o h => by simp [Heap.get_empty] at h
  obtain ⟨β, s, as, hr, ro, _, hvl, hty⟩ := got_args hE m ts vs.toList ds ps _ _ h0 ro0 hm hT hv hw
  obtain ⟨n, s', he⟩ := law s as ro hty
  obtain ⟨_, hc⟩ := hS n _ _ _ _ _ he
  refine (hc β W vs hr hvl).mono fun e W' ⟨u, β', hu, hst, hv'⟩ => ?_
  have := hv'.bool
  subst this
  refine ⟨hu, hst.os, hst.tape, hst.output, hst.size, fun k hk => hst.frame k hk (fun id base o _ ho hmine => ?_)⟩
  rw [ro id o ho] at hmine
  simp at hmine
end
end Go.Eng
end

section
/- Words for what calls do with the evaluator's states: what stays; rows of bytes; rows of rows of bytes. -/
set_option linter.unusedVariables false
set_option linter.unusedSimpArgs false
namespace Go.Eng

/-! ### states -/
theorem next_new (s : St) (o : AObj) : (s.new o).next = s.next + 1 := rfl
theorem next_put (s : St) (id : Nat) (o : AObj) : (s.put id o).next = s.next := rfl
theorem low_new (s : St) (o : AObj) : (s.new o).low = s.low := rfl
theorem low_put (s : St) (id : Nat) (o : AObj) : (s.put id o).low = min s.low id := rfl
theorem get_new_self (s : St) (o : AObj) : (s.new o).heap.get s.next = some o := Heap.get_set_eq _ _ _
theorem get_new_old (s : St) (o : AObj) {id : Nat} (h : id < s.next) : (s.new o).heap.get id = s.heap.get id := Heap.get_set_ne _ _ (by omega)
theorem get_put_self (s : St) (id : Nat) (o : AObj) : (s.put id o).heap.get id = some o := Heap.get_set_eq _ _ _
theorem get_put_ne (s : St) {id j : Nat} (o : AObj) (h : j ≠ id) : (s.put id o).heap.get j = s.heap.get j := Heap.get_set_ne _ _ h
theorem row_new (s : St) (c : List Value) (own : Bool) : (s.new (.cells c own)).row s.next = some (c, own) := by simp [St.row, get_new_self]
theorem row_old (s : St) (o : AObj) {id : Nat} (h : id < s.next) : (s.new o).row id = s.row id := by simp [St.row, get_new_old _ _ h]
theorem row_put (s : St) (id : Nat) (c : List Value) (own : Bool) : (s.put id (.cells c own)).row id = some (c, own) := by simp [St.row, get_put_self]
theorem row_ne (s : St) {id j : Nat} (o : AObj) (h : j ≠ id) : (s.put id o).row j = s.row j := by simp [St.row, get_put_ne _ _ h]
theorem some_of_row {s : St} {id : Nat} {c : List Value} {own : Bool} (h : s.row id = some (c, own)) {off n : Nat} (hn : off + n ≤ c.length) : s.some? id off n = some ((c.drop off).take n) := by
  unfold St.some?; rw [h]; simp [hn]
theorem some_all {s : St} {id : Nat} {c : List Value} {own : Bool} (h : s.row id = some (c, own)) {n : Nat} (hn : n = c.length) : s.some? id 0 n = some c := by
  subst hn; rw [some_of_row h (by omega)]; simp
theorem some_row {s : St} {id off n : Nat} {l : List Value} (h : s.some? id off n = some l) : ∃ c own, s.row id = some (c, own) ∧ off + n ≤ c.length ∧ l = (c.drop off).take n := by
  unfold St.some? at h
  split at h
  · rename_i c own hr
    split at h
    · simp at h; exact ⟨c, own, hr, by assumption, h.symm⟩
    · simp at h
  · simp at h
theorem some_congr {s s' : St} {id : Nat} (h : s'.heap.get id = s.heap.get id) (off n : Nat) : s'.some? id off n = s.some? id off n := by unfold St.some? St.row; rw [h]
theorem some_one {s : St} {id off n i : Nat} {l : List Value} (h : s.some? id off n = some l) (hi : i < n) : s.some? id (off + i) 1 = (l[i]?).map fun v => [v] := by
  obtain ⟨c, own, hr, hl, rfl⟩ := some_row h
  rw [some_of_row hr (by omega), List.getElem?_take, if_pos hi, List.getElem?_drop]
  rw [List.getElem?_eq_getElem (by omega)]
  simp only [Option.map_some, Option.some.injEq]
  rw [List.drop_eq_getElem_cons (by omega)]
  rfl

theorem next_mark (s : St) (l : Nat) : (s.mark l).next = s.next := rfl
theorem low_mark (s : St) (l : Nat) : (s.mark l).low = l := rfl
theorem get_mark (s : St) (l : Nat) (id : Nat) : (s.mark l).heap.get id = s.heap.get id := rfl
theorem row_mark (s : St) (l : Nat) (id : Nat) : (s.mark l).row id = s.row id := rfl
theorem some_mark (s : St) (l : Nat) (id off n : Nat) : (s.mark l).some? id off n = s.some? id off n := rfl
theorem mark_mark (s : St) (l m : Nat) : (s.mark l).mark m = s.mark m := rfl
theorem new_mark (s : St) (l : Nat) (o : AObj) : (s.mark l).new o = (s.new o).mark l := rfl
theorem put_mark (s : St) (l id : Nat) (o : AObj) : (s.mark l).put id o = (s.put id o).mark (min l id) := rfl
theorem heap_mark (s : St) (l : Nat) : (s.mark l).heap = s.heap := rfl

/-- what a call leaves: all that stood, and the mark -/
structure Keep (s s' : St) : Prop where
  next : s.next ≤ s'.next
  get : ∀ id, id < s.next → s'.heap.get id = s.heap.get id
  low : min s.low s.next ≤ s'.low
theorem Keep.refl (s : St) : Keep s s := ⟨Nat.le_refl _, fun _ _ => rfl, by omega⟩
theorem Keep.trans {a b c : St} (h : Keep a b) (k : Keep b c) : Keep a c :=
  ⟨Nat.le_trans h.next k.next, fun id hi => (k.get id (Nat.lt_of_lt_of_le hi h.next)).trans (h.get id hi), by have := h.low; have := k.low; have := h.next; omega⟩
theorem Keep.new (s : St) (o : AObj) : Keep s (s.new o) := ⟨by simp [next_new], fun id hi => get_new_old s o hi, by simp only [low_new]; omega⟩
theorem Keep.put {s s' : St} (h : Keep s s') {id : Nat} (hid : s.next ≤ id) (o : AObj) : Keep s (s'.put id o) :=
  ⟨by simp only [next_put]; exact h.next, fun j hj => (get_put_ne s' o (by omega)).trans (h.get j hj), by simp only [low_put]; have := h.low; omega⟩
theorem Keep.row {s s' : St} (h : Keep s s') {id : Nat} (hi : id < s.next) : s'.row id = s.row id := by unfold St.row; rw [h.get id hi]
theorem Keep.some {s s' : St} (h : Keep s s') {id : Nat} (hi : id < s.next) (off n : Nat) : s'.some? id off n = s.some? id off n := some_congr (h.get id hi) off n

/-! ### rows of bytes -/
def bcell (b : UInt8) : Value := .int .u8 b.toNat
inductive Bytes (s : St) : Value → List UInt8 → Prop
  | nil : Bytes s (.slice none 0 0) []
  | row {id off c : Nat} {l : List UInt8} (hi : id < s.next) (hr : s.some? id off l.length = some (l.map bcell)) (hz : c / 2 = 1) : Bytes s (.slice (some ⟨id, off, none⟩) l.length c) l
inductive AllB (s : St) : List Value → List (List UInt8) → Prop
  | nil : AllB s [] []
  | cons {v : Value} {l : List UInt8} {vs : List Value} {ls : List (List UInt8)} (h : Bytes s v l) (t : AllB s vs ls) : AllB s (v :: vs) (l :: ls)
inductive Sects (s : St) : Value → List (List UInt8) → Prop
  | nil : Sects s (.slice none 0 0) []
  | row {id off c : Nat} {L : List (List UInt8)} {vs : List Value} (hi : id < s.next) (hr : s.some? id off L.length = some vs) (hz : c / 2 = 1) (hv : AllB s vs L) : Sects s (.slice (some ⟨id, off, none⟩) L.length c) L

theorem Bytes.keep {s s' : St} (h : Keep s s') {v : Value} {l : List UInt8} (k : Bytes s v l) : Bytes s' v l := by
  cases k with
  | nil => exact .nil
  | row hi hr hz => exact .row (Nat.lt_of_lt_of_le hi h.next) ((h.some hi _ _).trans hr) hz
theorem AllB.keep {s s' : St} (h : Keep s s') {vs : List Value} {L : List (List UInt8)} (k : AllB s vs L) : AllB s' vs L := by
  induction k with
  | nil => exact .nil
  | cons a _ ih => exact .cons (a.keep h) ih
theorem Sects.keep {s s' : St} (h : Keep s s') {v : Value} {L : List (List UInt8)} (k : Sects s v L) : Sects s' v L := by
  cases k with
  | nil => exact .nil
  | row hi hr hz hv => exact .row (Nat.lt_of_lt_of_le hi h.next) ((h.some hi _ _).trans hr) hz (hv.keep h)
theorem AllB.length {s : St} {vs : List Value} {L : List (List UInt8)} (k : AllB s vs L) : vs.length = L.length := by
  induction k with
  | nil => rfl
  | cons _ _ ih => simp [ih]
theorem AllB.get {s : St} {vs : List Value} {L : List (List UInt8)} (k : AllB s vs L) : ∀ (i : Nat) (l : List UInt8), L[i]? = some l → ∃ v, vs[i]? = some v ∧ Bytes s v l := by
  induction k with
  | nil => intro i l h; simp at h
  | cons a _ ih =>
    intro i l h
    cases i with
    | zero => simp at h; subst h; exact ⟨_, rfl, a⟩
    | succ i => simpa using ih i l (by simpa using h)
theorem AllB.append {s : St} {vs ws : List Value} {L K : List (List UInt8)} (k : AllB s vs L) (m : AllB s ws K) : AllB s (vs ++ ws) (L ++ K) := by
  induction k with
  | nil => exact m
  | cons a _ ih => exact .cons a ih
theorem AllB.set {s : St} {vs : List Value} {L : List (List UInt8)} (k : AllB s vs L) (i : Nat) {v : Value} {l : List UInt8} (h : Bytes s v l) : AllB s (vs.set i v) (L.set i l) := by
  induction k generalizing i with
  | nil => exact .nil
  | cons a t ih => cases i with
    | zero => exact .cons h t
    | succ i => exact .cons a (ih i)
theorem AllB.take {s : St} {vs : List Value} {L : List (List UInt8)} (k : AllB s vs L) (n : Nat) : AllB s (vs.take n) (L.take n) := by
  induction k generalizing n with
  | nil => simp; exact .nil
  | cons a t ih => cases n with
    | zero => exact .nil
    | succ n => exact .cons a (ih n)
theorem AllB.drop {s : St} {vs : List Value} {L : List (List UInt8)} (k : AllB s vs L) (n : Nat) : AllB s (vs.drop n) (L.drop n) := by
  induction k generalizing n with
  | nil => simp; exact .nil
  | cons a t ih => cases n with
    | zero => exact .cons a t
    | succ n => exact ih n
theorem AllB.replicate {s : St} {v : Value} {l : List UInt8} (h : Bytes s v l) (n : Nat) : AllB s (List.replicate n v) (List.replicate n l) := by
  induction n with
  | zero => exact .nil
  | succ n ih => exact .cons h ih

theorem bcell_atom (b : UInt8) : Eng.isCell (bcell b) = true := rfl
theorem bytes_map (l : List UInt8) : bytesOfCells (l.map bcell) = some l := by
  induction l with
  | nil => rfl
  | cons b l ih => simp [bytesOfCells, bcell, ih]
theorem cellsOf_map (b : ByteArray) : cellsOfBytes b = b.data.toList.map bcell := rfl

theorem loop_toList (b : ByteArray) : ∀ (k i : Nat) (r : List UInt8), b.size - i = k → ByteArray.toList.loop b i r = r.reverse ++ b.data.toList.drop i := by
  intro k
  induction k with
  | zero =>
    intro i r h
    unfold ByteArray.toList.loop
    rw [if_neg (by omega), List.drop_of_length_le (by rw [Array.length_toList]; show b.data.size ≤ i; have : b.data.size = b.size := rfl; omega)]
    simp
  | succ k ih =>
    intro i r h
    unfold ByteArray.toList.loop
    rw [if_pos (by omega), ih (i + 1) _ (by omega)]
    have hi : i < b.data.toList.length := by rw [Array.length_toList]; show i < b.size; omega
    rw [List.drop_eq_getElem_cons hi]
    simp only [List.reverse_cons, List.append_assoc, List.singleton_append]
    congr 2
    have hi' : i < b.data.size := by rw [← Array.length_toList]; exact hi
    show b.data[i]! = _
    rw [getElem!_pos b.data i hi', Array.getElem_toList]
theorem toList_mk (l : List UInt8) : (ByteArray.mk l.toArray).toList = l := by
  have := loop_toList (ByteArray.mk l.toArray) _ 0 [] rfl
  simpa [ByteArray.toList] using this
theorem toList_empty : ByteArray.empty.toList = [] := by
  have := loop_toList ByteArray.empty _ 0 [] rfl
  simpa [ByteArray.toList] using this

/-! ### some operations -/
def isSl (P : Program) (t : TypeId) : Bool := match P.underlying t with | some (.slice _) => true | _ => false
theorem isSl_of {P : Program} {t : TypeId} (h : isSl P t = true) : ∃ e, P.underlying t = some (.slice e) := by
  unfold isSl at h
  split at h
  · exact ⟨_, by assumption⟩
  · simp at h
theorem eq_row_nil {P : Program} {t : TypeId} (h : isSl P t = true) (a : Addr) (n c x y : Nat) : aEqN P Op.maxDepth t (.slice (some a) n c) (.slice none x y) = some false := by
  obtain ⟨e, h⟩ := isSl_of h
  show aEqN P (9999 + 1) _ _ _ = _
  simp [aEqN, h]
theorem eq_nil_nil {P : Program} {t : TypeId} (h : isSl P t = true) (n c x y : Nat) : aEqN P Op.maxDepth t (.slice none n c) (.slice none x y) = some true := by
  obtain ⟨e, h⟩ := isSl_of h
  show aEqN P (9999 + 1) _ _ _ = _
  simp [aEqN, h]
theorem append_exact {P : Program} {s : St} {t t2 el : TypeId} {d2 : TypeDesc} {z b id off n m : Nat} {y zero : Value} {old new : List Value} (hu : P.underlying t = some (.slice el)) (hu2 : P.underlying t2 = some d2) (hni : ∀ k, d2 ≠ .int k)
    (hz : sizeT P el = some z) (hb : bytesT P el = some b) (hze : zeroT P el = some zero) (h0 : z ≠ 0) (h1 : b ≠ 0) (h2 : zero.cells.size = z) (hm : lenIn y = some m) (hnew : cellsIn s z m y = some new) (hm0 : m ≠ 0)
    (hbig : (2 * (n + m) + 400) * b ≤ 2 ^ 48) (hold : s.some? id off (n * z) = some old) :
    aAppend P s t t2 (.slice (some ⟨id, off, none⟩) n (2 * z)) y = some (.slice (some ⟨s.next, 0, none⟩) (n + m) (2 * z + 1), s.new (.cells (old ++ new) true)) := by
  unfold aAppend
  rw [hu, hu2]
  cases d2 <;> first | exact absurd rfl (hni _) | (simp only [hz, hb, hze, hm, hnew, hold, h0, h1, h2, hm0, ne_eq, not_true_eq_false, or_self, if_false, if_true]; rw [if_neg (by omega)])
theorem append_zero {P : Program} {s : St} {t t2 el : TypeId} {d2 : TypeDesc} {z b n c : Nat} {a : Addr} {y zero : Value} {new : List Value} (hu : P.underlying t = some (.slice el)) (hu2 : P.underlying t2 = some d2) (hni : ∀ k, d2 ≠ .int k)
    (hz : sizeT P el = some z) (hb : bytesT P el = some b) (hze : zeroT P el = some zero) (h0 : z ≠ 0) (h1 : b ≠ 0) (h2 : zero.cells.size = z) (hm : lenIn y = some 0) (hnew : cellsIn s z 0 y = some new) (ha : a.spot = none) :
    aAppend P s t t2 (.slice (some a) n c) y = some (.slice (some a) n c, s) := by
  obtain ⟨ab, ao, asp⟩ := a
  simp only at ha
  subst ha
  unfold aAppend
  rw [hu, hu2]
  cases d2 <;> first | exact absurd rfl (hni _) | simp only [hz, hb, hze, hm, hnew, h0, h1, h2, ne_eq, not_true_eq_false, or_self, if_false, if_true]
theorem cellsIn_row (s : St) (z n id off k c : Nat) : Eng.cellsIn s z n (.slice (some ⟨id, off, none⟩) k c) = s.some? id off (n * z) := rfl
theorem some_new (s : St) {id n : Nat} {c : List Value} {own : Bool} (hid : id = s.next) (hn : n = c.length) : (s.new (.cells c own)).some? id 0 n = some c := by
  subst hid; exact some_all (row_new _ _ _) hn
theorem int_beq (a b : Int) : (a == b) = decide (a = b) := by by_cases h : a = b <;> simp [h]
theorem int_bne (a b : Int) : (a != b) = !decide (a = b) := by by_cases h : a = b <;> simp [h]
theorem bool_eqt (b : Bool) : (b == true) = b := by cases b <;> rfl
theorem bool_eqf (b : Bool) : (b == false) = !b := by cases b <;> rfl
theorem Sects.cases {s : St} {v : Value} {L : List (List UInt8)} (h : Sects s v L) : (v = .slice none 0 0 ∧ L = []) ∨ ∃ id off c vs, v = .slice (some ⟨id, off, none⟩) L.length c ∧ id < s.next ∧ s.some? id off L.length = some vs ∧ c / 2 = 1 ∧ AllB s vs L := by
  cases h with
  | nil => exact .inl ⟨rfl, rfl⟩
  | row hi hr hz hv => exact .inr ⟨_, _, _, _, rfl, hi, hr, hz, hv⟩
theorem load_one {P : Program} {s : St} {t : TypeId} {id off n i : Nat} {vs : List Value} (ha : isAggT P t = some false) (h : s.some? id off n = some vs) (hi : i < n) : aLoad P s t id (off + i) = vs[i]? := by
  obtain ⟨c, own, hr, hl, rfl⟩ := some_row h
  unfold aLoad
  rw [ha, hr]
  simp only
  rw [List.getElem?_take, if_pos hi, List.getElem?_drop]
theorem wrap64 {x : Int} (h : -9223372036854775808 ≤ x) (h' : x < 9223372036854775808) : IntKind.i64.wrap x = x := by
  simp [IntKind.wrap, IntKind.bits, IntKind.signed]; omega
theorem someNew (s : St) (c : List Value) (own : Bool) (off n : Nat) : (s.new (.cells c own)).some? s.next off n = if off + n ≤ c.length then some ((c.drop off).take n) else none := by
  unfold St.some?; rw [row_new]
theorem Sects.shape {s : St} {v : Value} {L : List (List UInt8)} (h : Sects s v L) : ∃ a c, v = .slice a L.length c := by cases h <;> exact ⟨_, _, rfl⟩
theorem Bytes.shape {s : St} {v : Value} {l : List UInt8} (h : Bytes s v l) : ∃ a c, v = .slice a l.length c := by cases h <;> exact ⟨_, _, rfl⟩
theorem cast_lit (n : Nat) : ((no_index (OfNat.ofNat n) : Nat) : Int) = OfNat.ofNat n := rfl
theorem repCells_one (v : Value) (n : Nat) : repCells [v] n = List.replicate n v := by
  unfold repCells; induction n with
  | zero => rfl
  | succ n ih => rw [List.replicate_succ, List.flatten_cons, ih, List.replicate_succ]; rfl
theorem makeSlice_exact {P : Program} {s : St} {t el : TypeId} {z b n : Nat} {zero : Value} (hu : P.underlying t = some (.slice el)) (hz : sizeT P el = some z) (hb : bytesT P el = some b) (hze : zeroT P el = some zero) (h0 : z ≠ 0) (h1 : b ≠ 0) (h2 : zero.cells.size = z) (h : (b : Int) * n ≤ 2 ^ 48) :
    aMakeSlice P s t (.int .i64 n) (.int .i64 n) = some (.slice (some ⟨s.next, 0, none⟩) n (2 * z), s.new (.cells (repCells zero.cells.toList n) true)) := by
  unfold aMakeSlice
  simp only [hu, hz, hb, hze, h0, h1, h2, ne_eq, not_true_eq_false, or_self, if_false, Int.le_refl, true_and, Int.toNat_natCast, if_true]
  rw [if_pos ⟨by omega, h⟩]
/-- stores into a row of one's own -/
theorem store_one {P : Program} {s : St} {t : TypeId} {id i : Nat} {c : List Value} {v : Value} (hz : sizeT P t = some 1) (hr : s.row id = some (c, true)) (hi : i < c.length) (hv : v.cells = #[v]) (hc : isCell v = true) : aStore P s t id i v = some (s.put id (.cells (c.set i v) true)) := by
  unfold aStore
  rw [hz, hr]
  simp only [hv]
  rw [if_pos ⟨rfl, by omega, by simp [hc]⟩]
  rfl
/-- a slice that lies at lo or later -/
def From (lo : Nat) (v : Value) : Prop := ∀ id off sp n c, v = .slice (some ⟨id, off, sp⟩) n c → lo ≤ id
theorem From.nil (lo n c : Nat) : From lo (.slice none n c) := by intro id off sp n c h; simp at h
theorem From.mk {lo id off n c : Nat} {sp : Option Nat} (h : lo ≤ id) : From lo (.slice (some ⟨id, off, sp⟩) n c) := by intro id' off' sp' n' c' e; simp at e; omega
theorem From.le {lo lo' : Nat} {v : Value} (h : From lo v) (hl : lo' ≤ lo) : From lo' v := fun id off sp n c e => Nat.le_trans hl (h id off sp n c e)
theorem Bytes.put {s : St} {v : Value} {l : List UInt8} (h : Bytes s v l) {id : Nat} (hf : From (id + 1) v) (o : AObj) : Bytes (s.put id o) v l := by
  cases h with
  | nil => exact .nil
  | @row j off c _ hi hr hz =>
    have := hf _ _ _ _ _ rfl
    exact .row hi ((some_congr (get_put_ne s o (by omega)) _ _).trans hr) hz
theorem AllB.put {s : St} {vs : List Value} {L : List (List UInt8)} (h : AllB s vs L) {id : Nat} (hf : ∀ v ∈ vs, From (id + 1) v) (o : AObj) : AllB (s.put id o) vs L := by
  induction h with
  | nil => exact .nil
  | cons a _ ih => exact .cons (a.put (hf _ (by simp)) o) (ih fun v hv => hf v (by simp [hv]))
theorem take_set_succ {α : Type} (vs : List α) (k : Nat) (u : α) (hk : k < vs.length) : (vs.set k u).take (k + 1) = vs.take k ++ [u] := by
  rw [List.take_add_one, List.getElem?_set_self hk, List.take_set_of_le (Nat.le_refl _)]
  rfl
theorem take_get_succ {α : Type} (vs : List α) (k : Nat) {u : α} (h : vs[k]? = some u) : vs.take (k + 1) = vs.take k ++ [u] := by
  rw [List.take_add_one, h]
  rfl
/-- what is read doesn't hang on the mark -/
structure Same (s s' : St) : Prop where
  next : s'.next = s.next
  get : ∀ id, s'.heap.get id = s.heap.get id
theorem Same.mark (s : St) (l : Nat) : Same s (s.mark l) := ⟨rfl, fun _ => rfl⟩
theorem Same.some {s s' : St} (h : Same s s') (id off n : Nat) : s'.some? id off n = s.some? id off n := some_congr (h.get id) _ _
theorem Bytes.same {s s' : St} (h : Same s s') {v : Value} {l : List UInt8} (k : Bytes s v l) : Bytes s' v l := by
  cases k with
  | nil => exact .nil
  | row hi hr hz => exact .row (by rw [h.next]; exact hi) ((h.some _ _ _).trans hr) hz
theorem AllB.same {s s' : St} (h : Same s s') {vs : List Value} {L : List (List UInt8)} (k : AllB s vs L) : AllB s' vs L := by
  induction k with
  | nil => exact .nil
  | cons a _ ih => exact .cons (a.same h) ih
theorem Sects.same {s s' : St} (h : Same s s') {v : Value} {L : List (List UInt8)} (k : Sects s v L) : Sects s' v L := by
  cases k with
  | nil => exact .nil
  | row hi hr hz hv => exact .row (by rw [h.next]; exact hi) ((h.some _ _ _).trans hr) hz (hv.same h)
/-- a call in a region that draws its order -/
theorem Keep.mark {s s' : St} (h : Keep (s.mark s.next) s') : s.next ≤ s'.low ∧ Keep s (s'.mark (min s.low s'.low)) := by
  have h1 := h.low
  have h2 := h.next
  simp only [low_mark, next_mark, Nat.min_self] at h1 h2
  exact ⟨h1, h2, fun id hi => h.get id hi, by simp only [low_mark]; omega⟩
theorem Keep.toMark {s s' : St} (h : Keep s s') {l : Nat} (hl : min s.low s.next ≤ l) : Keep s (s'.mark l) := ⟨h.next, h.get, hl⟩
theorem row_get {s : St} {id off n : Nat} {vs : List Value} (h : s.some? id off n = some vs) : ∃ c own, s.row id = some (c, own) ∧ ∀ i, i < n → c[off + i]? = vs[i]? := by
  obtain ⟨c, own, hr, hl, rfl⟩ := some_row h
  exact ⟨c, own, hr, fun i hi => by rw [List.getElem?_take, if_pos hi, List.getElem?_drop]⟩
/-- rows of rows whose numbers are all of one kind -/
def Away (p : Nat → Prop) (v : Value) : Prop := ∀ id off sp n c, v = .slice (some ⟨id, off, sp⟩) n c → p id
theorem Away.nil (p : Nat → Prop) (n c : Nat) : Away p (.slice none n c) := by intro id off sp n c h; simp at h
theorem Away.mk {p : Nat → Prop} {id off n c : Nat} {sp : Option Nat} (h : p id) : Away p (.slice (some ⟨id, off, sp⟩) n c) := by intro id' off' sp' n' c' e; simp at e; rw [← e.1.1]; exact h
theorem From.away {lo : Nat} {v : Value} (h : From lo v) : Away (fun id => lo ≤ id) v := h
theorem Bytes.putA {s : St} {v : Value} {l : List UInt8} (h : Bytes s v l) {p : Nat → Prop} {id : Nat} (hf : Away p v) (hn : ¬ p id) (o : AObj) : Bytes (s.put id o) v l := by
  cases h with
  | nil => exact .nil
  | @row j off c _ hi hr hz =>
    have := hf _ _ _ _ _ rfl
    exact .row hi ((some_congr (get_put_ne s o (fun e => hn (by rw [← e]; exact this))) _ _).trans hr) hz
theorem AllB.putA {s : St} {vs : List Value} {L : List (List UInt8)} (h : AllB s vs L) {p : Nat → Prop} {id : Nat} (hf : ∀ v ∈ vs, Away p v) (hn : ¬ p id) (o : AObj) : AllB (s.put id o) vs L := by
  induction h with
  | nil => exact .nil
  | cons a _ ih => exact .cons (a.putA (hf _ (by simp)) hn o) (ih fun v hv => hf v (by simp [hv]))
theorem AllB.mem {s : St} {vs : List Value} {L : List (List UInt8)} (h : AllB s vs L) : ∀ v ∈ vs, ∃ l, Bytes s v l := by
  induction h with
  | nil => simp
  | cons a _ ih => intro v hv; rcases List.mem_cons.1 hv with rfl | hv; (· exact ⟨_, a⟩); exact ih v hv
theorem Bytes.lt {s : St} {v : Value} {l : List UInt8} (h : Bytes s v l) : Away (fun id => id < s.next) v := by
  cases h with
  | nil => exact Away.nil _ _ _
  | row hi _ _ => exact Away.mk hi
inductive Sec (p : Nat → Prop) (s : St) : Value → List (List UInt8) → Prop
  | nil : Sec p s (.slice none 0 0) []
  | row {id off c : Nat} {L : List (List UInt8)} {vs : List Value} (hi : id < s.next) (hp : p id) (hr : s.some? id off L.length = some vs) (hz : c / 2 = 1) (hv : AllB s vs L) (hq : ∀ v ∈ vs, Away p v) : Sec p s (.slice (some ⟨id, off, none⟩) L.length c) L
theorem Sec.sects {p : Nat → Prop} {s : St} {v : Value} {L : List (List UInt8)} (h : Sec p s v L) : Sects s v L := by
  cases h with
  | nil => exact .nil
  | row hi _ hr hz hv _ => exact .row hi hr hz hv
theorem Sec.keep {p : Nat → Prop} {s s' : St} (k : Keep s s') {v : Value} {L : List (List UInt8)} (h : Sec p s v L) : Sec p s' v L := by
  cases h with
  | nil => exact .nil
  | row hi hp hr hz hv hq => exact .row (Nat.lt_of_lt_of_le hi k.next) hp ((k.some hi _ _).trans hr) hz (hv.keep k) hq
theorem Sec.same {p : Nat → Prop} {s s' : St} (k : Same s s') {v : Value} {L : List (List UInt8)} (h : Sec p s v L) : Sec p s' v L := by
  cases h with
  | nil => exact .nil
  | row hi hp hr hz hv hq => exact .row (by rw [k.next]; exact hi) hp ((k.some _ _ _).trans hr) hz (hv.same k) hq
theorem Sec.put {p : Nat → Prop} {s : St} {v : Value} {L : List (List UInt8)} (h : Sec p s v L) {id : Nat} (hn : ¬ p id) (o : AObj) : Sec p (s.put id o) v L := by
  cases h with
  | nil => exact .nil
  | @row j off c _ vs hi hp hr hz hv hq => exact .row hi hp ((some_congr (get_put_ne s o (fun e => hn (by rw [← e]; exact hp))) _ _).trans hr) hz (hv.putA hq hn o) hq
theorem Sec.imp {p q : Nat → Prop} {s : St} {v : Value} {L : List (List UInt8)} (h : Sec p s v L) (hi : ∀ id, id < s.next → p id → q id) : Sec q s v L := by
  cases h with
  | nil => exact .nil
  | row hi' hp hr hz hv hq =>
    refine .row hi' (hi _ hi' hp) hr hz hv (fun v hv' id off sp n c e => ?_)
    obtain ⟨l, hl⟩ := hv.mem v hv'
    exact hi id (hl.lt id off sp n c e) (hq v hv' id off sp n c e)
theorem setAll_whole (c l : List Value) (h : c.length = l.length) : setAll c 0 l = l := by
  have := setAll_end l c 0 (by omega)
  simpa using this
theorem store_all {P : Program} {s : St} {t : TypeId} {id n : Nat} {c : List Value} {x : Array Value} (hz : sizeT P t = some n) (hr : s.row id = some (c, true)) (hl : c.length = n) (hx : x.size = n) (hc : x.toList.all isCell = true) : aStore P s t id 0 (.agg x) = some (s.put id (.cells x.toList true)) := by
  unfold aStore
  rw [hz, hr]
  refine (if_pos ⟨hx, by omega, hc⟩).trans ?_
  show some (s.put id (.cells (setAll c 0 x.toList) true)) = _
  rw [setAll_whole _ _ (by simp [hl, hx])]
end Go.Eng
end

section
/- The tree machine: values as trees over the evaluator's heap. A slice that nobody writes is a list; what is written lies in numbered boxes of the running functions. Definitions, and what a tree says about cells. -/
set_option linter.unusedVariables false
set_option linter.unusedSimpArgs false
namespace Go.Tm
open Go.Eng

/-! ### 1. Trees, boxes, paths -/
inductive Pe where
  | fld (t : TypeId) (i : Nat)
  | idx (el : TypeId) (i : Nat)
  deriving DecidableEq

inductive TV where
  | at (v : Value)
  | sl (ex : Bool) (el : TypeId) (l : List TV)
  | ref (l k ver off len : Nat) (ex : Bool) (el : TypeId)
  | ptr (l k ver : Nat) (p : List Pe)
  | ep (v : TV)
  | agg (t : TypeId) (l : List TV)
  | arr (el : TypeId) (l : List TV)
  | row (el : TypeId) (l : List TV)
  | fn (f : FuncId) (a b : List TV)
  | tup (l : List TV)
  deriving Inhabited

abbrev TEnv := List (Option TV)
structure Box where
  c : TV
  sh : Bool
  deriving Inhabited
abbrev Stk := List (List Box)

def look : Stk → Nat → Nat → Option Box
  | [], _, _ => none
  | F :: S, l, k => if l = S.length then F[k]? else look S l k
def upd : Stk → Nat → Nat → Box → Stk
  | [], _, _, _ => []
  | F :: S, l, k, b => if l = S.length then F.set k b :: S else F :: upd S l k b
def push : Stk → Box → Stk
  | [], _ => []
  | F :: S, b => (F ++ [b]) :: S
def topLen : Stk → Nat
  | [] => 0
  | F :: _ => F.length

def vers : TV → Nat
  | .row _ l => l.length
  | _ => 0
def vsOf (st : Stk) (l k : Nat) : Option Nat := (look st l k).map fun b => vers b.c

mutual
/-- says the same whatever the boxes hold -/
def solid : TV → Bool
  | .at _ | .sl _ _ _ | .arr _ _ | .ep _ => true
  | .agg _ l => solidL l
  | .fn _ a b => solidL a && solidL b
  | _ => false
def solidL : List TV → Bool
  | [] => true
  | v :: r => solid v && solidL r
end
theorem solidL_mem {l : List TV} (h : solidL l = true) : ∀ v ∈ l, solid v = true := by
  induction l with
  | nil => simp
  | cons a l ih =>
    simp only [solidL, Bool.and_eq_true] at h
    intro v hv
    rcases List.mem_cons.1 hv with rfl | hv
    · exact h.1
    · exact ih h.2 v hv
theorem solidL_of {l : List TV} (h : ∀ v ∈ l, solid v = true) : solidL l = true := by
  induction l with
  | nil => rfl
  | cons a l ih => simp only [solidL, Bool.and_eq_true]; exact ⟨h a (by simp), ih fun v hv => h v (by simp [hv])⟩

def getP : TV → List Pe → Option TV
  | v, [] => some v
  | .agg t l, .fld t' i :: p => if t = t' then match l[i]? with
    | some u => getP u p
    | none => none
    else none
  | .arr el l, .idx el' i :: p => if el = el' then match l[i]? with
    | some u => getP u p
    | none => none
    else none
  | .row el l, .idx el' i :: p => if el = el' then match l[i]? with
    | some u => getP u p
    | none => none
    else none
  | _, _ => none
def setP : TV → List Pe → TV → Option TV
  | _, [], x => some x
  | .agg t l, .fld t' i :: p, x => if t = t' then match l[i]? with
    | some u => (setP u p x).map fun u' => .agg t (l.set i u')
    | none => none
    else none
  | .arr el l, .idx el' i :: p, x => if el = el' then match l[i]? with
    | some u => (setP u p x).map fun u' => .arr el (l.set i u')
    | none => none
    else none
  | .row el l, .idx el' i :: p, x => if el = el' then match l[i]? with
    | some u => (setP u p x).map fun u' => .row el (l.set i u')
    | none => none
    else none
  | _, _, _ => none
def poff (P : Program) : List Pe → Option Nat
  | [] => some 0
  | .fld t i :: p => match P.underlying t with
    | some (.struct fs) => match fs[i]?, poff P p with
      | some f, some n => some (f.offset + n)
      | _, _ => none
    | _ => none
  | .idx el i :: p => match sizeT P el, poff P p with
    | some z, some n => some (i * z + n)
    | _, _ => none
def hasIdx : List Pe → Bool
  | [] => false
  | .fld _ _ :: p => hasIdx p
  | .idx _ _ :: _ => true

theorem poff_append {P : Program} {p q : List Pe} {a b : Nat} (h : poff P p = some a) (k : poff P q = some b) : poff P (p ++ q) = some (a + b) := by
  induction p generalizing a with
  | nil => simp [poff] at h; subst h; simpa using k
  | cons x p ih =>
    cases x with
    | fld t i =>
      simp only [List.cons_append, poff] at h ⊢
      split at h
      · rename_i fs hu
        split at h
        · rename_i f n hf hp
          simp only [Option.some.injEq] at h
          simp only [hu, hf, ih hp]
          congr 1
          omega
        · simp at h
      · simp at h
    | idx el i =>
      simp only [List.cons_append, poff] at h ⊢
      split at h
      · rename_i z n hz hp
        simp only [Option.some.injEq] at h
        simp only [hz, ih hp]
        congr 1
        omega
      · simp at h

/-- do the fields lie side by side? -/
def tiledGo (P : Program) : Nat → List Field → Option Nat
  | n, [] => some n
  | n, f :: fs => match sizeT P f.type with
    | some z => if f.offset = n then tiledGo P (n + z) fs else none
    | none => none
def tiledT (P : Program) (t : TypeId) : Bool := match P.underlying t with
  | some (.struct fs) => (tiledGo P 0 fs.toList).isSome && tiledGo P 0 fs.toList == sizeT P t
  | _ => false

/-- is it told as one aggregate? -/
def aggy : TV → Bool
  | .agg _ _ | .arr _ _ | .row _ _ => true
  | _ => false

/-! ### 2. What a tree says about cells -/
structure Cfg where
  ρ : Nat → Nat → Option Nat
  fz : Nat → Prop
  vs : Nat → Nat → Option Nat
  s : St

def RefOK (P : Program) (K : Cfg) (l k off len : Nat) (ex : Bool) (el : TypeId) (cell : Value) : Prop :=
  (∃ id c z, K.ρ l k = some id ∧ sizeT P el = some z ∧ c / 2 = z ∧ (ex = true → c = 2 * z) ∧ cell = .slice (some ⟨id, off * z, none⟩) len c) ∨
  (off = 0 ∧ len = 0 ∧ K.vs l k = some 0 ∧ (cell = .slice none 0 0 ∨ ∃ id o z, cell = .slice (some ⟨id, o, none⟩) 0 (2 * z) ∧ sizeT P el = some z ∧ K.fz id ∧ K.s.some? id o 0 = some []))

inductive RC (P : Program) (K : Cfg) : TV → List Value → Prop
  | at {v : Value} (h : atom v = true) : RC P K (.at v) [v]
  | slnil {ex : Bool} {el : TypeId} : RC P K (.sl ex el []) [.slice none 0 0]
  | sl {ex : Bool} {el : TypeId} {l : List TV} {id off c z : Nat} {cs : List Value} (hid : K.fz id) (hr : K.s.some? id off (l.length * z) = some cs) (hz : sizeT P el = some z) (hc : c / 2 = z) (hx : ex = true → c = 2 * z) (hs : solidL l = true)
      (he : ∀ i tv, l[i]? = some tv → RC P K tv ((cs.drop (i * z)).take z)) : RC P K (.sl ex el l) [.slice (some ⟨id, off, none⟩) l.length c]
  | ref {l k ver off len n : Nat} {ex : Bool} {el : TypeId} {cell : Value} (hv : K.vs l k = some n) (hle : ver ≤ n) (h : ver = n → RefOK P K l k off len ex el cell) (hc : isCell cell = true) : RC P K (.ref l k ver off len ex el) [cell]
  | ptr {l k ver n : Nat} {p : List Pe} {cell : Value} (hv : K.vs l k = some n) (hle : ver ≤ n) (h : ver = n → ∃ id off, K.ρ l k = some id ∧ poff P p = some off ∧ cell = .pointer (some ⟨id, off, none⟩)) (hc : isCell cell = true) : RC P K (.ptr l k ver p) [cell]
  | ep {tv : TV} {id off : Nat} {cs : List Value} (hid : K.fz id) (hr : K.s.some? id off cs.length = some cs) (hs : solid tv = true) (h : RC P K tv cs) : RC P K (.ep tv) [.pointer (some ⟨id, off, none⟩)]
  | agg {t : TypeId} {l : List TV} {fs : Array Field} {cs : List Value} (ht : P.underlying t = some (.struct fs)) (htl : tiledT P t = true) (hs : sizeT P t = some cs.length) (hl : l.length = fs.size)
      (hf : ∀ (i : Nat) (f : Field), fs[i]? = some f → ∃ z, sizeT P f.type = some z ∧ f.offset + z ≤ cs.length)
      (h : ∀ (i : Nat) (f : Field) tv z, fs[i]? = some f → l[i]? = some tv → sizeT P f.type = some z → RC P K tv ((cs.drop f.offset).take z)) : RC P K (.agg t l) cs
  | arr {el : TypeId} {l : List TV} {z : Nat} {cs : List Value} (hz : sizeT P el = some z) (hl : cs.length = l.length * z) (hs : solidL l = true) (h : ∀ i tv, l[i]? = some tv → RC P K tv ((cs.drop (i * z)).take z)) : RC P K (.arr el l) cs
  | row {el : TypeId} {l : List TV} {z : Nat} {cs : List Value} (hz : sizeT P el = some z) (hl : cs.length = l.length * z) (hs : solidL l = true) (h : ∀ i tv, l[i]? = some tv → RC P K tv ((cs.drop (i * z)).take z)) : RC P K (.row el l) cs
  | fn {f : FuncId} {a b : List TV} {x y : List Value} (ha : a.length = x.length) (hb : b.length = y.length) (hi : ∀ v ∈ x, isCell v = true) (hj : ∀ v ∈ y, isCell v = true) (na : ∀ v ∈ a, aggy v = false) (nb : ∀ v ∈ b, aggy v = false) (h : ∀ (i : Nat) tv v, a[i]? = some tv → x[i]? = some v → RC P K tv v.cells.toList) (h' : ∀ (i : Nat) tv v, b[i]? = some tv → y[i]? = some v → RC P K tv v.cells.toList) : RC P K (.fn f a b) [.func (.func f) x.toArray y.toArray]

/-- what may come between two configurations -/
structure CLe (K K' : Cfg) : Prop where
  fz : ∀ id, K.fz id → K'.fz id ∧ K'.s.heap.get id = K.s.heap.get id
  vs : ∀ l k n, K.vs l k = some n → ∃ n', K'.vs l k = some n' ∧ n ≤ n' ∧ (n' = n → K'.ρ l k = K.ρ l k)
theorem CLe.refl (K : Cfg) : CLe K K := ⟨fun _ h => ⟨h, rfl⟩, fun _ _ n h => ⟨n, h, Nat.le_refl _, fun _ => rfl⟩⟩
theorem CLe.trans {A B C : Cfg} (h : CLe A B) (k : CLe B C) : CLe A C :=
  ⟨fun id hi => ⟨(k.fz id (h.fz id hi).1).1, (k.fz id (h.fz id hi).1).2.trans (h.fz id hi).2⟩, fun l j n hn => by
    obtain ⟨n1, h1, h2, h3⟩ := h.vs l j n hn
    obtain ⟨n2, k1, k2, k3⟩ := k.vs l j n1 h1
    exact ⟨n2, k1, by omega, fun e => (k3 (by omega)).trans (h3 (by omega))⟩⟩

theorem RC.mono {P : Program} {K K' : Cfg} (hk : CLe K K') {tv : TV} {cs : List Value} (h : RC P K tv cs) : RC P K' tv cs := by
  induction h with
  | «at» h => exact .at h
  | slnil => exact .slnil
  | sl hid hr hz hc hx hs _ ih => exact .sl (hk.fz _ hid).1 ((some_congr (hk.fz _ hid).2 _ _).trans hr) hz hc hx hs ih
  | ref hv hle h hc =>
    obtain ⟨n', h1, h2, h3⟩ := hk.vs _ _ _ hv
    refine .ref h1 (by omega) (fun e => ?_) hc
    rcases h (by omega) with ⟨id, c, z, a1, a2, a3, a4, a5⟩ | ⟨a1, a2, a3, a4⟩
    · exact .inl ⟨id, c, z, (h3 (by omega)).trans a1, a2, a3, a4, a5⟩
    · refine .inr ⟨a1, a2, ?_, ?_⟩
      · rw [hv] at a3; simp at a3; rw [h1]; simp; omega
      · rcases a4 with a4 | ⟨id, o, z, b1, b2, b3, b4⟩
        · exact .inl a4
        · exact .inr ⟨id, o, z, b1, b2, (hk.fz _ b3).1, (some_congr (hk.fz _ b3).2 _ _).trans b4⟩
  | ptr hv hle h hc =>
    obtain ⟨n', h1, h2, h3⟩ := hk.vs _ _ _ hv
    refine .ptr h1 (by omega) (fun e => ?_) hc
    obtain ⟨id, off, a1, a2, a3⟩ := h (by omega)
    exact ⟨id, off, (h3 (by omega)).trans a1, a2, a3⟩
  | ep hid hr hs _ ih => exact .ep (hk.fz _ hid).1 ((some_congr (hk.fz _ hid).2 _ _).trans hr) hs ih
  | agg ht htl hs hl hf _ ih => exact .agg ht htl hs hl hf ih
  | arr hz hl hs _ ih => exact .arr hz hl hs ih
  | row hz hl hs _ ih => exact .row hz hl hs ih
  | fn ha hb hi hj na nb _ _ ih ih' => exact .fn ha hb hi hj na nb ih ih'


theorem RC.solid {P : Program} {K K' : Cfg} (hk : ∀ id, K.fz id → K'.fz id ∧ K'.s.heap.get id = K.s.heap.get id) {tv : TV} {cs : List Value} (h : RC P K tv cs) : Tm.solid tv = true → RC P K' tv cs := by
  induction h with
  | «at» h => intro _; exact .at h
  | slnil => intro _; exact .slnil
  | sl hid hr hz hc hx hs _ ih => intro _; exact .sl (hk _ hid).1 ((some_congr (hk _ hid).2 _ _).trans hr) hz hc hx hs fun i tv hi => ih i tv hi (solidL_mem hs _ (List.mem_of_getElem? hi))
  | ref => intro h; simp [Tm.solid] at h
  | ptr => intro h; simp [Tm.solid] at h
  | ep hid hr hs _ ih => intro _; exact .ep (hk _ hid).1 ((some_congr (hk _ hid).2 _ _).trans hr) hs (ih hs)
  | agg ht htl hs hl hf _ ih => intro h; exact .agg ht htl hs hl hf fun i f tv z a b c => ih i f tv z a b c (solidL_mem (by simpa [Tm.solid] using h) _ (List.mem_of_getElem? b))
  | arr hz hl hs _ ih => intro _; exact .arr hz hl hs fun i tv hi => ih i tv hi (solidL_mem hs _ (List.mem_of_getElem? hi))
  | row hz hl hs _ ih => intro h; simp [Tm.solid] at h
  | fn ha hb hi hj na nb _ _ ih ih' =>
    intro h
    simp only [Tm.solid, Bool.and_eq_true] at h
    exact .fn ha hb hi hj na nb (fun i tv v a b => ih i tv v a b (solidL_mem h.1 _ (List.mem_of_getElem? a))) (fun i tv v a b => ih' i tv v a b (solidL_mem h.2 _ (List.mem_of_getElem? a)))

def isAgg : Value → Bool
  | .agg _ => true
  | _ => false
def isTup : TV → Bool
  | .tup _ => true
  | _ => false
def RV1 (P : Program) (K : Cfg) (tv : TV) (v : Value) : Prop := RC P K tv v.cells.toList ∧ isAgg v = aggy tv
def RV (P : Program) (K : Cfg) (tv : TV) (v : Value) : Prop :=
  match tv with
  | .tup l => ∃ vs : Array Value, v = .tuple vs ∧ l.length = vs.size ∧ ∀ (i : Nat) t u, l[i]? = some t → vs[i]? = some u → RV1 P K t u
  | tv => RV1 P K tv v

theorem RC.one {P : Program} {K : Cfg} {tv : TV} {cs : List Value} (h : RC P K tv cs) (ha : aggy tv = false) : ∃ c, cs = [c] ∧ isCell c = true := by
  cases h with
  | «at» h => exact ⟨_, rfl, by rename_i v; cases v <;> first | rfl | simp [atom] at h⟩
  | slnil => exact ⟨_, rfl, rfl⟩
  | sl => exact ⟨_, rfl, rfl⟩
  | ref _ _ _ hc => exact ⟨_, rfl, hc⟩
  | ptr _ _ _ hc => exact ⟨_, rfl, hc⟩
  | ep => exact ⟨_, rfl, rfl⟩
  | agg => simp [aggy] at ha
  | arr => simp [aggy] at ha
  | row => simp [aggy] at ha
  | fn => exact ⟨_, rfl, rfl⟩
theorem cells_agg (c : Array Value) : (Value.agg c).cells = c := rfl
theorem cells_not {v : Value} (h : isAgg v = false) : v.cells = #[v] := by cases v <;> first | rfl | simp [isAgg] at h
theorem isAgg_cell {v : Value} (h : isCell v = true) : isAgg v = false := by cases v <;> first | rfl | simp [isCell] at h
/-- the value that these cells are -/
def valOf (tv : TV) (cs : List Value) : Value := if aggy tv then .agg cs.toArray else cs.headD default
theorem RV1.ofRC {P : Program} {K : Cfg} {tv : TV} {cs : List Value} (h : RC P K tv cs) : RV1 P K tv (valOf tv cs) := by
  unfold valOf
  cases ha : aggy tv with
  | true => exact ⟨by simpa [cells_agg] using h, by rw [ha]; rfl⟩
  | false =>
    obtain ⟨c, rfl, hc⟩ := h.one ha
    have := isAgg_cell hc
    exact ⟨by simpa [cells_not this] using h, by rw [ha]; simpa using this⟩
theorem RV1.notup {P : Program} {K : Cfg} {tv : TV} {v : Value} (h : RV1 P K tv v) : isTup tv = false := by
  obtain ⟨h, _⟩ := h
  generalize v.cells.toList = cs at h
  cases h <;> rfl
theorem RV.of {P : Program} {K : Cfg} {tv : TV} {v : Value} (h : RV1 P K tv v) : RV P K tv v := by
  have := h.notup
  unfold RV
  split
  · simp [isTup] at this
  · exact h
theorem RV.to {P : Program} {K : Cfg} {tv : TV} {v : Value} (h : RV P K tv v) (ht : isTup tv = false) : RV1 P K tv v := by
  unfold RV at h
  split at h
  · simp [isTup] at ht
  · exact h
theorem RV1.mono {P : Program} {K K' : Cfg} (hk : CLe K K') {tv : TV} {v : Value} (h : RV1 P K tv v) : RV1 P K' tv v := ⟨h.1.mono hk, h.2⟩
theorem RV.mono {P : Program} {K K' : Cfg} (hk : CLe K K') {tv : TV} {v : Value} (h : RV P K tv v) : RV P K' tv v := by
  unfold RV at h ⊢
  split at h
  · obtain ⟨vs, a, b, c⟩ := h; exact ⟨vs, a, b, fun i t u x y => (c i t u x y).mono hk⟩
  · exact h.mono hk
/-- what a value is, out of what its tree is -/
theorem RV1.single {P : Program} {K : Cfg} {tv : TV} {v : Value} (h : RV1 P K tv v) (ha : aggy tv = false) : RC P K tv [v] ∧ isCell v = true := by
  have h2 := h.2
  rw [ha] at h2
  have h1 := h.1
  rw [cells_not h2] at h1
  obtain ⟨c, hc, hi⟩ := h1.one ha
  simp at hc
  subst hc
  exact ⟨h1, hi⟩
theorem RV1.aggr {P : Program} {K : Cfg} {tv : TV} {v : Value} (h : RV1 P K tv v) (ha : aggy tv = true) : ∃ c, v = .agg c ∧ RC P K tv c.toList := by
  obtain ⟨h1, h2⟩ := h
  rw [ha] at h2
  cases v <;> first | exact ⟨_, rfl, h1⟩ | simp [isAgg] at h2
end Go.Tm
end

section
/- The tree machine's operations. -/
set_option linter.unusedVariables false
set_option linter.unusedSimpArgs false
namespace Go.Tm
open Go.Eng

/-! ### 1. Questions about types -/
/-- does a tree stand for a value of this type, as far as its outermost layer tells? -/
def fits (P : Program) (t : TypeId) : TV → Bool
  | .agg t' _ => t' == t && (match P.underlying t with | some (.struct _) => true | _ => false)
  | .arr el l => match P.underlying t, sizeT P el with
    | some (.array n el'), some z => el' == el && n == l.length && sizeT P t == some (n * z)
    | _, _ => false
  | .row _ _ | .tup _ => false
  | _ => isAggT P t == some false && sizeT P t == some 1

mutual
/-- a tree out of cells without addresses -/
def parseT (P : Program) : Nat → TypeId → List Value → Option TV
  | 0, _, _ => none
  | n + 1, t, cs => match P.underlying t with
    | some (.struct fs) => if sizeT P t = some cs.length ∧ tiledT P t = true then (parseF P n cs fs.toList).map (.agg t) else none
    | some (.array k el) => match sizeT P el with
      | some z => if cs.length = k * z then (parseA P n el z k cs).map (.arr el) else none
      | none => none
    | _ => match cs with
      | [v] => if atom v then some (.at v) else none
      | _ => none
def parseF (P : Program) : Nat → List Value → List Field → Option (List TV)
  | 0, _, _ => none
  | _ + 1, _, [] => some []
  | n + 1, cs, f :: fs => match sizeT P f.type with
    | some z => if f.offset + z ≤ cs.length then match parseT P n f.type ((cs.drop f.offset).take z), parseF P n cs fs with
        | some v, some l => some (v :: l)
        | _, _ => none
      else none
    | none => none
def parseA (P : Program) : Nat → TypeId → Nat → Nat → List Value → Option (List TV)
  | 0, _, _, _, _ => none
  | _ + 1, _, _, 0, _ => some []
  | n + 1, el, z, k + 1, cs => match parseT P n el (cs.take z), parseA P n el z k (cs.drop z) with
    | some v, some l => if solid v then some (v :: l) else none
    | _, _ => none
end
/-- the zero value of a type -/
def zeroTV (P : Program) (t : TypeId) : Option TV := match zeroT P t with
  | some z => match parseT P 100000 t z.cells.toList with
    | some tv => if isAgg z = aggy tv ∧ solid tv = true ∧ fits P t tv = true then some tv else none
    | none => none
  | none => none
/-- field i of a struct: its type -/
def ftypeT (P : Program) (t : TypeId) (i : Nat) : Option TypeId := match P.underlying t with
  | some (.struct fs) => (fs[i]?).map (·.type)
  | _ => none
def fieldOK (P : Program) (t : TypeId) (i : Nat) : Bool := match P.underlying t with
  | some (.struct fs) => match fs[i]? with
    | some f => match sizeT P f.type with
      | some (_ + 1) => true
      | _ => false
    | none => false
  | _ => false
def sizedT (P : Program) (t : TypeId) : Bool := match P.underlying t with
  | some (.struct fs) => fs.toList.all fun f => (sizeT P f.type).isSome
  | _ => false
/-- a slice type: its element, the element's cells and bytes -/
def slT (P : Program) (t : TypeId) : Option (TypeId × Nat × Nat) := match P.underlying t with
  | some (.slice el) => match sizeT P el, bytesT P el, zeroT P el with
    | some z, some b, some zero => if z = 0 ∨ b = 0 ∨ zero.cells.size ≠ z then none else some (el, z, b)
    | _, _, _ => none
  | _ => none
def arT (P : Program) (t : TypeId) : Option (Nat × TypeId × Nat) := match P.underlying t with
  | some (.array n el) => match sizeT P el with
    | some z => some (n, el, z)
    | none => none
  | _ => none
def kindT (P : Program) (t : TypeId) : Nat := match P.underlying t with
  | some .string => 1
  | some (.int _) => 2
  | some (.slice _) => 3
  | some (.array _ _) => 4
  | some (.pointer _) => 5
  | some (.struct _) => 6
  | some (.func _ _ _) => 7
  | some .bool => 8
  | some (.map _ _) => 9
  | some _ => 10
  | none => 0
def intT (P : Program) (t : TypeId) : Option IntKind := match P.underlying t with
  | some (.int k) => some k
  | _ => none

/-! ### 2. Operands -/
def topd (e : TEnv) : Operand → Option TV
  | .tmp t => (e[t]?).getD none
  | .const v => if atom v then some (.at v) else none
  | .func f => some (.fn f [] [])
  | .global _ => none
def topds (e : TEnv) : List Operand → Option (List TV)
  | [] => some []
  | x :: r => match topd e x with
    | some v => match topds e r with
      | some l => some (v :: l)
      | none => none
    | none => none
def topdO (e : TEnv) : Option Operand → Option (Option Value)
  | none => some none
  | some x => match topd e x with
    | some (.at v) => some (some v)
    | _ => none
def tparts (e : TEnv) : List (Nat × Operand) → Option (List (Nat × TV))
  | [] => some []
  | (i, x) :: r => match topd e x with
    | some v => match tparts e r with
      | some l => some ((i, v) :: l)
      | none => none
    | none => none

/-! ### 3. Slices as lists; what is taken as it is now -/
/-- the elements of a slice of el, as they are now -/
def elems (st : Stk) (el : TypeId) : TV → Option (List TV)
  | .sl _ el' l => if el' = el then some l else none
  | .at (.slice none 0 0) => some []
  | .ref l k ver off len _ el' => if el' = el then match look st l k with
    | some b => match b.c with
      | .row el'' c => if ver = c.length ∧ off + len ≤ c.length ∧ el'' = el then some ((c.drop off).take len) else none
      | .arr el'' c => if ver = 0 ∧ off + len ≤ c.length ∧ el'' = el then some ((c.drop off).take len) else none
      | _ => none
    | none => none
    else none
  | _ => none
def markS (st : Stk) (l k : Nat) : Stk := match look st l k with
  | some b => upd st l k ⟨b.c, true⟩
  | none => st
def marks (st : Stk) : List (Nat × Nat) → Stk
  | [] => st
  | (l, k) :: r => marks (markS st l k) r
mutual
/-- a value without references, and the boxes that it holds on to -/
def snapU (st : Stk) : TV → Option (TV × List (Nat × Nat))
  | .ref l k ver off len ex el => (elems st el (.ref l k ver off len ex el)).map fun c => (.sl false el c, [(l, k)])
  | .agg t l => match snapUL st l with
    | some (l', ks) => some (.agg t l', ks)
    | none => none
  | .at v => some (.at v, [])
  | .sl ex el l => some (.sl ex el l, [])
  | .arr el l => some (.arr el l, [])
  | .ep v => some (.ep v, [])
  | _ => none
def snapUL (st : Stk) : List TV → Option (List TV × List (Nat × Nat))
  | [] => some ([], [])
  | v :: r => match snapU st v, snapUL st r with
    | some (v', k), some (r', ks) => some (v' :: r', k ++ ks)
    | _, _ => none
end
def snap (st : Stk) (v : TV) : Option (TV × List (Nat × Nat)) := if solid v then some (v, []) else snapU st v
def snapL (st : Stk) (l : List TV) : Option (List TV × List (Nat × Nat)) := if solidL l then some (l, []) else snapUL st l

/-! ### 4. Operations -/
/-- is what it points at still there? -/
def live (st : Stk) (l k ver : Nat) : Bool := match look st l k with
  | some b => ver == vers b.c
  | none => false
mutual
/-- the cells of a tree without slices -/
def flatC (P : Program) : TV → Option (List Value)
  | .at v => some [v]
  | .agg t l => if tiledT P t then flatCL P l else none
  | .arr _ l => flatCL P l
  | _ => none
def flatCL (P : Program) : List TV → Option (List Value)
  | [] => some []
  | v :: r => match flatC P v, flatCL P r with
    | some a, some b => some (a ++ b)
    | _, _ => none
end
/-- of what kind is it, when it is surely not nil? -/
def nonNil (st : Stk) : TV → Option Nat
  | .sl _ _ (_ :: _) => some 3
  | .ref l k ver _ (_ + 1) _ _ => if live st l k ver then some 3 else none
  | .ptr l k ver _ => if live st l k ver then some 5 else none
  | .ep _ => some 5
  | .fn _ _ _ => some 7
  | _ => none
def nilOf : Value → Option Nat
  | .slice none 0 0 => some 3
  | .pointer none => some 5
  | .nilFunc => some 7
  | _ => none

def tBin (P : Program) (st : Stk) (op : BinOp) (t : TypeId) (x y : TV) : Option TV :=
  match x, y with
  | .at a, .at b => match aBin P op t a b with
    | some v => if atom v then some (.at v) else none
    | none => none
  | .agg t1 l1, .agg t2 l2 => match flatC P (.agg t1 l1), flatC P (.agg t2 l2) with
    | some a, some b => match aBin P op t (.agg a.toArray) (.agg b.toArray) with
      | some v => if atom v then some (.at v) else none
      | none => none
    | _, _ => none
  | a, .at b => if nonNil st a = some (kindT P t) ∧ nilOf b = some (kindT P t) then match op with
    | .eql => some (.at (.bool false))
    | .neq => some (.at (.bool true))
    | _ => none
    else none
  | _, _ => none

def buildL (P : Program) (t : TypeId) (z : List TV) : List (Nat × TV) → Option (List TV)
  | [] => some z
  | (i, v) :: r => match ftypeT P t i with
    | some ft => if fits P ft v = true ∧ i < z.length then buildL P t (z.set i v) r else none
    | none => none
def buildA (P : Program) (el : TypeId) (z : List TV) : List (Nat × TV) → Option (List TV)
  | [] => some z
  | (i, v) :: r => if fits P el v = true ∧ solid v = true ∧ i < z.length then buildA P el (z.set i v) r else none

def tIndexAddr (P : Program) (st : Stk) (t : TypeId) (x : TV) (i : Int) : Option TV :=
  match x with
  | .ptr l k ver p => match arT P t with
    | some (n, el, _) => if live st l k ver = true ∧ 0 ≤ i ∧ i < n then some (.ptr l k ver (p ++ [.idx el i.toNat])) else none
    | none => none
  | .ref l k ver off len _ el => match slT P t with
    | some (el', _, _) => if live st l k ver = true ∧ 0 ≤ i ∧ i < len ∧ el' = el then some (.ptr l k ver [.idx el (off + i.toNat)]) else none
    | none => none
  | .sl _ el l => match slT P t with
    | some (el', _, _) => if 0 ≤ i ∧ el' = el then match l[i.toNat]? with
      | some v => some (.ep v)
      | none => none
      else none
    | none => none
  | .ep (.arr el l) => match arT P t with
    | some (n, el', _) => if 0 ≤ i ∧ el' = el ∧ n = l.length then match l[i.toNat]? with
      | some v => some (.ep v)
      | none => none
      else none
    | none => none
  | _ => none

def tIndex (P : Program) (t : TypeId) (x : TV) (i : Int) : Option TV :=
  match x with
  | .arr el l => match arT P t with
    | some (n, el', _) => if 0 ≤ i ∧ el' = el ∧ n = l.length ∧ (l[i.toNat]?).all (fits P el) = true then l[i.toNat]? else none
    | none => none
  | .at (.string s) => if kindT P t = 1 ∧ 0 ≤ i then (s[i.toNat]?).map fun b => .at (.int .u8 b.toNat) else none
  | _ => none

def tSlice (P : Program) (st : Stk) (t : TypeId) (x : TV) (lo hi mx : Option Value) : Option TV :=
  match x with
  | .ptr l k ver p => match arT P t, mx with
    | some (n, el, _), none => match aBounds n lo hi, look st l k with
      | some (a, b), some bx => match bx.c, p with
        | .arr el' c, [] => if el' = el ∧ c.length = n ∧ ver = 0 then some (.ref l k 0 a (b - a) (b == n) el) else none
        | _, _ => none
      | _, _ => none
    | _, _ => none
  | .at (.string s) => if kindT P t = 1 then match mx, aBounds s.size lo hi with
      | none, some (a, b) => some (.at (.string (s.extract a b)))
      | _, _ => none
    else none
  | .at (.slice none 0 0) => match slT P t, mx, aBounds 0 lo hi with
    | some _, none, some _ => some (.at (.slice none 0 0))
    | _, _, _ => none
  | .ref l k ver off len ex el => match slT P t, aBounds len lo hi with
    | some (el', _, _), some (a, b) => if el' ≠ el ∨ live st l k ver = false then none else match mx with
      | none => if len = 0 then none else some (.ref l k ver (off + a) (b - a) (ex && (b == len)) el)
      | _ => none
    | _, _ => none
  | .sl ex el l => match slT P t, aBounds l.length lo hi with
    | some (el', _, _), some (a, b) => if el' ≠ el then none else match mx with
      | none => some (.sl (ex && (b == l.length)) el ((l.drop a).take (b - a)))
      | some (.int _ m) => if m = b ∧ hi.isSome = true ∧ l.isEmpty = false then some (.sl true el ((l.drop a).take (b - a))) else none
      | _ => none
    | _, _ => none
  | _ => none

def byteTV (b : UInt8) : TV := .at (.int .u8 b.toNat)
def bytesOfTV : List TV → Option (List UInt8)
  | [] => some []
  | .at (.int .u8 n) :: r => (bytesOfTV r).map (UInt8.ofNat n.toNat :: ·)
  | _ :: _ => none
def tConvert (P : Program) (st : Stk) (src dst : TypeId) (x : TV) : Option TV :=
  if kindT P src = 3 then (match slT P src with
    | some (el, _, _) => match elems st el x with
      | some l => if intT P el = some .u8 ∧ kindT P dst = 1 then (bytesOfTV l).map fun b => .at (.string ⟨b.toArray⟩) else none
      | none => none
    | none => none) else
  match x with
  | .at (.int k n) => match intT P dst with
    | some k' => if kindT P src ≠ 0 then some (.at (.int k' (k'.wrap n))) else none
    | none => none
  | .at (.string b) => if kindT P src = 1 ∧ kindT P dst = 1 then some (.at (.string b)) else
    match slT P dst with
    | some (el, 1, _) => if kindT P src = 1 ∧ intT P el = some .u8 then some (.sl false el (b.data.toList.map byteTV)) else none
    | _ => none
  | _ => none

def tLen (P : Program) (st : Stk) (t : TypeId) (x : TV) : Option TV :=
  match x with
  | .sl _ _ l => if kindT P t = 3 then some (.at (.int .i64 l.length)) else none
  | .ref l k ver _ len _ _ => if kindT P t = 3 ∧ live st l k ver = true then some (.at (.int .i64 len)) else none
  | .at (.slice none 0 0) => if kindT P t = 3 then some (.at (.int .i64 0)) else none
  | .at (.string b) => if kindT P t = 1 then some (.at (.int .i64 b.size)) else none
  | .arr _ _ => match arT P t with
    | some (n, _, _) => some (.at (.int .i64 n))
    | none => none
  | _ => none

/-- what append adds; is it sure that this is something? -/
def addends (st : Stk) (P : Program) (el : TypeId) : TV → Option (List TV)
  | .at (.string b) => if intT P el = some .u8 ∧ sizeT P el = some 1 then some (b.data.toList.map byteTV) else none
  | v => elems st el v
def someSure : TV → Bool
  | .sl true _ (_ :: _) => true
  | _ => false
/-- a new growing row in a box, or a list; or the same box, longer -/
def tAppend (P : Program) (st : Stk) (t t2 : TypeId) (x y : TV) : Option (TV × Stk × Nat) :=
  if kindT P t2 = 2 ∨ kindT P t2 = 0 then none else
  match slT P t with
  | none => none
  | some (el, z, b) => match addends st P el y with
  | none => none
  | some m =>
    if solidL m = false then none else
    match x with
    | .at (.slice none 0 0) => if (2 * m.length + 400) * b > 2 ^ 48 then none else some (.ref (st.length - 1) (topLen st) m.length 0 m.length false el, push st ⟨.row el m, false⟩, st.length)
    | .sl true el' [] => if el' ≠ el ∨ (2 * m.length + 400) * b > 2 ^ 48 then none else some (.ref (st.length - 1) (topLen st) m.length 0 m.length false el, push st ⟨.row el m, false⟩, st.length)
    | .sl true el' (a :: l) => if el' ≠ el ∨ (2 * (l.length + 1 + m.length) + 400) * b > 2 ^ 48 then none else
      if someSure y then some (.ref (st.length - 1) (topLen st) (l.length + 1 + m.length) 0 (l.length + 1 + m.length) false el, push st ⟨.row el (a :: l ++ m), false⟩, st.length)
      else none
    | .ref l k ver 0 len _ el' => match look st l k with
      | some bx => match bx.c with
        | .row el'' c => if el' ≠ el ∨ el'' ≠ el ∨ bx.sh = true ∨ ver ≠ c.length ∨ len ≠ c.length ∨ (2 * (c.length + m.length) + 400) * b > 2 ^ 48 then none
          else some (.ref l k (c.length + m.length) 0 (c.length + m.length) false el, upd st l k ⟨.row el (c ++ m), false⟩, l)
        | _ => none
      | none => none
    | _ => none

def tMin (op : Bool) : List TV → Option TV
  | [] => none
  | x :: r => go x r
where
  go : TV → List TV → Option TV
    | v, [] => some v
    | .at (.int k x), .at (.int _ y) :: r => go (.at (.int k (if (if op then y < x else y > x) then y else x))) r
    | _, _ => none

/-- so many zeros of a literal -/
def reps (n : Nat) (z : TV) : List TV := List.replicate n z
theorem reps_zero (z : TV) : reps 0 z = [] := rfl
theorem reps_succ (n : Nat) (z : TV) : reps (n + 1) z = z :: reps n z := rfl
def quiet (st : Stk) (v : Option TV) : Option (Option TV × Stk × Nat) := match v with
  | some v => some (some v, st, st.length)
  | none => none

def stepO (P : Program) (st : Stk) (o : Op) (e : TEnv) : Option (Option TV × Stk × Nat) :=
  match o with
  | .move x | .assign x => quiet st (topd e x)
  | .pick c a b => match topd e c with
    | some (.at (.bool true)) => quiet st (topd e a)
    | some (.at (.bool false)) => quiet st (topd e b)
    | _ => none
  | .alloc t => match zeroTV P t with
    | some z => if st.length = 0 then none else some (some (.ptr (st.length - 1) (topLen st) 0 []), push st ⟨z, false⟩, st.length)
    | none => none
  | .box _ x => match topd e x with
    | some v => if st.length = 0 ∨ isTup v = true ∨ vers v ≠ 0 then none else some (some (.ptr (st.length - 1) (topLen st) 0 []), push st ⟨v, false⟩, st.length)
    | none => none
  | .build t ps => match tparts e ps.toList, zeroTV P t with
    | some l, some (.agg t' z) => if sizedT P t = true ∧ t' = t then (match buildL P t z l with | some r => quiet st (some (.agg t r)) | none => none) else none
    | some l, some (.arr el z) => match arT P t with
      | some (n, el', _) => if el' = el then match buildA P el z l with
        | some r => quiet st (some (.arr el r))
        | none => none
        else none
      | none => none
    | _, _ => none
  | .buildSlice t n ps => match tparts e ps.toList, slT P t with
    | some l, some (el, z, _) => match zeroTV P el, snapL st (l.map (·.2)) with
      | some zero, some (vs, ks) => if n * z > 2 ^ 24 ∨ vs.length ≠ l.length then none else match buildA P el (reps n zero) ((l.map (·.1)).zip vs) with
        | some r => some (some (.sl true el r), marks st ks, st.length)
        | none => none
      | _, _ => none
    | _, _ => none
  | .load t a => match topd e a with
    | some (.ptr l k ver p) => match look st l k with
      | some b => if ver = vers b.c then match getP b.c p with
        | some v => if fits P t v then quiet st (some v) else none
        | none => none
        else none
      | none => none
    | some (.ep v) => if fits P t v then quiet st (some v) else none
    | _ => none
  | .store t a x => match topd e a, topd e x with
    | some (.ptr l k ver p), some v => match look st l k with
      | some b => if ver = vers b.c ∧ b.sh = false then match getP b.c p, (if hasIdx p || decide (l + 1 < st.length) then snap st v else some (v, [])) with
        | some old, some (v', ks) => if fits P t old = true ∧ fits P t v' = true ∧ ((hasIdx p || decide (l + 1 < st.length)) = true → solid v' = true) ∧ ks.contains (l, k) = false then match setP b.c p v' with
          | some c => some (none, upd (marks st ks) l k ⟨c, false⟩, l)
          | none => none
          else none
        | _, _ => none
        else none
      | none => none
    | _, _ => none
  | .nilCheck x => match topd e x with
    | some (.ptr l k ver p) => if live st l k ver then quiet st (some (.ptr l k ver p)) else none
    | some (.ep v) => quiet st (some (.ep v))
    | some (.fn f a b) => quiet st (some (.fn f a b))
    | _ => none
  | .binOp op t x y _ => match topd e x, topd e y with
    | some a, some b => quiet st (tBin P st op t a b)
    | _, _ => none
  | .unOp op _ x => match topd e x with
    | some (.at v) => match aUn op v with
      | some w => if atom w then quiet st (some (.at w)) else none
      | none => none
    | _ => none
  | .convert src dst x => match topd e x with
    | some v => quiet st (tConvert P st src dst v)
    | none => none
  | .makeFunc (.func f) first captured => match topds e first.toList, topds e captured.toList with
    | some a, some b => if a.all (fun v => !aggy v && !isTup v) && b.all (fun v => !aggy v && !isTup v) then quiet st (some (.fn f a b)) else none
    | _, _ => none
  | .makeSlice t l c => match topd e l, topd e c with
    | some (.at (.int .i64 n)), some (.at (.int .i64 m)) => match slT P t with
      | some (el, z, b) => match zeroTV P el with
        | some zero => if 0 ≤ n ∧ n ≤ m ∧ (b : Int) * m ≤ 2 ^ 48 ∧ st.length ≠ 0 then some (some (.ref (st.length - 1) (topLen st) n.toNat 0 n.toNat (n == m) el), push st ⟨.row el (List.replicate n.toNat zero), false⟩, st.length) else none
        | none => none
      | none => none
    | _, _ => none
  | .slice t x lo hi mx => match topd e x, topdO e lo, topdO e hi, topdO e mx with
    | some v, some l, some h, some m => quiet st (tSlice P st t v l h m)
    | _, _, _, _ => none
  | .fieldAddr t x i => if fieldOK P t i then match topd e x with
    | some (.ptr l k ver p) => if live st l k ver then quiet st (some (.ptr l k ver (p ++ [.fld t i]))) else none
    | some (.ep (.agg t' l)) => if t' = t then quiet st ((l[i]?).map .ep) else none
    | _ => none
    else none
  | .field t x i => match topd e x with
    | some (.agg t' l) => if t' = t then match l[i]?, ftypeT P t i with
      | some v, some ft => if fits P ft v then quiet st (some v) else none
      | _, _ => none
      else none
    | _ => none
  | .indexAddr t x i => match topd e x, topd e i with
    | some v, some (.at (.int _ j)) => quiet st (tIndexAddr P st t v j)
    | _, _ => none
  | .index t x i => match topd e x, topd e i with
    | some v, some (.at (.int _ j)) => quiet st (tIndex P t v j)
    | _, _ => none
  | .extract x i => match topd e x with
    | some (.tup l) => quiet st (l[i]?)
    | _ => none
  | .call c => match c.callee with
    | .builtin .len => match c.argTypes.toList, topds e c.args.toList with
      | t :: _, some (x :: _) => quiet st (tLen P st t x)
      | _, _ => none
    | .builtin .append => match c.argTypes.toList, topds e c.args.toList with
      | t :: t2 :: _, some [x, y] => if st.length = 0 then none else match tAppend P st t t2 x y with
        | some (v, st', w) => some (some v, st', w)
        | none => none
      | _, _ => none
    | .builtin .min => match topds e c.args.toList with
      | some l => quiet st (tMin true l)
      | none => none
    | .builtin .max => match topds e c.args.toList with
      | some l => quiet st (tMin false l)
      | none => none
    | _ => none
  | _ => none
def stepT (P : Program) (st : Stk) (o : Oper) (e : TEnv) : Option (Option TV × Stk × Nat) := stepO P st o.op e
end Go.Tm
end

section
/- The tree machine: how its states stand to the evaluator's. -/
set_option linter.unusedVariables false
set_option linter.unusedSimpArgs false
namespace Go.Tm
open Go.Eng

/-! ### 1. Boxes -/
theorem look_lt {st : Stk} {l k : Nat} {b : Box} (h : look st l k = some b) : l < st.length := by
  induction st with
  | nil => simp [look] at h
  | cons F S ih =>
    unfold look at h
    split at h
    · simp; omega
    · have := ih h; simp; omega
theorem length_upd (st : Stk) (l k : Nat) (b : Box) : (upd st l k b).length = st.length := by
  induction st with
  | nil => rfl
  | cons F S ih => unfold upd; split <;> simp [ih]
theorem look_upd_self {st : Stk} {l k : Nat} {b : Box} (h : look st l k = some b) (x : Box) : look (upd st l k x) l k = some x := by
  induction st with
  | nil => simp [look] at h
  | cons F S ih =>
    unfold look at h
    unfold upd
    split at h
    · rename_i e
      rw [if_pos e]
      unfold look
      rw [if_pos e]
      have := (List.getElem?_eq_some_iff.1 h).1
      simp [this]
    · rename_i e
      rw [if_neg e]
      unfold look
      rw [length_upd, if_neg e]
      exact ih h
theorem look_upd_ne {st : Stk} {l k l' k' : Nat} (x : Box) (h : ¬ (l' = l ∧ k' = k)) : look (upd st l k x) l' k' = look st l' k' := by
  induction st with
  | nil => rfl
  | cons F S ih =>
    unfold upd
    split
    · rename_i e
      unfold look
      split
      · rename_i e'
        rw [List.getElem?_set]
        split
        · rename_i e''; exact absurd ⟨by omega, e''.symm⟩ h
        · rfl
      · rfl
    · rename_i e
      unfold look
      rw [length_upd]
      split
      · rfl
      · exact ih
theorem length_push (st : Stk) (b : Box) : (push st b).length = st.length := by cases st <;> rfl
theorem look_push_self {st : Stk} (h : st.length ≠ 0) (b : Box) : look (push st b) (st.length - 1) (topLen st) = some b := by
  cases st with
  | nil => simp at h
  | cons F S => simp [push, look, topLen]
theorem look_push_new {st : Stk} (h : st.length ≠ 0) : look st (st.length - 1) (topLen st) = none := by
  cases st with
  | nil => simp at h
  | cons F S => simp [look, topLen]
theorem look_push_ne {st : Stk} {l k : Nat} (b : Box) (h : ¬ (l = st.length - 1 ∧ k = topLen st)) : look (push st b) l k = look st l k := by
  cases st with
  | nil => rfl
  | cons F S =>
    simp only [push, look]
    split
    · rename_i e
      have hk : k ≠ F.length := fun e' => h ⟨by simp; omega, by simp [topLen, e']⟩
      by_cases hlt : k < F.length
      · rw [List.getElem?_append_left hlt]
      · rw [List.getElem?_append_right (by omega), List.getElem?_eq_none (by simp; omega), List.getElem?_eq_none (by omega)]
    · rfl
theorem look_push {st : Stk} {l k : Nat} {b c : Box} (h : look st l k = some c) : look (push st b) l k = some c := by
  rw [look_push_ne]
  · exact h
  · rintro ⟨rfl, rfl⟩
    have := look_lt h
    rw [look_push_new (by omega)] at h
    simp at h
theorem look_push_cases {st : Stk} {l k : Nat} {b c : Box} (hs : st.length ≠ 0) (h : look (push st b) l k = some c) : look st l k = some c ∨ (l = st.length - 1 ∧ k = topLen st ∧ c = b) := by
  by_cases e : l = st.length - 1 ∧ k = topLen st
  · obtain ⟨rfl, rfl⟩ := e
    rw [look_push_self hs] at h
    simp at h
    exact .inr ⟨rfl, rfl, h.symm⟩
  · rw [look_push_ne _ e] at h
    exact .inl h
theorem look_upd_cases {st : Stk} {l k l' k' : Nat} {b x c : Box} (hb : look st l k = some b) (h : look (upd st l k x) l' k' = some c) : (l' = l ∧ k' = k ∧ c = x) ∨ (¬ (l' = l ∧ k' = k) ∧ look st l' k' = some c) := by
  by_cases e : l' = l ∧ k' = k
  · obtain ⟨rfl, rfl⟩ := e
    rw [look_upd_self hb] at h
    simp at h
    exact .inl ⟨rfl, rfl, h.symm⟩
  · rw [look_upd_ne _ e] at h
    exact .inr ⟨e, h⟩

/-! ### 2. States -/
structure Gh where
  ρ : Nat → Nat → Option Nat
  fz : Nat → Prop
  N : Nat → Nat
def cfg (G : Gh) (st : Stk) (s : St) : Cfg := ⟨G.ρ, G.fz, vsOf st, s⟩

def BoxOK (P : Program) (G : Gh) (st : Stk) (s : St) (l k : Nat) (b : Box) : Prop :=
  (∃ el, b.c = .row el [] ∧ G.ρ l k = none) ∨
  ∃ id cs, G.ρ l k = some id ∧ s.row id = some (cs, true) ∧ id < s.next ∧ G.N l ≤ id ∧ (G.fz id ↔ b.sh = true) ∧ RC P (cfg G st s) b.c cs
structure Rel (P : Program) (G : Gh) (st : Stk) (s : St) : Prop where
  fz : ∀ id, G.fz id → id < s.next
  box : ∀ l k b, look st l k = some b → BoxOK P G st s l k b
  inj : ∀ l k l' k' b b' id, look st l k = some b → look st l' k' = some b' → G.ρ l k = some id → G.ρ l' k' = some id → l = l' ∧ k = k'
  N : ∀ l l', l ≤ l' → l' < st.length → G.N l ≤ G.N l' ∧ G.N l' ≤ s.next

structure Grow (G : Gh) (st : Stk) (s : St) (G' : Gh) (st' : Stk) (s' : St) (w : Nat) : Prop where
  len : st'.length = st.length
  le : CLe (cfg G st s) (cfg G' st' s')
  N : ∀ l, l < st.length → G'.N l = G.N l
  next : s.next ≤ s'.next
  keep : ∀ id, id < s.next → (w < st.length → id < G.N w) → s'.heap.get id = s.heap.get id
  low : min s.low (if w < st.length then G.N w else s.next) ≤ s'.low
theorem Grow.refl (G : Gh) (st : Stk) (s : St) (w : Nat) : Grow G st s G st s w := ⟨rfl, CLe.refl _, fun _ _ => rfl, Nat.le_refl _, fun _ _ _ => rfl, by omega⟩

theorem BoxOK.mono {P : Program} {G G' : Gh} {st st' : Stk} {s s' : St} {l k : Nat} {b : Box} (h : BoxOK P G st s l k b) (hk : CLe (cfg G st s) (cfg G' st' s')) (hρ : G'.ρ l k = G.ρ l k) (hN : G'.N l = G.N l) (hn : s.next ≤ s'.next)
    (hrow : ∀ id, G.ρ l k = some id → id < s.next → s'.row id = s.row id) (hf : ∀ id, G.ρ l k = some id → id < s.next → (G'.fz id ↔ G.fz id)) : BoxOK P G' st' s' l k b := by
  rcases h with ⟨el, h1, h2⟩ | ⟨id, cs, h1, h2, h3, h4, h5, h6⟩
  · exact .inl ⟨el, h1, hρ.trans h2⟩
  · exact .inr ⟨id, cs, hρ.trans h1, (hrow id h1 h3).trans h2, by omega, by omega, (hf id h1 h3).trans h5, h6.mono hk⟩

/-- the evaluator's state is turned only where no box and nothing frozen lies -/
theorem Rel.later {P : Program} {G : Gh} {st : Stk} {s s' : St} (h : Rel P G st s) (hn : s.next ≤ s'.next) (hk : ∀ id, id < s.next → s'.heap.get id = s.heap.get id) : Rel P G st s' ∧ CLe (cfg G st s) (cfg G st s') := by
  have hle : CLe (cfg G st s) (cfg G st s') := ⟨fun id hi => ⟨hi, hk id (h.fz id hi)⟩, fun l k n e => ⟨n, e, Nat.le_refl _, fun _ => rfl⟩⟩
  refine ⟨⟨fun id hi => by have := h.fz id hi; omega, fun l k b hb => ?_, h.inj, fun l l' a b => ⟨(h.N l l' a b).1, by have := (h.N l l' a b).2; omega⟩⟩, hle⟩
  exact (h.box l k b hb).mono hle rfl rfl hn (fun id _ hi => by unfold St.row; rw [hk id hi]) (fun _ _ _ => Iff.rfl)

/-- a new box -/
def Gh.with (G : Gh) (l k : Nat) (x : Option Nat) : Gh := { G with ρ := fun a b => if a = l ∧ b = k then x else G.ρ a b }
theorem Gh.with_self (G : Gh) (l k : Nat) (x : Option Nat) : (G.with l k x).ρ l k = x := by simp [Gh.with]
theorem Gh.with_ne (G : Gh) {l k a b : Nat} (x : Option Nat) (h : ¬ (a = l ∧ b = k)) : (G.with l k x).ρ a b = G.ρ a b := by simp [Gh.with, h]

theorem vs_push {st : Stk} (hs : st.length ≠ 0) (b : Box) {l k n : Nat} (h : vsOf st l k = some n) : vsOf (push st b) l k = some n := by
  unfold vsOf at h ⊢
  cases hl : look st l k with
  | none => rw [hl] at h; simp at h
  | some c => rw [look_push hl]; rw [hl] at h; exact h
theorem vs_some {st : Stk} {l k n : Nat} (h : vsOf st l k = some n) : ∃ b, look st l k = some b ∧ vers b.c = n := by
  unfold vsOf at h
  cases hl : look st l k with
  | none => rw [hl] at h; simp at h
  | some c => rw [hl] at h; simp at h; exact ⟨c, rfl, h⟩
theorem vs_of {st : Stk} {l k : Nat} {b : Box} (h : look st l k = some b) : vsOf st l k = some (vers b.c) := by unfold vsOf; rw [h]; rfl

theorem Rel.newBox {P : Program} {G : Gh} {st : Stk} {s : St} (h : Rel P G st s) (hs : st.length ≠ 0) {v : TV} {cs : List Value} (hv : RC P (cfg G st s) v cs) :
    Rel P (G.with (st.length - 1) (topLen st) (some s.next)) (push st ⟨v, false⟩) (s.new (.cells cs true)) ∧ Grow G st s (G.with (st.length - 1) (topLen st) (some s.next)) (push st ⟨v, false⟩) (s.new (.cells cs true)) st.length := by
  have hold : ∀ l k b, look st l k = some b → ¬ (l = st.length - 1 ∧ k = topLen st) := by
    rintro l k b hb ⟨rfl, rfl⟩
    rw [look_push_new hs] at hb
    simp at hb
  have hle : CLe (cfg G st s) (cfg (G.with (st.length - 1) (topLen st) (some s.next)) (push st ⟨v, false⟩) (s.new (.cells cs true))) := by
    refine ⟨fun id hi => ⟨hi, get_new_old _ _ (h.fz id hi)⟩, fun l k n hn => ⟨n, vs_push hs _ hn, Nat.le_refl _, fun _ => ?_⟩⟩
    obtain ⟨b, hb, _⟩ := vs_some hn
    exact Gh.with_ne _ _ (hold l k b hb)
  refine ⟨⟨fun id hi => by have := h.fz id hi; simp only [next_new]; omega, fun l k b hb => ?_, fun l k l' k' b b' id hb hb' e e' => ?_, fun l l' a b => ?_⟩, ⟨length_push _ _, hle, fun _ _ => rfl, by simp only [next_new]; omega, fun id hi _ => get_new_old _ _ hi, by simp only [low_new]; omega⟩⟩
  · rcases look_push_cases hs hb with hb | ⟨rfl, rfl, rfl⟩
    · exact (h.box l k b hb).mono hle (Gh.with_ne _ _ (hold l k b hb)) rfl (by simp only [next_new]; omega) (fun id _ hi => row_old _ _ hi) (fun _ _ _ => Iff.rfl)
    · have hN := (h.N (st.length - 1) (st.length - 1) (Nat.le_refl _) (by omega)).2
      exact .inr ⟨s.next, cs, Gh.with_self _ _ _ _, row_new _ _ _, by simp only [next_new]; omega, hN, ⟨fun hf => by have := h.fz _ hf; omega, fun e => by simp at e⟩, hv.mono hle⟩
  · rcases look_push_cases hs hb with hb | ⟨rfl, rfl, rfl⟩ <;> rcases look_push_cases hs hb' with hb' | ⟨rfl, rfl, rfl⟩
    · rw [Gh.with_ne _ _ (hold _ _ _ hb)] at e
      rw [Gh.with_ne _ _ (hold _ _ _ hb')] at e'
      exact h.inj _ _ _ _ _ _ id hb hb' e e'
    · rw [Gh.with_ne _ _ (hold _ _ _ hb)] at e
      rw [Gh.with_self] at e'
      simp at e'
      subst e'
      rcases h.box _ _ _ hb with ⟨_, _, h2⟩ | ⟨id, cs', h1, _, h3, _⟩
      · rw [h2] at e; simp at e
      · rw [h1] at e; simp at e; omega
    · rw [Gh.with_ne _ _ (hold _ _ _ hb')] at e'
      rw [Gh.with_self] at e
      simp at e
      subst e
      rcases h.box _ _ _ hb' with ⟨_, _, h2⟩ | ⟨id, cs', h1, _, h3, _⟩
      · rw [h2] at e'; simp at e'
      · rw [h1] at e'; simp at e'; omega
    · exact ⟨rfl, rfl⟩
  · rw [length_push] at b
    exact ⟨(h.N l l' a b).1, by have := (h.N l l' a b).2; simp only [next_new]; exact Nat.le_succ_of_le this⟩

/-- a new box without a row: an empty slice that may grow -/
theorem Rel.newEmpty {P : Program} {G : Gh} {st : Stk} {s : St} (h : Rel P G st s) (hs : st.length ≠ 0) (el : TypeId) :
    Rel P (G.with (st.length - 1) (topLen st) none) (push st ⟨.row el [], false⟩) s ∧ Grow G st s (G.with (st.length - 1) (topLen st) none) (push st ⟨.row el [], false⟩) s st.length := by
  have hold : ∀ l k b, look st l k = some b → ¬ (l = st.length - 1 ∧ k = topLen st) := by
    rintro l k b hb ⟨rfl, rfl⟩
    rw [look_push_new hs] at hb
    simp at hb
  have hle : CLe (cfg G st s) (cfg (G.with (st.length - 1) (topLen st) none) (push st ⟨.row el [], false⟩) s) := by
    refine ⟨fun id hi => ⟨hi, rfl⟩, fun l k n hn => ⟨n, vs_push hs _ hn, Nat.le_refl _, fun _ => ?_⟩⟩
    obtain ⟨b, hb, _⟩ := vs_some hn
    exact Gh.with_ne _ _ (hold l k b hb)
  refine ⟨⟨h.fz, fun l k b hb => ?_, fun l k l' k' b b' id hb hb' e e' => ?_, fun l l' a b => ?_⟩, ⟨length_push _ _, hle, fun _ _ => rfl, Nat.le_refl _, fun id hi _ => rfl, by omega⟩⟩
  · rcases look_push_cases hs hb with hb | ⟨rfl, rfl, rfl⟩
    · exact (h.box l k b hb).mono hle (Gh.with_ne _ _ (hold l k b hb)) rfl (Nat.le_refl _) (fun id _ hi => rfl) (fun _ _ _ => Iff.rfl)
    · exact .inl ⟨el, rfl, Gh.with_self _ _ _ _⟩
  · rcases look_push_cases hs hb with hb | ⟨rfl, rfl, rfl⟩ <;> rcases look_push_cases hs hb' with hb' | ⟨rfl, rfl, rfl⟩
    · rw [Gh.with_ne _ _ (hold _ _ _ hb)] at e
      rw [Gh.with_ne _ _ (hold _ _ _ hb')] at e'
      exact h.inj _ _ _ _ _ _ id hb hb' e e'
    · rw [Gh.with_self] at e'; simp at e'
    · rw [Gh.with_self] at e; simp at e
    · exact ⟨rfl, rfl⟩
  · rw [length_push] at b
    exact h.N l l' a b

/-- a new row that is frozen at once -/
def Gh.freeze (G : Gh) (id : Nat) : Gh := { G with fz := fun i => i = id ∨ G.fz i }
theorem Rel.newFrozen {P : Program} {G : Gh} {st : Stk} {s : St} (h : Rel P G st s) (cs : List Value) : Rel P (G.freeze s.next) st (s.new (.cells cs true)) ∧ Grow G st s (G.freeze s.next) st (s.new (.cells cs true)) st.length := by
  have hle : CLe (cfg G st s) (cfg (G.freeze s.next) st (s.new (.cells cs true))) := ⟨fun id hi => ⟨.inr hi, get_new_old _ _ (h.fz id hi)⟩, fun l k n hn => ⟨n, hn, Nat.le_refl _, fun _ => rfl⟩⟩
  refine ⟨⟨fun id hi => ?_, fun l k b hb => ?_, h.inj, fun l l' a b => ⟨(h.N l l' a b).1, by have := (h.N l l' a b).2; simp only [next_new]; exact Nat.le_succ_of_le this⟩⟩, ⟨rfl, hle, fun _ _ => rfl, by simp only [next_new]; omega, fun id hi _ => get_new_old _ _ hi, by simp only [low_new]; omega⟩⟩
  · rcases hi with rfl | hi
    · simp only [next_new]; omega
    · have := h.fz id hi; simp only [next_new]; omega
  · exact (h.box l k b hb).mono hle rfl rfl (by simp only [next_new]; omega) (fun id _ hi => row_old _ _ hi) (fun id _ hi => ⟨fun e => by rcases e with rfl | e; (· omega); exact e, .inr⟩)

/-- a box that is looked at as it is now: from now on nobody writes it -/
theorem Rel.mark {P : Program} {G : Gh} {st : Stk} {s : St} (h : Rel P G st s) {l k : Nat} {b : Box} (hb : look st l k = some b) :
    ∃ G', Rel P G' (markS st l k) s ∧ Grow G st s G' (markS st l k) s st.length ∧ (∀ id, G.ρ l k = some id → G'.fz id) ∧ G'.ρ = G.ρ := by
  have hm : markS st l k = upd st l k ⟨b.c, true⟩ := by unfold markS; rw [hb]
  have hvs : ∀ l' k', vsOf (markS st l k) l' k' = vsOf st l' k' := by
    intro l' k'
    rw [hm]
    by_cases e : l' = l ∧ k' = k
    · obtain ⟨rfl, rfl⟩ := e
      rw [vs_of (look_upd_self hb _), vs_of hb]
    · unfold vsOf; rw [look_upd_ne _ e]
  have hcases : ∀ l' k' c, look (markS st l k) l' k' = some c → ∃ c0, look st l' k' = some c0 ∧ c.c = c0.c ∧ ((l' = l ∧ k' = k ∧ c.sh = true) ∨ (¬ (l' = l ∧ k' = k) ∧ c = c0)) := by
    intro l' k' c hc
    rw [hm] at hc
    rcases look_upd_cases hb hc with ⟨rfl, rfl, rfl⟩ | ⟨e, hc⟩
    · exact ⟨b, hb, rfl, .inl ⟨rfl, rfl, rfl⟩⟩
    · exact ⟨c, hc, rfl, .inr ⟨e, rfl⟩⟩
  rcases hρ : G.ρ l k with _ | id
  · have hle : CLe (cfg G st s) (cfg G (markS st l k) s) := ⟨fun id hi => ⟨hi, rfl⟩, fun l' k' n hn => ⟨n, by show vsOf _ _ _ = _; rw [hvs]; exact hn, Nat.le_refl _, fun _ => rfl⟩⟩
    refine ⟨G, ⟨h.fz, fun l' k' c hc => ?_, fun l1 k1 l2 k2 b1 b2 id h1 h2 e1 e2 => ?_, fun a a' x y => h.N a a' x (by rw [hm, length_upd] at y; exact y)⟩, ⟨by rw [hm, length_upd], hle, fun _ _ => rfl, Nat.le_refl _, fun _ _ _ => rfl, by omega⟩, fun id hi => by simp at hi, rfl⟩
    · obtain ⟨c0, h0, e, h1⟩ := hcases _ _ _ hc
      have hbx := (h.box _ _ _ h0).mono hle rfl rfl (Nat.le_refl _) (fun _ _ _ => rfl) (fun _ _ _ => Iff.rfl)
      rcases h1 with ⟨rfl, rfl, h1⟩ | ⟨_, rfl⟩
      · rcases hbx with ⟨el, a, b⟩ | ⟨id, cs, a, _⟩
        · exact .inl ⟨el, e.trans a, b⟩
        · rw [hρ] at a; simp at a
      · exact hbx
    · obtain ⟨c1, h1', _⟩ := hcases _ _ _ h1
      obtain ⟨c2, h2', _⟩ := hcases _ _ _ h2
      exact h.inj _ _ _ _ _ _ id h1' h2' e1 e2
  · have hid : id < s.next := by
      rcases h.box _ _ _ hb with ⟨_, _, e⟩ | ⟨id', cs, e, _, hi, _⟩
      · rw [hρ] at e; simp at e
      · rw [hρ] at e; simp at e; omega
    have hle : CLe (cfg G st s) (cfg (G.freeze id) (markS st l k) s) := ⟨fun id' hi => ⟨.inr hi, rfl⟩, fun l' k' n hn => ⟨n, by show vsOf _ _ _ = _; rw [hvs]; exact hn, Nat.le_refl _, fun _ => rfl⟩⟩
    refine ⟨G.freeze id, ⟨fun i hi => ?_, fun l' k' c hc => ?_, fun l1 k1 l2 k2 b1 b2 id h1 h2 e1 e2 => ?_, fun a a' x y => h.N a a' x (by rw [hm, length_upd] at y; exact y)⟩, ⟨by rw [hm, length_upd], hle, fun _ _ => rfl, Nat.le_refl _, fun _ _ _ => rfl, by omega⟩, fun i hi => by simp at hi; exact .inl hi.symm, rfl⟩
    · rcases hi with rfl | hi
      · exact hid
      · exact h.fz i hi
    · obtain ⟨c0, h0, e, h1⟩ := hcases _ _ _ hc
      rcases h1 with ⟨rfl, rfl, h1⟩ | ⟨hne, rfl⟩
      · rcases h.box _ _ _ h0 with ⟨el, a, b⟩ | ⟨id', cs, a1, a2, a3, a4, a5, a6⟩
        · rw [hρ] at b; simp at b
        · refine .inr ⟨id', cs, a1, a2, a3, a4, ⟨fun _ => h1, fun _ => .inl ?_⟩, by rw [e]; exact a6.mono hle⟩
          rw [hρ] at a1; simp at a1; exact a1.symm
      · refine (h.box _ _ _ h0).mono hle rfl rfl (Nat.le_refl _) (fun _ _ _ => rfl) (fun id' e' _ => ⟨fun hf => ?_, .inr⟩)
        rcases hf with rfl | hf
        · exact absurd (h.inj _ _ _ _ _ _ id' h0 hb e' hρ) hne
        · exact hf
    · obtain ⟨c1, h1', _⟩ := hcases _ _ _ h1
      obtain ⟨c2, h2', _⟩ := hcases _ _ _ h2
      exact h.inj _ _ _ _ _ _ id h1' h2' e1 e2

theorem Grow.trans {G G1 G2 : Gh} {st st1 st2 : Stk} {s s1 s2 : St} {w w1 : Nat} (h : Grow G st s G1 st1 s1 w) (k : Grow G1 st1 s1 G2 st2 s2 w1) (hN : ∀ l l', l ≤ l' → l' < st.length → G.N l ≤ G.N l' ∧ G.N l' ≤ s.next) : Grow G st s G2 st2 s2 (min w w1) := by
  have hl := h.len
  refine ⟨k.len.trans hl, h.le.trans k.le, fun l hi => (k.N l (by omega)).trans (h.N l hi), Nat.le_trans h.next k.next, fun id hi hw => ?_, ?_⟩
  · refine (k.keep id (by have := h.next; omega) fun hw1 => ?_).trans (h.keep id hi fun hw0 => ?_)
    · rw [h.N w1 (by omega)]
      have := hw (by omega)
      by_cases e : w1 ≤ w
      · rwa [Nat.min_eq_right e] at this
      · rw [Nat.min_eq_left (by omega)] at this
        have := (hN w w1 (by omega) (by omega)).1
        omega
    · have := hw (by omega)
      by_cases e : w ≤ w1
      · rwa [Nat.min_eq_left e] at this
      · rw [Nat.min_eq_right (by omega)] at this
        have := (hN w1 w (by omega) hw0).1
        omega
  · have h1 := h.low
    have h2 := k.low
    have hn := h.next
    by_cases a : w < st.length
    · rw [if_pos a] at h1
      have hw := (hN w w (Nat.le_refl _) a).2
      by_cases b : w1 < st1.length
      · rw [if_pos b, h.N w1 (by omega)] at h2
        by_cases e : w ≤ w1
        · have e' : min w w1 = w := by omega
          rw [e', if_pos a]
          have := (hN w w1 e (by omega)).1
          omega
        · have e' : min w w1 = w1 := by omega
          rw [e', if_pos (by omega)]
          have := (hN w1 w (by omega) a).1
          omega
      · rw [if_neg b] at h2
        have e' : min w w1 = w := by omega
        rw [e', if_pos a]
        omega
    · rw [if_neg a] at h1
      by_cases b : w1 < st1.length
      · rw [if_pos b, h.N w1 (by omega)] at h2
        have e' : min w w1 = w1 := by omega
        rw [e', if_pos (by omega)]
        have := (hN w1 w1 (Nat.le_refl _) (by omega)).2
        omega
      · rw [if_neg b] at h2
        rw [if_neg (by omega)]
        omega
end Go.Tm
end

section
/- The tree machine: what is read and written along a path. -/
set_option linter.unusedVariables false
set_option linter.unusedSimpArgs false
namespace Go.Tm
open Go.Eng

/-! ### cells -/
theorem setAll_get (l : List Value) : ∀ (c : List Value) (off i : Nat), (setAll c off l)[i]? = if off ≤ i ∧ i < off + l.length ∧ i < c.length then l[i - off]? else c[i]? := by
  induction l with
  | nil => intro c off i; simp only [setAll, List.length_nil]; rw [if_neg (by omega)]
  | cons v r ih =>
    intro c off i
    simp only [setAll, ih, List.length_set, List.length_cons]
    by_cases h : off + 1 ≤ i ∧ i < off + 1 + r.length ∧ i < c.length
    · rw [if_pos h, if_pos (by omega)]
      have : i - off = (i - (off + 1)) + 1 := by omega
      rw [this, List.getElem?_cons_succ]
    · rw [if_neg h, List.getElem?_set]
      by_cases e : off = i
      · subst e
        by_cases hl : off < c.length
        · rw [if_pos rfl, if_pos hl, if_pos (by omega)]; simp
        · rw [if_pos rfl, if_neg hl, if_neg (by omega)]; exact (List.getElem?_eq_none (by omega)).symm
      · rw [if_neg e, if_neg (by omega)]
theorem dt_get {α : Type} (c : List α) (a n i : Nat) : ((c.drop a).take n)[i]? = if i < n then c[a + i]? else none := by
  rw [List.getElem?_take]
  split
  · rw [List.getElem?_drop]
  · rfl
theorem dt_dt (c : List Value) (a n b m : Nat) (h : b + m ≤ n) : ((((c.drop a).take n).drop b).take m) = (c.drop (a + b)).take m := by
  apply List.ext_getElem?
  intro i
  rw [dt_get, dt_get, dt_get]
  split
  · rw [if_pos (by omega), Nat.add_assoc]
  · rfl
theorem dt_length {c : List Value} {a n : Nat} (h : a + n ≤ c.length) : ((c.drop a).take n).length = n := by simp; omega
theorem dt_all (c : List Value) : (c.drop 0).take c.length = c := by simp
theorem setAll_same (c l : List Value) (off a n : Nat) (h1 : a ≤ off) (h2 : off + l.length ≤ a + n) (h3 : a + n ≤ c.length) : ((setAll c off l).drop a).take n = setAll ((c.drop a).take n) (off - a) l := by
  apply List.ext_getElem?
  intro i
  rw [dt_get, setAll_get, setAll_get, dt_length h3, dt_get]
  by_cases hi : i < n
  · rw [if_pos hi]
    by_cases h : off ≤ a + i ∧ a + i < off + l.length ∧ a + i < c.length
    · rw [if_pos h, if_pos (by omega)]
      congr 1
      omega
    · rw [if_neg h, if_neg (by omega), if_pos hi]
  · rw [if_neg hi, if_neg (by omega), if_neg hi]
theorem setAll_other (c l : List Value) (off a n : Nat) (h : a + n ≤ off ∨ off + l.length ≤ a) : ((setAll c off l).drop a).take n = (c.drop a).take n := by
  apply List.ext_getElem?
  intro i
  rw [dt_get, dt_get, setAll_get]
  by_cases hi : i < n
  · rw [if_pos hi, if_pos hi, if_neg (by omega)]
  · rw [if_neg hi, if_neg hi]
theorem setAll_all (c l : List Value) (h : l.length = c.length) : setAll c 0 l = l := by
  apply List.ext_getElem?
  intro i
  rw [setAll_get]
  split
  · rfl
  · rename_i h'
    rw [List.getElem?_eq_none (by omega), List.getElem?_eq_none (by omega)]

/-! ### fields -/
theorem tiledGo_le {P : Program} : ∀ (fs : List Field) (n m : Nat), tiledGo P n fs = some m → n ≤ m
  | [], n, m, h => by simp [tiledGo] at h; omega
  | f :: fs, n, m, h => by
    simp only [tiledGo] at h
    split at h
    · split at h
      · have := tiledGo_le fs _ _ h; omega
      · simp at h
    · simp at h
theorem tiledGo_get {P : Program} : ∀ (fs : List Field) (n m : Nat), tiledGo P n fs = some m → ∀ (i : Nat) (f : Field), fs[i]? = some f → ∃ z, sizeT P f.type = some z ∧ n ≤ f.offset ∧ f.offset + z ≤ m ∧ ∀ (j : Nat) (g : Field), i < j → fs[j]? = some g → f.offset + z ≤ g.offset
  | [], n, m, h, i, f, hf => by simp at hf
  | f0 :: fs, n, m, h, i, f, hf => by
    simp only [tiledGo] at h
    split at h
    · rename_i z hz
      split at h
      · rename_i ho
        cases i with
        | zero =>
          simp at hf
          subst hf
          refine ⟨z, hz, by omega, by have := tiledGo_le _ _ _ h; omega, fun j g hj hg => ?_⟩
          cases j with
          | zero => omega
          | succ j => obtain ⟨_, _, h1, _⟩ := tiledGo_get fs _ _ h j g (by simpa using hg); omega
        | succ i =>
          obtain ⟨z', a, b, c, d⟩ := tiledGo_get fs _ _ h i f (by simpa using hf)
          refine ⟨z', a, by omega, c, fun j g hj hg => ?_⟩
          cases j with
          | zero => omega
          | succ j => exact d j g (by omega) (by simpa using hg)
      · simp at h
    · simp at h
theorem tiled_get {P : Program} {t : TypeId} {fs : Array Field} (ht : P.underlying t = some (.struct fs)) (h : tiledT P t = true) {i : Nat} {f : Field} (hf : fs[i]? = some f) : ∃ z n, sizeT P f.type = some z ∧ sizeT P t = some n ∧ f.offset + z ≤ n ∧ ∀ (j : Nat) (g : Field), i < j → fs[j]? = some g → f.offset + z ≤ g.offset := by
  unfold tiledT at h
  rw [ht] at h
  simp only [Bool.and_eq_true, beq_iff_eq, Option.isSome_iff_exists] at h
  obtain ⟨⟨m, hm⟩, he⟩ := h
  obtain ⟨z, a, b, c, d⟩ := tiledGo_get _ _ _ hm i f (by simpa using hf)
  exact ⟨z, m, a, by rw [← he, hm], c, fun j g hj hg => d j g hj (by simpa using hg)⟩

/-! ### reading along a path -/
theorem RC.get {P : Program} {K : Cfg} {p : List Pe} : ∀ {c v : TV} {cs : List Value}, RC P K c cs → getP c p = some v → ∃ off n, poff P p = some off ∧ off + n ≤ cs.length ∧ RC P K v ((cs.drop off).take n) := by
  induction p with
  | nil => intro c v cs h hg; simp [getP] at hg; subst hg; exact ⟨0, cs.length, rfl, by omega, by simpa using h⟩
  | cons x p ih =>
    intro c v cs h hg
    cases h with
    | @agg t l fs _ ht htl hs hl hf h =>
      cases x with
      | fld t' i =>
        simp only [getP] at hg
        split at hg
        · rename_i e
          subst e
          split at hg
          · rename_i u hu
            have hi : i < fs.size := by rw [← hl]; exact (List.getElem?_eq_some_iff.1 hu).1
            obtain ⟨z, hz, hle⟩ := hf i fs[i] (by simp [hi])
            obtain ⟨off, n, h1, h2, h3⟩ := ih (h i fs[i] u z (by simp [hi]) hu hz) hg
            rw [dt_length hle] at h2
            refine ⟨fs[i].offset + off, n, by simp only [poff, ht]; simp [hi, h1], by omega, ?_⟩
            rw [dt_dt _ _ _ _ _ h2] at h3
            exact h3
          · simp at hg
        · simp at hg
      | idx el i => simp [getP] at hg
    | @arr el l z _ hz hl hs h =>
      cases x with
      | fld t' i => simp [getP] at hg
      | idx el' i =>
        simp only [getP] at hg
        split at hg
        · rename_i e
          subst e
          split at hg
          · rename_i u hu
            have hi : i < l.length := (List.getElem?_eq_some_iff.1 hu).1
            have hle : i * z + z ≤ cs.length := by
              rw [hl, ← Nat.succ_mul]; exact Nat.mul_le_mul_right _ hi
            obtain ⟨off, n, h1, h2, h3⟩ := ih (h i u hu) hg
            rw [dt_length hle] at h2
            refine ⟨i * z + off, n, by simp only [poff, hz, h1], by omega, ?_⟩
            rw [dt_dt _ _ _ _ _ h2] at h3
            exact h3
          · simp at hg
        · simp at hg
    | @row el l z _ hz hl hs h =>
      cases x with
      | fld t' i => simp [getP] at hg
      | idx el' i =>
        simp only [getP] at hg
        split at hg
        · rename_i e
          subst e
          split at hg
          · rename_i u hu
            have hi : i < l.length := (List.getElem?_eq_some_iff.1 hu).1
            have hle : i * z + z ≤ cs.length := by
              rw [hl, ← Nat.succ_mul]; exact Nat.mul_le_mul_right _ hi
            obtain ⟨off, n, h1, h2, h3⟩ := ih (h i u hu) hg
            rw [dt_length hle] at h2
            refine ⟨i * z + off, n, by simp only [poff, hz, h1], by omega, ?_⟩
            rw [dt_dt _ _ _ _ _ h2] at h3
            exact h3
          · simp at hg
        · simp at hg
    | _ => cases x <;> simp [getP] at hg

/-- what a tree takes in cells -/
theorem RC.fits_len {P : Program} {K : Cfg} {t : TypeId} {v : TV} {cs : List Value} (h : RC P K v cs) (hf : fits P t v = true) : sizeT P t = some cs.length ∧ isAggT P t = some (aggy v) := by
  have one : ∀ {c : Value}, (isAggT P t == some false && sizeT P t == some 1) = true → sizeT P t = some [c].length ∧ isAggT P t = some false := fun h => by
    simp only [Bool.and_eq_true, beq_iff_eq] at h; exact ⟨h.2, h.1⟩
  cases h with
  | agg ht htl hs hl hf' h =>
    simp only [fits, Bool.and_eq_true, beq_iff_eq] at hf
    obtain ⟨rfl, _⟩ := hf
    exact ⟨hs, by unfold isAggT; rw [ht]; rfl⟩
  | @arr el l z _ hz hl hs h =>
    simp only [fits] at hf
    split at hf
    · rename_i n el' z' hu hz'
      simp only [Bool.and_eq_true, beq_iff_eq] at hf
      obtain ⟨⟨rfl, rfl⟩, h3⟩ := hf
      rw [hz] at hz'
      simp at hz'
      subst hz'
      exact ⟨by rw [h3, hl], by unfold isAggT; rw [hu]; rfl⟩
    · simp at hf
  | row => simp [fits] at hf
  | «at» _ => exact one hf
  | slnil => exact one hf
  | sl => exact one hf
  | ref => exact one hf
  | ptr => exact one hf
  | ep => exact one hf
  | fn => exact one hf

/-! ### writing along a path -/
theorem solid_setP {p : List Pe} : ∀ {u v u' : TV}, solid u = true → solid v = true → setP u p v = some u' → solid u' = true := by
  induction p with
  | nil => intro u v u' _ hv h; simp [setP] at h; subst h; exact hv
  | cons x p ih =>
    intro u v u' hu hv h
    cases u with
    | agg t l =>
      cases x with
      | fld t' i =>
        simp only [setP] at h
        split at h
        · split at h
          · rename_i w hw
            simp only [Option.map_eq_some_iff] at h
            obtain ⟨w', h1, rfl⟩ := h
            simp only [solid] at hu ⊢
            have := ih (solidL_mem hu _ (List.mem_of_getElem? hw)) hv h1
            exact solidL_of fun y hy => by
              rcases List.mem_or_eq_of_mem_set hy with hy | rfl
              · exact solidL_mem hu _ hy
              · exact this
          · simp at h
        · simp at h
      | idx _ _ => simp [setP] at h
    | arr el l =>
      cases x with
      | fld _ _ => simp [setP] at h
      | idx el' i =>
        simp only [setP] at h
        split at h
        · split at h
          · simp only [Option.map_eq_some_iff] at h
            obtain ⟨w', h1, rfl⟩ := h
            rfl
          · simp at h
        · simp at h
    | row el l => simp [solid] at hu
    | _ => cases x <;> simp [setP] at h

theorem RC.set {P : Program} {K : Cfg} {p : List Pe} : ∀ {c v old c' : TV} {cs vcs : List Value} {off : Nat}, RC P K c cs → getP c p = some old → poff P p = some off → RC P K v vcs → (∀ ocs, RC P K old ocs → ocs.length = vcs.length) → (hasIdx p = true → Tm.solid v = true) →
    setP c p v = some c' → off + vcs.length ≤ cs.length ∧ RC P K c' (setAll cs off vcs) := by
  induction p with
  | nil =>
    intro c v old c' cs vcs off h hg ho hv hold hs he
    simp [setP] at he
    simp [poff] at ho
    simp [getP] at hg
    subst he
    subst ho
    subst hg
    have := hold _ h
    rw [setAll_all _ _ this.symm]
    exact ⟨by omega, hv⟩
  | cons x p ih =>
    intro c v old c' cs vcs off h hg ho hv hold hs he
    have arrs : ∀ {el : TypeId} {l : List TV} {z i : Nat} {u u' : TV}, sizeT P el = some z → cs.length = l.length * z → solidL l = true → (∀ i tv, l[i]? = some tv → RC P K tv ((cs.drop (i * z)).take z)) → x = .idx el i → l[i]? = some u → getP u p = some old → setP u p v = some u' →
        off + vcs.length ≤ cs.length ∧ solidL (l.set i u') = true ∧ ∀ j tv, (l.set i u')[j]? = some tv → RC P K tv (((setAll cs off vcs).drop (j * z)).take z) := by
      rintro el l z i u u' hz hl hsl h rfl hu hg he
      have hi : i < l.length := (List.getElem?_eq_some_iff.1 hu).1
      have hzle : i * z + z ≤ cs.length := by rw [hl, ← Nat.succ_mul]; exact Nat.mul_le_mul_right _ hi
      have hc := h i u hu
      obtain ⟨off', n', h1, h2, h3⟩ := hc.get hg
      rw [dt_length hzle] at h2
      have hoff : off = i * z + off' := by
        simp only [poff, hz, h1] at ho
        simpa using ho.symm
      have hn' : n' = vcs.length := by rw [← hold _ h3, dt_length (by rw [dt_length hzle]; exact h2)]
      subst hn'
      obtain ⟨_, hu'⟩ := ih hc hg h1 hv hold (fun e => hs (by rfl)) he
      have hsol := hs rfl
      refine ⟨by omega, solidL_of fun y hy => ?_, fun j tv ht' => ?_⟩
      · rcases List.mem_or_eq_of_mem_set hy with hy | rfl
        · exact solidL_mem hsl _ hy
        · exact solid_setP (solidL_mem hsl _ (List.mem_of_getElem? hu)) hsol he
      · by_cases e : j = i
        · subst e
          rw [List.getElem?_set_self hi] at ht'
          simp at ht'
          subst ht'
          rw [setAll_same _ _ _ _ _ (by omega) (by omega) hzle, hoff, Nat.add_sub_cancel_left]
          exact hu'
        · rw [List.getElem?_set_ne (by omega)] at ht'
          rw [setAll_other]
          · exact h j tv ht'
          · rcases Nat.lt_or_gt_of_ne e with e | e
            · left
              have : (j + 1) * z ≤ i * z := Nat.mul_le_mul_right _ e
              rw [Nat.succ_mul] at this
              omega
            · right
              have : (i + 1) * z ≤ j * z := Nat.mul_le_mul_right _ e
              rw [Nat.succ_mul] at this
              omega
    cases h with
    | @agg t l fs _ ht htl hsz hl hf h =>
      cases x with
      | idx el i => simp [getP] at hg
      | fld t' i =>
        simp only [getP] at hg
        simp only [setP] at he
        split at hg
        · rename_i e
          subst e
          rw [if_pos rfl] at he
          split at hg
          · rename_i u hu
            rw [hu] at he
            simp only [Option.map_eq_some_iff] at he
            obtain ⟨u', he, rfl⟩ := he
            have hi : i < fs.size := by rw [← hl]; exact (List.getElem?_eq_some_iff.1 hu).1
            have hfi : fs[i]? = some fs[i] := by simp [hi]
            obtain ⟨z, hz, hzle⟩ := hf i fs[i] hfi
            have hc := h i fs[i] u z hfi hu hz
            obtain ⟨off', n', h1, h2, h3⟩ := hc.get hg
            rw [dt_length hzle] at h2
            have hoff : off = fs[i].offset + off' := by
              simp only [poff, ht, hfi, h1] at ho
              simpa using ho.symm
            have hn' : n' = vcs.length := by rw [← hold _ h3, dt_length (by rw [dt_length hzle]; exact h2)]
            subst hn'
            obtain ⟨_, hu'⟩ := ih hc hg h1 hv hold (fun e => hs (by simpa [hasIdx] using e)) he
            refine ⟨by omega, .agg ht htl (by rw [length_setAll]; exact hsz) (by simpa using hl) (by rw [length_setAll]; exact hf) fun j g tv z' hg' ht' hz' => ?_⟩
            obtain ⟨zi, ni, k1, k2, k3, k4⟩ := tiled_get ht htl hfi
            obtain ⟨zj, nj, m1, m2, m3, m4⟩ := tiled_get ht htl hg'
            rw [hz] at k1
            rw [hz'] at m1
            simp at k1 m1
            subst k1
            subst m1
            by_cases e : j = i
            · subst e
              rw [hfi] at hg'
              simp at hg'
              subst hg'
              rw [hz] at hz'
              simp at hz'
              subst hz'
              rw [List.getElem?_set_self (by rw [hl]; exact hi)] at ht'
              simp at ht'
              subst ht'
              rw [setAll_same _ _ _ _ _ (by omega) (by omega) hzle, hoff, Nat.add_sub_cancel_left]
              exact hu'
            · rw [List.getElem?_set_ne (by omega)] at ht'
              rw [setAll_other]
              · exact h j g tv z' hg' ht' hz'
              · rcases Nat.lt_or_gt_of_ne e with e | e
                · have := m4 i fs[i] e hfi; left; omega
                · have := k4 j g e hg'; right; omega
          · simp at hg
        · simp at hg
    | @arr el l z _ hz hl hsl h =>
      cases x with
      | fld t' i => simp [getP] at hg
      | idx el' i =>
        simp only [getP] at hg
        simp only [setP] at he
        split at hg
        · rename_i e
          subst e
          rw [if_pos rfl] at he
          split at hg
          · rename_i u hu
            rw [hu] at he
            simp only [Option.map_eq_some_iff] at he
            obtain ⟨u', he, rfl⟩ := he
            obtain ⟨a, b, c⟩ := arrs hz hl hsl h rfl hu hg he
            exact ⟨a, .arr hz (by rw [length_setAll]; simpa using hl) b c⟩
          · simp at hg
        · simp at hg
    | @row el l z _ hz hl hsl h =>
      cases x with
      | fld t' i => simp [getP] at hg
      | idx el' i =>
        simp only [getP] at hg
        simp only [setP] at he
        split at hg
        · rename_i e
          subst e
          rw [if_pos rfl] at he
          split at hg
          · rename_i u hu
            rw [hu] at he
            simp only [Option.map_eq_some_iff] at he
            obtain ⟨u', he, rfl⟩ := he
            obtain ⟨a, b, c⟩ := arrs hz hl hsl h rfl hu hg he
            exact ⟨a, .row hz (by rw [length_setAll]; simpa using hl) b c⟩
          · simp at hg
        · simp at hg
    | _ => cases x <;> simp [getP] at hg

theorem fits_len {P : Program} {K K' : Cfg} {t : TypeId} {v u : TV} {cs ds : List Value} (h : RC P K v cs) (hf : fits P t v = true) (k : RC P K' u ds) (kf : fits P t u = true) : cs.length = ds.length := by
  have a := (h.fits_len hf).1
  have b := (k.fits_len kf).1
  rw [a] at b
  simpa using b
theorem vers_setP {c v c' old : TV} {p : List Pe} (hg : getP c p = some old) (h : setP c p v = some c') (h0 : p = [] → vers v = vers c) : vers c' = vers c := by
  cases p with
  | nil => simp [setP] at h; subst h; exact h0 rfl
  | cons x p =>
    cases c <;> cases x <;> simp only [setP] at h <;> first
      | (simp at h; done)
      | (split at h
         · split at h
           · simp only [Option.map_eq_some_iff] at h; obtain ⟨_, _, rfl⟩ := h; simp [vers]
           · simp at h
         · simp at h)
theorem fits_vers {P : Program} {t : TypeId} {v : TV} (h : fits P t v = true) : vers v = 0 := by cases v <;> first | rfl | simp [fits] at h
end Go.Tm
end

