/- Part 3 of a proof in parts; the last part, YthhmonkjedemgaaGpart, proves this: At every input within the bounds that the given rows TrafficAlgebraSaid and TrafficSetsSaid name, the laws TrafficAlgebra and TrafficSets of the package flagstonelaw14 return true and leave their arguments as they were. There is no further condition. -/
import Derived.Test.YthhmonkjedemgaaBpart

section
/- The tree machine: writing, growing, taking as it is: what becomes of the states. -/
set_option linter.unusedVariables false
set_option linter.unusedSimpArgs false
namespace Go.Tm
open Go.Eng

/-! ### all that a tree tells are cells -/
theorem tiledGo_cover {P : Program} : ∀ (fs : List Field) (n m : Nat), tiledGo P n fs = some m → ∀ i, n ≤ i → i < m → ∃ (j : Nat) (f : Field) (z : Nat), fs[j]? = some f ∧ sizeT P f.type = some z ∧ f.offset ≤ i ∧ i < f.offset + z
  | [], n, m, h, i, h1, h2 => by simp [tiledGo] at h; omega
  | f :: fs, n, m, h, i, h1, h2 => by
    simp only [tiledGo] at h
    split at h
    · rename_i z hz
      split at h
      · rename_i ho
        by_cases hi : i < n + z
        · exact ⟨0, f, z, rfl, hz, by omega, by omega⟩
        · obtain ⟨j, g, z', a, b⟩ := tiledGo_cover fs _ _ h i (by omega) h2
          exact ⟨j + 1, g, z', a, b⟩
      · simp at h
    · simp at h
theorem RC.cells {P : Program} {K : Cfg} {tv : TV} {cs : List Value} (h : RC P K tv cs) : ∀ (i : Nat) (c : Value), cs[i]? = some c → isCell c = true := by
  have single : ∀ {c : Value}, isCell c = true → ∀ (i : Nat) (d : Value), [c][i]? = some d → isCell d = true := fun h i d e => by
    cases i with
    | zero => simp at e; subst e; exact h
    | succ i => simp at e
  have arrs : ∀ {l : List TV} {z : Nat} {cs : List Value}, cs.length = l.length * z → (∀ (i : Nat) (tv : TV), l[i]? = some tv → ∀ (j : Nat) (c : Value), ((cs.drop (i * z)).take z)[j]? = some c → isCell c = true) → ∀ (i : Nat) (c : Value), cs[i]? = some c → isCell c = true := by
    intro l z cs hl h i c hc
    have hi : i < cs.length := (List.getElem?_eq_some_iff.1 hc).1
    have hz : 0 < z := by
      rcases Nat.eq_zero_or_pos z with e | e
      · rw [e, Nat.mul_zero] at hl; omega
      · exact e
    have hq : i / z < l.length := Nat.div_lt_of_lt_mul (by rw [Nat.mul_comm, ← hl]; exact hi)
    refine h (i / z) l[i / z] (by simp [hq]) (i % z) c ?_
    rw [dt_get, if_pos (Nat.mod_lt _ hz)]
    have : i / z * z + i % z = i := by rw [Nat.mul_comm]; exact Nat.div_add_mod i z
    rw [this]
    exact hc
  induction h with
  | «at» h => exact single (by rename_i v; cases v <;> first | rfl | simp [atom] at h)
  | slnil => exact single rfl
  | sl => exact single rfl
  | ref _ _ _ hc => exact single hc
  | ptr _ _ _ hc => exact single hc
  | ep => exact single rfl
  | @agg t l fs cs ht htl hs hl hf _ ih =>
    intro i c hc
    have hi : i < cs.length := (List.getElem?_eq_some_iff.1 hc).1
    have htl' := htl
    unfold tiledT at htl'
    rw [ht] at htl'
    simp only [Bool.and_eq_true, beq_iff_eq, Option.isSome_iff_exists] at htl'
    obtain ⟨⟨m, hm⟩, he⟩ := htl'
    rw [hm, hs] at he
    simp at he
    subst he
    obtain ⟨j, f, z, a, b, e1, e2⟩ := tiledGo_cover _ _ _ hm i (Nat.zero_le _) hi
    have hj : j < fs.size := by have := (List.getElem?_eq_some_iff.1 a).1; simpa using this
    refine ih j f l[j] z (by simpa using a) (by simp [hl, hj]) b (i - f.offset) c ?_
    rw [dt_get, if_pos (by omega)]
    rw [show f.offset + (i - f.offset) = i by omega]
    exact hc
  | arr hz hl hs _ ih => exact arrs hl ih
  | row hz hl hs _ ih => exact arrs hl ih
  | fn => exact single rfl
theorem RC.allCell {P : Program} {K : Cfg} {tv : TV} {cs : List Value} (h : RC P K tv cs) : cs.all isCell = true := by
  rw [List.all_eq_true]
  intro c hc
  obtain ⟨i, hi, rfl⟩ := List.mem_iff_getElem.1 hc
  exact h.cells i _ (List.getElem?_eq_getElem hi)

/-! ### writing -/
theorem get_of_row {s s' : St} {id : Nat} (h : s'.heap.get id = s.heap.get id) : s'.row id = s.row id := by unfold St.row; rw [h]
theorem Rel.put {P : Program} {G : Gh} {st : Stk} {s : St} (h : Rel P G st s) {l k id : Nat} {b : Box} {c' : TV} {cs' : List Value} (hb : look st l k = some b) (hsh : b.sh = false) (hρ : G.ρ l k = some id) (hc : RC P (cfg G st s) c' cs') (hv : vers c' = vers b.c) :
    Rel P G (upd st l k ⟨c', false⟩) (s.put id (.cells cs' true)) ∧ Grow G st s G (upd st l k ⟨c', false⟩) (s.put id (.cells cs' true)) l := by
  have hl := look_lt hb
  obtain ⟨hid, hN, hfz⟩ : id < s.next ∧ G.N l ≤ id ∧ ¬ G.fz id := by
    rcases h.box _ _ _ hb with ⟨_, _, e⟩ | ⟨id', cs, a1, a2, a3, a4, a5, a6⟩
    · rw [hρ] at e; simp at e
    · rw [hρ] at a1; simp at a1; subst a1
      exact ⟨a3, a4, fun e => by rw [a5, hsh] at e; simp at e⟩
  have hvs : ∀ l' k', vsOf (upd st l k ⟨c', false⟩) l' k' = vsOf st l' k' := by
    intro l' k'
    by_cases e : l' = l ∧ k' = k
    · obtain ⟨rfl, rfl⟩ := e
      rw [vs_of (look_upd_self hb _), vs_of hb, hv]
    · unfold vsOf; rw [look_upd_ne _ e]
  have hle : CLe (cfg G st s) (cfg G (upd st l k ⟨c', false⟩) (s.put id (.cells cs' true))) :=
    ⟨fun i hi => ⟨hi, get_put_ne _ _ (fun e => hfz (e ▸ hi))⟩, fun l' k' n hn => ⟨n, by show vsOf _ _ _ = _; rw [hvs]; exact hn, Nat.le_refl _, fun _ => rfl⟩⟩
  have hNl := (h.N l l (Nat.le_refl _) hl).2
  refine ⟨⟨h.fz, fun l' k' c hc' => ?_, fun l1 k1 l2 k2 b1 b2 i h1 h2 e1 e2 => ?_, fun a a' x y => h.N a a' x (by rwa [length_upd] at y)⟩, ⟨length_upd _ _ _ _, hle, fun _ _ => rfl, Nat.le_refl _, fun j hj hw => get_put_ne _ _ (fun e => by have := hw hl; omega), ?_⟩⟩
  · rcases look_upd_cases hb hc' with ⟨rfl, rfl, rfl⟩ | ⟨hne, hc'⟩
    · exact .inr ⟨id, cs', hρ, row_put _ _ _ _, hid, hN, ⟨fun e => absurd e hfz, fun e => by simp at e⟩, hc.mono hle⟩
    · refine (h.box _ _ _ hc').mono hle rfl rfl (Nat.le_refl _) (fun j e hj => row_ne _ _ fun ej => ?_) (fun _ _ _ => Iff.rfl)
      subst ej
      exact hne (h.inj _ _ _ _ _ _ _ hc' hb e hρ)
  · have f : ∀ {l' k' c}, look (upd st l k ⟨c', false⟩) l' k' = some c → ∃ c0, look st l' k' = some c0 := fun hc' => by
      rcases look_upd_cases hb hc' with ⟨rfl, rfl, rfl⟩ | ⟨_, hc'⟩
      · exact ⟨b, hb⟩
      · exact ⟨_, hc'⟩
    obtain ⟨c1, h1'⟩ := f h1
    obtain ⟨c2, h2'⟩ := f h2
    exact h.inj _ _ _ _ _ _ i h1' h2' e1 e2
  · rw [if_pos hl, low_put]
    omega

/-- a box gets another row, which is new; its old one is given up -/
theorem Rel.regrow {P : Program} {G : Gh} {st : Stk} {s s' : St} (h : Rel P G st s) {l k : Nat} {b : Box} {c' : TV} {cs' : List Value} (hb : look st l k = some b) (hsh : b.sh = false) (hc : RC P (cfg G st s) c' cs') (hv : vers b.c < vers c') (hn : s'.next = s.next + 1)
    (hr : s'.row s.next = some (cs', true)) (hk : ∀ j, j < s.next → G.ρ l k ≠ some j → s'.heap.get j = s.heap.get j) (hlow : min s.low (G.N l) ≤ s'.low) :
    Rel P (G.with l k (some s.next)) (upd st l k ⟨c', false⟩) s' ∧ Grow G st s (G.with l k (some s.next)) (upd st l k ⟨c', false⟩) s' l := by
  have hl := look_lt hb
  have hfz : ∀ i, G.fz i → G.ρ l k ≠ some i := fun i hi e => by
    rcases h.box _ _ _ hb with ⟨_, _, e'⟩ | ⟨id', cs, a1, a2, a3, a4, a5, a6⟩
    · rw [e] at e'; simp at e'
    · rw [e] at a1; simp at a1; subst a1
      rw [a5, hsh] at hi; simp at hi
  have hNl := (h.N l l (Nat.le_refl _) hl).2
  have hle : CLe (cfg G st s) (cfg (G.with l k (some s.next)) (upd st l k ⟨c', false⟩) s') := by
    refine ⟨fun i hi => ⟨hi, hk i (h.fz i hi) (hfz i hi)⟩, fun l' k' n hn' => ?_⟩
    by_cases e : l' = l ∧ k' = k
    · obtain ⟨rfl, rfl⟩ := e
      have : vsOf st l' k' = some n := hn'
      rw [vs_of hb] at this
      simp at this
      exact ⟨vers c', vs_of (look_upd_self hb _), by omega, fun e => by omega⟩
    · exact ⟨n, by show vsOf _ _ _ = _; unfold vsOf; rw [look_upd_ne _ e]; exact hn', Nat.le_refl _, fun _ => Gh.with_ne _ _ e⟩
  refine ⟨⟨fun i hi => by have := h.fz i hi; omega, fun l' k' c hc' => ?_, fun l1 k1 l2 k2 b1 b2 i h1 h2 e1 e2 => ?_, fun a a' x y => ?_⟩, ⟨length_upd _ _ _ _, hle, fun _ _ => rfl, by omega, fun j hj hw => hk j hj (fun e => ?_), ?_⟩⟩
  · rcases look_upd_cases hb hc' with ⟨rfl, rfl, rfl⟩ | ⟨hne, hc'⟩
    · exact .inr ⟨s.next, cs', Gh.with_self _ _ _ _, hr, by omega, hNl, ⟨fun e => by have := h.fz _ e; omega, fun e => by simp at e⟩, hc.mono hle⟩
    · refine (h.box _ _ _ hc').mono hle (Gh.with_ne _ _ hne) rfl (by omega) (fun j e hj => get_of_row (hk j hj fun ej => ?_)) (fun _ _ _ => Iff.rfl)
      exact hne (h.inj _ _ _ _ _ _ _ hc' hb e ej)
  · have old : ∀ {l' k' c i}, look st l' k' = some c → G.ρ l' k' = some i → i < s.next := fun hc' e => by
      rcases h.box _ _ _ hc' with ⟨_, _, e'⟩ | ⟨id', cs, a1, a2, a3, a4, a5, a6⟩
      · rw [e] at e'; simp at e'
      · rw [e] at a1; simp at a1; omega
    rcases look_upd_cases hb h1 with ⟨x1, y1, _⟩ | ⟨hne1, h1'⟩ <;> rcases look_upd_cases hb h2 with ⟨x2, y2, _⟩ | ⟨hne2, h2'⟩
    · exact ⟨x1.trans x2.symm, y1.trans y2.symm⟩
    · rw [x1, y1, Gh.with_self] at e1
      rw [Gh.with_ne _ _ hne2] at e2
      simp at e1
      have := old h2' e2
      omega
    · rw [x2, y2, Gh.with_self] at e2
      rw [Gh.with_ne _ _ hne1] at e1
      simp at e2
      have := old h1' e1
      omega
    · rw [Gh.with_ne _ _ hne1] at e1
      rw [Gh.with_ne _ _ hne2] at e2
      exact h.inj _ _ _ _ _ _ i h1' h2' e1 e2
  · rw [length_upd] at y
    exact ⟨(h.N a a' x y).1, by have := (h.N a a' x y).2; show G.N a' ≤ _; omega⟩
  · have := hw hl
    rcases h.box _ _ _ hb with ⟨_, _, e'⟩ | ⟨id', cs, a1, a2, a3, a4, a5, a6⟩
    · rw [e] at e'; simp at e'
    · rw [e] at a1; simp at a1; omega
  · rw [if_pos hl]
    exact hlow

/-! ### taking as it is -/
theorem mark_other {st : Stk} {l k l' k' : Nat} {c : Box} (h : look st l' k' = some c) : ∃ c', look (markS st l k) l' k' = some c' ∧ c'.c = c.c := by
  unfold markS
  cases hb : look st l k with
  | none => exact ⟨c, h, rfl⟩
  | some b =>
    simp only
    by_cases e : l' = l ∧ k' = k
    · obtain ⟨rfl, rfl⟩ := e
      rw [look_upd_self hb]
      rw [hb] at h
      simp at h
      subst h
      exact ⟨_, rfl, rfl⟩
    · rw [look_upd_ne _ e]; exact ⟨c, h, rfl⟩
theorem Rel.marks {P : Program} : ∀ {ks : List (Nat × Nat)} {G : Gh} {st : Stk} {s : St}, Rel P G st s → (∀ q ∈ ks, ∃ b, look st q.1 q.2 = some b) →
    ∃ G', Rel P G' (marks st ks) s ∧ Grow G st s G' (marks st ks) s st.length ∧ (∀ q ∈ ks, ∀ id, G.ρ q.1 q.2 = some id → G'.fz id) ∧ G'.ρ = G.ρ
  | [], G, st, s, h, _ => ⟨G, h, Grow.refl _ _ _ _, by simp, rfl⟩
  | (l, k) :: ks, G, st, s, h, hk => by
    obtain ⟨b, hb⟩ := hk (l, k) (by simp)
    obtain ⟨G1, h1, g1, f1, r1⟩ := h.mark hb
    obtain ⟨G2, h2, g2, f2, r2⟩ := h1.marks (ks := ks) fun q hq => by
      obtain ⟨c, hc⟩ := hk q (by simp [hq])
      obtain ⟨c', hc', _⟩ := mark_other (l := l) (k := k) hc
      exact ⟨c', hc'⟩
    have hl := g1.len
    refine ⟨G2, h2, ?_, fun q hq id e => ?_, r2.trans r1⟩
    · have := g1.trans g2 h.N
      rw [hl, Nat.min_self] at this
      exact this
    · rcases List.mem_cons.1 hq with rfl | hq
      · exact (g2.le.fz id (f1 id e)).1
      · exact f2 q hq id (by rw [r1]; exact e)

/-- what a slice's elements are -/
theorem elems_ok {P : Program} {G : Gh} {st : Stk} {s : St} (h : Rel P G st s) {el : TypeId} {v : TV} {l : List TV} (he : elems st el v = some l) {c : Value} (hv : RC P (cfg G st s) v [c]) :
    solidL l = true ∧ ∃ a n cp, c = .slice a n cp ∧ n = l.length ∧
      ((a = none ∧ n = 0 ∧ cp = 0) ∨ ∃ id off z cs, a = some ⟨id, off, none⟩ ∧ sizeT P el = some z ∧ cp / 2 = z ∧ s.some? id off (n * z) = some cs ∧ ∀ i tv, l[i]? = some tv → RC P (cfg G st s) tv ((cs.drop (i * z)).take z)) := by
  cases hv with
  | @«at» _ ha =>
    cases c <;> simp only [elems] at he <;> try (simp at he; done)
    case slice a n cp =>
      split at he
      · rename_i heq; simp at heq
      · rename_i heq
        simp only [TV.at.injEq, Value.slice.injEq] at heq
        obtain ⟨rfl, rfl, rfl⟩ := heq
        simp at he; subst he
        exact ⟨rfl, none, 0, 0, rfl, rfl, .inl ⟨rfl, rfl, rfl⟩⟩
      · rename_i heq; simp at heq
      · simp at he
  | slnil =>
    simp only [elems] at he
    split at he
    · simp at he; subst he; exact ⟨rfl, none, 0, 0, rfl, rfl, .inl ⟨rfl, rfl, rfl⟩⟩
    · simp at he
  | @sl ex el' l' id off cp z cs hid hr hz hcp hx hs hel =>
    simp only [elems] at he
    split at he
    · rename_i e
      subst e
      simp at he; subst he
      exact ⟨hs, _, _, _, rfl, rfl, .inr ⟨id, off, z, cs, rfl, hz, hcp, hr, hel⟩⟩
    · simp at he
  | @ref l' k ver off len n ex el' _ hvs hle href hc =>
    simp only [elems] at he
    split at he
    · rename_i e
      subst e
      split at he
      · rename_i b hb
        have hvn : vers b.c = n := by
          have : vsOf st l' k = some n := hvs
          rw [vs_of hb] at this
          simpa using this
        obtain ⟨cc, hcc, hrow, rfl, hver, hlen⟩ : ∃ cc, (b.c = .row el' cc ∨ b.c = .arr el' cc) ∧ (∀ (cs : List Value), RC P (cfg G st s) b.c cs → ∃ z, sizeT P el' = some z ∧ cs.length = cc.length * z ∧ solidL cc = true ∧ ∀ i tv, cc[i]? = some tv → RC P (cfg G st s) tv ((cs.drop (i * z)).take z)) ∧ l = (cc.drop off).take len ∧ ver = n ∧ off + len ≤ cc.length := by
          split at he
          · rename_i el'' cc hbc
            split at he
            · rename_i hh
              obtain ⟨h1, h2, rfl⟩ := hh
              simp at he
              refine ⟨cc, .inl hbc, fun cs hcs => ?_, he.symm, by rw [← hvn, hbc]; exact h1, h2⟩
              rw [hbc] at hcs
              cases hcs with
              | row hz hl hs hel => exact ⟨_, hz, hl, hs, hel⟩
            · simp at he
          · rename_i el'' cc hbc
            split at he
            · rename_i hh
              obtain ⟨h1, h2, rfl⟩ := hh
              simp at he
              refine ⟨cc, .inr hbc, fun cs hcs => ?_, he.symm, by rw [← hvn, hbc]; exact h1, h2⟩
              rw [hbc] at hcs
              cases hcs with
              | arr hz hl hs hel => exact ⟨_, hz, hl, hs, hel⟩
            · simp at he
          · simp at he
        have hll : ((cc.drop off).take len).length = len := by simp; omega
        rcases href hver with ⟨id, cp, z, a1, a2, a3, a4, rfl⟩ | ⟨rfl, rfl, a3, a4⟩
        · rcases h.box _ _ _ hb with ⟨el2, e1, e2⟩ | ⟨id', cs, b1, b2, b3, b4, b5, b6⟩
          · have : G.ρ l' k = some id := a1
            rw [e2] at this; simp at this
          · have a1' : G.ρ l' k = some id := a1
            rw [a1'] at b1
            simp at b1
            subst b1
            obtain ⟨z', c1, c2, c3, c4⟩ := hrow cs b6
            rw [a2] at c1
            simp at c1
            subst c1
            have hle' : off * z + len * z ≤ cs.length := by rw [c2, ← Nat.add_mul]; exact Nat.mul_le_mul_right _ hlen
            refine ⟨solidL_of fun v hv => solidL_mem c3 _ (List.mem_of_mem_drop (List.mem_of_mem_take hv)), _, _, _, rfl, hll.symm, .inr ⟨id, off * z, z, _, rfl, a2, a3, some_of_row b2 hle', fun i tv hi => ?_⟩⟩
            have hi' : i < len := by have := (List.getElem?_eq_some_iff.1 hi).1; omega
            rw [dt_get, if_pos hi'] at hi
            have := c4 _ _ hi
            rw [dt_dt _ _ _ _ _ (by rw [← Nat.succ_mul]; exact Nat.mul_le_mul_right _ hi'), ← Nat.add_mul]
            exact this
        · have hnil : (cc.drop 0).take 0 = [] := by simp
          rw [hnil]
          rcases a4 with rfl | ⟨id, o, z, rfl, b2, b3, b4⟩
          · exact ⟨rfl, _, _, _, rfl, rfl, .inl ⟨rfl, rfl, rfl⟩⟩
          · exact ⟨rfl, _, _, _, rfl, rfl, .inr ⟨id, o, z, [], rfl, b2, by omega, by rw [Nat.zero_mul]; exact b4, by simp⟩⟩
      · simp at he
    · simp at he
  | ptr => simp [elems] at he
  | ep => simp [elems] at he
  | fn => simp [elems] at he
  | agg => simp [elems] at he
  | arr => simp [elems] at he
  | row => simp [elems] at he

mutual
theorem snapU_ok {P : Program} {G : Gh} {st : Stk} {s : St} (h : Rel P G st s) : ∀ {v v' : TV} {ks : List (Nat × Nat)} {cs : List Value}, snapU st v = some (v', ks) → RC P (cfg G st s) v cs →
    (∀ q ∈ ks, ∃ b, look st q.1 q.2 = some b) ∧ solid v' = true ∧ aggy v' = aggy v ∧ ∀ K : Cfg, CLe (cfg G st s) K → K.s = s → (∀ q ∈ ks, ∀ id, G.ρ q.1 q.2 = some id → K.fz id) → RC P K v' cs
  | .ref l k ver off len ex el, v', ks, cs, he, hv => by
    simp only [snapU, Option.map_eq_some_iff] at he
    obtain ⟨c, hc, he⟩ := he
    simp only [Prod.mk.injEq] at he
    obtain ⟨rfl, rfl⟩ := he
    obtain ⟨cell, rfl, hcell⟩ := hv.one rfl
    obtain ⟨h1, a, n, cp, rfl, rfl, h2⟩ := elems_ok h hc hv
    refine ⟨fun q hq => ?_, rfl, rfl, fun K hK hs hf => ?_⟩
    · simp at hq
      subst hq
      simp only [elems, if_true] at hc
      split at hc
      · rename_i b hb; exact ⟨b, hb⟩
      · simp at hc
    · rcases h2 with ⟨rfl, h3, rfl⟩ | ⟨id, o, z, cs, rfl, h4, h5, h6, h7⟩
      · have : c = [] := List.eq_nil_of_length_eq_zero h3
        subst this
        exact .slnil
      · have hid : K.fz id := by
          cases hv with
          | ref hvs hle href hcc =>
            have hver : ver = vers (Option.getD (Option.map Box.c (look st l k)) (.at .nilFunc)) := by
              simp only [elems, if_true] at hc
              split at hc
              · rename_i b hb
                rw [hb]
                simp only [Option.map_some, Option.getD_some]
                split at hc
                · rename_i hbc
                  rw [hbc]
                  split at hc
                  · rename_i hh; exact hh.1
                  · simp at hc
                · rename_i hbc
                  rw [hbc]
                  split at hc
                  · rename_i hh; exact hh.1
                  · simp at hc
                · simp at hc
              · simp at hc
            have hn : vsOf st l k = some _ := hvs
            obtain ⟨b, hb, hbn⟩ := vs_some hn
            rw [hb] at hver
            simp only [Option.map_some, Option.getD_some] at hver
            rcases href (hver.trans hbn) with ⟨id', c', z', a1, a2, a3, a4, a5⟩ | ⟨a1, a2, a3, a4⟩
            · simp only [Value.slice.injEq, Option.some.injEq, Addr.mk.injEq] at a5
              obtain ⟨⟨rfl, _⟩, _⟩ := a5
              exact hf (l, k) (by simp) id a1
            · rcases a4 with a4 | ⟨id', o', z', b1, b2, b3, b4⟩
              · simp at a4
              · simp only [Value.slice.injEq, Option.some.injEq, Addr.mk.injEq] at b1
                obtain ⟨⟨rfl, _⟩, _⟩ := b1
                exact (hK.fz _ b3).1
        exact .sl hid (by rw [hs]; exact h6) h4 h5 (fun e => by simp at e) h1 fun i tv hi => (h7 i tv hi).mono hK
  | .agg t l, v', ks, cs, he, hv => by
    simp only [snapU] at he
    split at he
    · rename_i l' ks' hl'
      simp only [Option.some.injEq, Prod.mk.injEq] at he
      obtain ⟨rfl, rfl⟩ := he
      cases hv with
      | @agg _ _ fs _ ht htl hs hl hf hc =>
        obtain ⟨m, s1, g, r⟩ := snapUL_ok h hl' fun i v hi => by
          have hi' : i < fs.size := by rw [← hl]; exact (List.getElem?_eq_some_iff.1 hi).1
          obtain ⟨z, hz, _⟩ := hf i fs[i] (by simp [hi'])
          exact ⟨_, hc i _ _ z (by simp [hi']) hi hz⟩
        refine ⟨m, by simpa [solid] using s1, rfl, fun K hK hs' hf' => .agg ht htl hs (by rw [g, hl]) hf fun i f tv z hi ht' hz => ?_⟩
        have hlt : i < l.length := by rw [hl]; exact (Array.getElem?_eq_some_iff.1 hi).1
        exact (r K hK hs' hf' i l[i] tv _ (by simp [hlt]) ht' (hc i f _ z hi (by simp [hlt]) hz)).1
    · simp at he
  | .at v, v', ks, cs, he, hv => by
    simp only [snapU, Option.some.injEq, Prod.mk.injEq] at he
    obtain ⟨rfl, rfl⟩ := he
    exact ⟨by simp, rfl, rfl, fun K hK hs hf => hv.mono hK⟩
  | .sl _ _ _, v', ks, cs, he, hv => by
    simp only [snapU, Option.some.injEq, Prod.mk.injEq] at he
    obtain ⟨rfl, rfl⟩ := he
    exact ⟨by simp, rfl, rfl, fun K hK hs hf => hv.mono hK⟩
  | .arr _ _, v', ks, cs, he, hv => by
    simp only [snapU, Option.some.injEq, Prod.mk.injEq] at he
    obtain ⟨rfl, rfl⟩ := he
    exact ⟨by simp, rfl, rfl, fun K hK hs hf => hv.mono hK⟩
  | .ep _, v', ks, cs, he, hv => by
    simp only [snapU, Option.some.injEq, Prod.mk.injEq] at he
    obtain ⟨rfl, rfl⟩ := he
    exact ⟨by simp, rfl, rfl, fun K hK hs hf => hv.mono hK⟩
  | .row _ _, v', ks, cs, he, hv => by simp [snapU] at he
  | .ptr _ _ _ _, v', ks, cs, he, hv => by simp [snapU] at he
  | .fn _ _ _, v', ks, cs, he, hv => by simp [snapU] at he
  | .tup _, v', ks, cs, he, hv => by simp [snapU] at he
theorem snapUL_ok {P : Program} {G : Gh} {st : Stk} {s : St} (h : Rel P G st s) : ∀ {l l' : List TV} {ks : List (Nat × Nat)}, snapUL st l = some (l', ks) →
    (∀ (i : Nat) v, l[i]? = some v → ∃ cs, RC P (cfg G st s) v cs) →
    (∀ q ∈ ks, ∃ b, look st q.1 q.2 = some b) ∧ solidL l' = true ∧ l'.length = l.length ∧ ∀ K : Cfg, CLe (cfg G st s) K → K.s = s → (∀ q ∈ ks, ∀ id, G.ρ q.1 q.2 = some id → K.fz id) → ∀ (i : Nat) v v' cs, l[i]? = some v → l'[i]? = some v' → RC P (cfg G st s) v cs → RC P K v' cs ∧ aggy v' = aggy v
  | [], l', ks, he, hv => by
    simp only [snapUL, Option.some.injEq, Prod.mk.injEq] at he
    obtain ⟨rfl, rfl⟩ := he
    exact ⟨by simp, rfl, rfl, fun K hK hs hf i v v' cs hi => by simp at hi⟩
  | a :: l, l', ks, he, hv => by
    simp only [snapUL] at he
    split at he
    · rename_i a' k1 r' k2 h1 h2
      simp only [Option.some.injEq, Prod.mk.injEq] at he
      obtain ⟨rfl, rfl⟩ := he
      obtain ⟨cs0, hv0⟩ := hv 0 a rfl
      obtain ⟨m1, s1, g1, _⟩ := snapU_ok h h1 hv0
      obtain ⟨m2, s2, g2, r2⟩ := snapUL_ok h h2 fun i v hi => hv (i + 1) v (by simpa using hi)
      refine ⟨fun q hq => ?_, by simp [solidL, s1, s2], by simp [g2], fun K hK hs hf i v v' cs hi hi' hc => ?_⟩
      · rcases List.mem_append.1 hq with hq | hq
        · exact m1 q hq
        · exact m2 q hq
      · cases i with
        | zero =>
          simp at hi hi'
          subst hi
          subst hi'
          obtain ⟨_, _, _, r1⟩ := snapU_ok h h1 hc
          exact ⟨r1 K hK hs fun q hq => hf q (by simp [hq]), g1⟩
        | succ i => exact r2 K hK hs (fun q hq => hf q (by simp [hq])) i v v' cs (by simpa using hi) (by simpa using hi') hc
    · simp at he
end
end Go.Tm
end

section
/- The tree machine's operations are the evaluator's: what asks only. -/
set_option linter.unusedVariables false
set_option linter.unusedSimpArgs false
namespace Go.Tm
open Go.Eng

/-! ### slots -/
structure TER (P : Program) (K : Cfg) (te : TEnv) (e : Env) : Prop where
  len : te.length = e.length
  at' : ∀ (i : Nat) tv, te[i]? = some (some tv) → ∃ v, e[i]? = some (some v) ∧ RV P K tv v
theorem TER.mono {P : Program} {K K' : Cfg} (hk : CLe K K') {te : TEnv} {e : Env} (h : TER P K te e) : TER P K' te e := ⟨h.len, fun i tv hi => by obtain ⟨v, a, b⟩ := h.at' i tv hi; exact ⟨v, a, b.mono hk⟩⟩
theorem getD_none {α : Type} {x : Option (Option α)} {v : α} (h : x.getD none = some v) : x = some (some v) := by cases x <;> simp at h; rw [h]
theorem RV_at {P : Program} {K : Cfg} {a v : Value} (h : RV P K (.at a) v) : v = a ∧ atom a = true := by
  obtain ⟨h1, _⟩ := (h.to rfl).single rfl
  cases h1 with
  | «at» ha => exact ⟨rfl, ha⟩
theorem RV_one {P : Program} {K : Cfg} {tv : TV} {v : Value} (h : RV P K tv v) (h1 : isTup tv = false) (h2 : aggy tv = false) : RC P K tv [v] := ((h.to h1).single h2).1
theorem RV.single {P : Program} {K : Cfg} {tv : TV} {c : Value} (h : RC P K tv [c]) (h2 : aggy tv = false) : RV P K tv c := by
  obtain ⟨d, hd, hc⟩ := h.one h2
  simp at hd
  subst hd
  have := isAgg_cell hc
  exact .of ⟨by rw [cells_not this]; exact h, by rw [h2]; exact this⟩
theorem RV.aggr {P : Program} {K : Cfg} {tv : TV} {cs : List Value} (h : RC P K tv cs) (h2 : aggy tv = true) : RV P K tv (.agg cs.toArray) := .of ⟨by simpa [cells_agg] using h, by rw [h2]; rfl⟩
theorem RV.at {P : Program} {K : Cfg} {v : Value} (h : atom v = true) : RV P K (.at v) v := RV.single (.at h) rfl
theorem RV_cells {P : Program} {K : Cfg} {tv : TV} {v : Value} (h : RV P K tv v) (h1 : isTup tv = false) : RC P K tv v.cells.toList := (h.to h1).1

theorem topd_ok {P : Program} {K : Cfg} {te : TEnv} {e : Env} (h : TER P K te e) {x : Operand} {tv : TV} (hx : topd te x = some tv) : ∃ v, opd e x = some v ∧ RV P K tv v := by
  cases x with
  | tmp t =>
    obtain ⟨v, a, b⟩ := h.at' t tv (getD_none hx)
    exact ⟨v, by simp [opd, a], b⟩
  | const v =>
    simp only [topd] at hx
    split at hx
    · rename_i ha
      simp at hx; subst hx
      exact ⟨v, by simp [opd, ha], .at ha⟩
    · simp at hx
  | func f =>
    simp only [topd, Option.some.injEq] at hx
    subst hx
    exact ⟨_, rfl, RV.single (.fn (x := []) (y := []) rfl rfl (by simp) (by simp) (by simp) (by simp) (by simp) (by simp)) rfl⟩
  | global g => simp [topd] at hx
def RVL (P : Program) (K : Cfg) (l : List TV) (vs : List Value) : Prop := l.length = vs.length ∧ ∀ (i : Nat) tv v, l[i]? = some tv → vs[i]? = some v → RV P K tv v
theorem RVL.nil {P : Program} {K : Cfg} : RVL P K [] [] := ⟨rfl, by simp⟩
theorem RVL.cons {P : Program} {K : Cfg} {a : TV} {b : Value} {l : List TV} {vs : List Value} (h : RV P K a b) (t : RVL P K l vs) : RVL P K (a :: l) (b :: vs) :=
  ⟨by simp [t.1], fun i tv v x y => by cases i with | zero => simp at x y; subst x; subst y; exact h | succ i => exact t.2 i tv v (by simpa using x) (by simpa using y)⟩
theorem RVL.inv {P : Program} {K : Cfg} {a : TV} {l : List TV} {vs : List Value} (h : RVL P K (a :: l) vs) : ∃ b r, vs = b :: r ∧ RV P K a b ∧ RVL P K l r := by
  cases vs with
  | nil => exact absurd h.1 (by simp)
  | cons b r => exact ⟨b, r, rfl, h.2 0 a b rfl rfl, by simpa using h.1, fun i tv v x y => h.2 (i + 1) tv v (by simpa using x) (by simpa using y)⟩
theorem RVL.append {P : Program} {K : Cfg} {a c : List TV} {b d : List Value} (h : RVL P K a b) (k : RVL P K c d) : RVL P K (a ++ c) (b ++ d) := by
  refine ⟨by simp [h.1, k.1], fun i x y hx hy => ?_⟩
  by_cases hi : i < a.length
  · rw [List.getElem?_append_left hi] at hx
    rw [List.getElem?_append_left (by rw [← h.1]; exact hi)] at hy
    exact h.2 i x y hx hy
  · rw [List.getElem?_append_right (by omega)] at hx
    rw [List.getElem?_append_right (by rw [← h.1]; omega), ← h.1] at hy
    exact k.2 _ x y hx hy
theorem RVL.mono {P : Program} {K K' : Cfg} (hk : CLe K K') {l : List TV} {vs : List Value} (h : RVL P K l vs) : RVL P K' l vs := ⟨h.1, fun i tv v a b => (h.2 i tv v a b).mono hk⟩
theorem topds_ok {P : Program} {K : Cfg} {te : TEnv} {e : Env} (h : TER P K te e) : ∀ {xs : List Operand} {l : List TV}, topds te xs = some l → ∃ vs, opds e xs = some vs ∧ RVL P K l vs
  | [], l, hx => by simp [topds] at hx; subst hx; exact ⟨[], rfl, .nil⟩
  | x :: xs, l, hx => by
    simp only [topds] at hx
    split at hx
    · rename_i v hv
      split at hx
      · rename_i r hr
        simp at hx; subst hx
        obtain ⟨a, ha, hva⟩ := topd_ok h hv
        obtain ⟨b, hb, hvb⟩ := topds_ok h hr
        exact ⟨a :: b, by simp [opds, ha, hb], .cons hva hvb⟩
      · simp at hx
    · simp at hx
theorem topdO_ok {P : Program} {K : Cfg} {te : TEnv} {e : Env} (h : TER P K te e) {x : Option Operand} {r : Option Value} (hx : topdO te x = some r) : opdO e x = some r := by
  cases x with
  | none => simp [topdO] at hx; subst hx; rfl
  | some x =>
    simp only [topdO] at hx
    split at hx
    · rename_i v hv
      simp at hx; subst hx
      obtain ⟨a, ha, hva⟩ := topd_ok h hv
      obtain ⟨rfl, _⟩ := RV_at hva
      simp [opdO, ha]
    · simp at hx
def PRL (P : Program) (K : Cfg) (l : List (Nat × TV)) (vs : List (Nat × Value)) : Prop := l.map (·.1) = vs.map (·.1) ∧ RVL P K (l.map (·.2)) (vs.map (·.2))
theorem tparts_ok {P : Program} {K : Cfg} {te : TEnv} {e : Env} (h : TER P K te e) : ∀ {xs : List (Nat × Operand)} {l : List (Nat × TV)}, tparts te xs = some l → ∃ vs, parts e xs = some vs ∧ PRL P K l vs
  | [], l, hx => by simp [tparts] at hx; subst hx; exact ⟨[], rfl, rfl, .nil⟩
  | (i, x) :: xs, l, hx => by
    simp only [tparts] at hx
    split at hx
    · rename_i v hv
      split at hx
      · rename_i r hr
        simp at hx; subst hx
        obtain ⟨a, ha, hva⟩ := topd_ok h hv
        obtain ⟨b, hb, h1, h2⟩ := tparts_ok h hr
        exact ⟨(i, a) :: b, by simp [parts, ha, hb], by simpa using h1, .cons hva h2⟩
      · simp at hx
    · simp at hx

/-! ### lengths -/
theorem RC.len_unique {P : Program} {K K' : Cfg} {tv : TV} {cs ds : List Value} (h : RC P K tv cs) (k : RC P K' tv ds) : cs.length = ds.length := by
  cases h with
  | agg ht htl hs hl hf h => cases k with | agg ht' htl' hs' _ _ _ => rw [hs] at hs'; simpa using hs'
  | arr hz hl _ _ => cases k with | arr hz' hl' _ _ => rw [hz] at hz'; simp at hz'; subst hz'; rw [hl, hl']
  | row hz hl _ _ => cases k with | row hz' hl' _ _ => rw [hz] at hz'; simp at hz'; subst hz'; rw [hl, hl']
  | «at» _ => obtain ⟨d, rfl, _⟩ := k.one rfl; rfl
  | slnil => obtain ⟨d, rfl, _⟩ := k.one rfl; rfl
  | sl => obtain ⟨d, rfl, _⟩ := k.one rfl; rfl
  | ref => obtain ⟨d, rfl, _⟩ := k.one rfl; rfl
  | ptr => obtain ⟨d, rfl, _⟩ := k.one rfl; rfl
  | ep => obtain ⟨d, rfl, _⟩ := k.one rfl; rfl
  | fn => obtain ⟨d, rfl, _⟩ := k.one rfl; rfl
theorem some_sub {s : St} {id off n a m : Nat} {cs : List Value} (h : s.some? id off n = some cs) (ha : a + m ≤ n) : s.some? id (off + a) m = some ((cs.drop a).take m) := by
  obtain ⟨c, own, hr, hl, rfl⟩ := some_row h
  rw [some_of_row hr (by omega), dt_dt _ _ _ _ _ ha]
theorem some_len {s : St} {id off n : Nat} {cs : List Value} (h : s.some? id off n = some cs) : cs.length = n := by
  obtain ⟨c, own, hr, hl, rfl⟩ := some_row h
  exact dt_length hl

/-! ### zeros -/
theorem parse_ok {P : Program} (n : Nat) : (∀ t cs tv, parseT P n t cs = some tv → ∀ K, RC P K tv cs) ∧
    (∀ cs fs l, parseF P n cs fs = some l → l.length = fs.length ∧ ∀ (i : Nat) (f : Field) tv, fs[i]? = some f → l[i]? = some tv → ∃ z, sizeT P f.type = some z ∧ f.offset + z ≤ cs.length ∧ ∀ K, RC P K tv ((cs.drop f.offset).take z)) ∧
    (∀ el z k cs l, parseA P n el z k cs = some l → l.length = k ∧ solidL l = true ∧ ∀ (i : Nat) tv, l[i]? = some tv → ∀ K, RC P K tv ((cs.drop (i * z)).take z)) := by
  induction n with
  | zero => exact ⟨fun _ _ _ h => by simp [parseT] at h, fun _ _ _ h => by simp [parseF] at h, fun _ _ _ _ _ h => by simp [parseA] at h⟩
  | succ n ih =>
    obtain ⟨ih1, ih2, ih3⟩ := ih
    refine ⟨fun t cs tv h K => ?_, fun cs fs l h => ?_, fun el z k cs l h => ?_⟩
    · simp only [parseT] at h
      split at h
      · rename_i fs hu
        split at h
        · rename_i hh
          simp only [Option.map_eq_some_iff] at h
          obtain ⟨l, hl, rfl⟩ := h
          obtain ⟨a, b⟩ := ih2 _ _ _ hl
          refine .agg hu hh.2 hh.1 (by simpa using a) (fun i f hf => ?_) fun i f tv z hf hi hz => ?_
          · have hi : i < l.length := by rw [a]; have := (Array.getElem?_eq_some_iff.1 hf).1; simpa using this
            obtain ⟨z, hz, hle, _⟩ := b i f l[i] (by simpa using hf) (by simp [hi])
            exact ⟨z, hz, hle⟩
          · obtain ⟨z', hz', hle, hr⟩ := b i f tv (by simpa using hf) hi
            rw [hz] at hz'
            simp at hz'
            subst hz'
            exact hr K
        · simp at h
      · rename_i k el hu
        split at h
        · rename_i z hz
          split at h
          · rename_i hlen
            simp only [Option.map_eq_some_iff] at h
            obtain ⟨l, hl, rfl⟩ := h
            obtain ⟨a, b, c⟩ := ih3 _ _ _ _ _ hl
            exact .arr hz (by rw [a]; exact hlen) b fun i tv hi => c i tv hi K
          · simp at h
        · simp at h
      · split at h
        · split at h
          · rename_i ha
            simp at h; subst h
            exact .at ha
          · simp at h
        · simp at h
    · cases fs with
      | nil => simp [parseF] at h; subst h; exact ⟨rfl, fun i f tv hf => by simp at hf⟩
      | cons f fs =>
        simp only [parseF] at h
        split at h
        · rename_i z hz
          split at h
          · rename_i hle
            split at h
            · rename_i v r hv hr
              simp at h; subst h
              obtain ⟨a, b⟩ := ih2 _ _ _ hr
              refine ⟨by simp [a], fun i g tv hg hi => ?_⟩
              cases i with
              | zero => simp at hg hi; subst hg; subst hi; exact ⟨z, hz, hle, ih1 _ _ _ hv⟩
              | succ i => exact b i g tv (by simpa using hg) (by simpa using hi)
            · simp at h
          · simp at h
        · simp at h
    · cases k with
      | zero => simp [parseA] at h; subst h; exact ⟨rfl, rfl, fun i tv hi => by simp at hi⟩
      | succ k =>
        simp only [parseA] at h
        split at h
        · rename_i v r hv hr
          split at h
          · rename_i hs
            simp at h; subst h
            obtain ⟨a, b, c⟩ := ih3 _ _ _ _ _ hr
            refine ⟨by simp [a], by simp [solidL, hs, b], fun i tv hi K => ?_⟩
            cases i with
            | zero => simp at hi; subst hi; simpa using ih1 _ _ _ hv K
            | succ i =>
              have := c i tv (by simpa using hi) K
              rw [List.drop_drop] at this
              rw [Nat.succ_mul, Nat.add_comm]
              exact this
          · simp at h
        · simp at h
theorem zeroTV_ok {P : Program} {t : TypeId} {tv : TV} (h : zeroTV P t = some tv) : ∃ z, zeroT P t = some z ∧ (∀ K, RV1 P K tv z) ∧ solid tv = true ∧ fits P t tv = true := by
  unfold zeroTV at h
  split at h
  · rename_i z hz
    split at h
    · rename_i tv' hp
      split at h
      · rename_i hh
        simp at h; subst h
        exact ⟨z, hz, fun K => ⟨(parse_ok _).1 _ _ _ hp K, hh.1⟩, hh.2.1, hh.2.2⟩
      · simp at h
    · simp at h
  · simp at h

/-! ### the same cells -/
mutual
theorem flatC_ok {P : Program} {K : Cfg} : ∀ {tv : TV} {cs c : List Value}, RC P K tv cs → flatC P tv = some c → cs = c
  | .at v, cs, c, h, hf => by simp [flatC] at hf; subst hf; cases h; rfl
  | .agg t l, cs, c, h, hf => by
    simp only [flatC] at hf
    split at hf
    · cases h with
      | @agg _ _ fs _ ht htl hs hl hff hc =>
        have htl' := htl
        unfold tiledT at htl'
        rw [ht] at htl'
        simp only [Bool.and_eq_true, beq_iff_eq, Option.isSome_iff_exists] at htl'
        obtain ⟨⟨m, hm⟩, he⟩ := htl'
        rw [hm, hs] at he
        simp at he
        have := flatCL_struct (n := 0) fs.toList hm (by simpa using hl) he.symm (fun i f tv z a b c => hc i f tv z (by simpa using a) b c) hf
        simpa using this
    · simp at hf
  | .arr el l, cs, c, h, hf => by
    simp only [flatC] at hf
    cases h with
    | arr hz hl hs hc => exact flatCL_arr hl hc hf
  | .sl _ _ _, cs, c, h, hf => by simp [flatC] at hf
  | .ref _ _ _ _ _ _ _, cs, c, h, hf => by simp [flatC] at hf
  | .ptr _ _ _ _, cs, c, h, hf => by simp [flatC] at hf
  | .ep _, cs, c, h, hf => by simp [flatC] at hf
  | .row _ _, cs, c, h, hf => by simp [flatC] at hf
  | .fn _ _ _, cs, c, h, hf => by simp [flatC] at hf
  | .tup _, cs, c, h, hf => by simp [flatC] at hf
theorem flatCL_struct {P : Program} {K : Cfg} : ∀ {l : List TV} (fs : List Field) {n m : Nat} {cs c : List Value}, tiledGo P n fs = some m → l.length = fs.length → cs.length = m → (∀ (i : Nat) (f : Field) tv z, fs[i]? = some f → l[i]? = some tv → sizeT P f.type = some z → RC P K tv ((cs.drop f.offset).take z)) → flatCL P l = some c → cs.drop n = c
  | [], fs, n, m, cs, c, ht, hl, hm, hc, hf => by
    simp [flatCL] at hf
    have : fs = [] := List.eq_nil_of_length_eq_zero (by simpa using hl.symm)
    subst this
    simp [tiledGo] at ht
    subst hf
    exact List.drop_of_length_le (by omega)
  | v :: l, fs, n, m, cs, c, ht, hl, hm, hc, hf => by
    cases fs with
    | nil => simp at hl
    | cons f fs =>
      simp only [tiledGo] at ht
      split at ht
      · rename_i z hz
        split at ht
        · rename_i ho
          simp only [flatCL] at hf
          split at hf
          · rename_i a b ha hb
            simp at hf; subst hf
            have h1 := flatC_ok (hc 0 f v z rfl rfl hz) ha
            have h2 := flatCL_struct fs ht (by simpa using hl) hm (fun i g tv z x y w => hc (i + 1) g tv z (by simpa using x) (by simpa using y) w) hb
            rw [ho] at h1
            rw [← h1, ← h2, ← List.drop_drop, List.take_append_drop]
          · simp at hf
        · simp at ht
      · simp at ht
theorem flatCL_arr {P : Program} {K : Cfg} : ∀ {l : List TV} {z : Nat} {cs c : List Value}, cs.length = l.length * z → (∀ (i : Nat) tv, l[i]? = some tv → RC P K tv ((cs.drop (i * z)).take z)) → flatCL P l = some c → cs = c
  | [], z, cs, c, hl, hc, hf => by simp [flatCL] at hf; subst hf; exact List.eq_nil_of_length_eq_zero (by simpa using hl)
  | v :: l, z, cs, c, hl, hc, hf => by
    simp only [flatCL] at hf
    split at hf
    · rename_i a b ha hb
      simp at hf; subst hf
      have h1 := flatC_ok (hc 0 v rfl) ha
      have h2 := flatCL_arr (z := z) (cs := cs.drop z) (by rw [List.length_drop, hl, List.length_cons, Nat.succ_mul]; omega) (fun i tv hi => by
        have := hc (i + 1) tv (by simpa using hi)
        rw [List.drop_drop]
        rw [Nat.succ_mul, Nat.add_comm] at this
        exact this) hb
      rw [← h1, ← h2]
      simp
    · simp at hf
end

theorem live_ok {st : Stk} {l k ver n : Nat} (h : live st l k ver = true) (hv : vsOf st l k = some n) : ver = n := by
  unfold live at h
  obtain ⟨b, hb, rfl⟩ := vs_some hv
  rw [hb] at h
  simpa using h

theorem kind3 {P : Program} {t : TypeId} (h : kindT P t = 3) : ∃ e, P.underlying t = some (.slice e) := by unfold kindT at h; split at h <;> first | exact ⟨_, by assumption⟩ | simp at h
theorem kind5 {P : Program} {t : TypeId} (h : kindT P t = 5) : ∃ e, P.underlying t = some (.pointer e) := by unfold kindT at h; split at h <;> first | exact ⟨_, by assumption⟩ | simp at h
theorem kind7 {P : Program} {t : TypeId} (h : kindT P t = 7) : ∃ a b c, P.underlying t = some (.func a b c) := by unfold kindT at h; split at h <;> first | exact ⟨_, _, _, by assumption⟩ | simp at h
theorem kind1 {P : Program} {t : TypeId} (h : kindT P t = 1) : P.underlying t = some .string := by unfold kindT at h; split at h <;> first | assumption | simp at h
theorem intT_ok {P : Program} {t : TypeId} {k : IntKind} (h : intT P t = some k) : P.underlying t = some (.int k) := by
  unfold intT at h
  split at h
  · rename_i hu; simp at h; subst h; exact hu
  · simp at h
theorem arT_ok {P : Program} {t : TypeId} {n : Nat} {el : TypeId} {z : Nat} (h : arT P t = some (n, el, z)) : P.underlying t = some (.array n el) ∧ sizeT P el = some z := by
  unfold arT at h
  split at h
  · rename_i hu
    split at h
    · rename_i hz; simp at h; obtain ⟨rfl, rfl, rfl⟩ := h; exact ⟨hu, hz⟩
    · simp at h
  · simp at h
theorem slT_ok {P : Program} {t el : TypeId} {z b : Nat} (h : slT P t = some (el, z, b)) : P.underlying t = some (.slice el) ∧ sizeT P el = some z ∧ bytesT P el = some b ∧ ∃ zero, zeroT P el = some zero ∧ z ≠ 0 ∧ b ≠ 0 ∧ zero.cells.size = z := by
  unfold slT at h
  split at h
  · rename_i e hu
    split at h
    · rename_i z' b' zero hz hb hze
      split at h
      · simp at h
      · rename_i hh
        simp at h
        obtain ⟨rfl, rfl, rfl⟩ := h
        exact ⟨hu, hz, hb, zero, hze, by omega, by omega, by omega⟩
    · simp at h
  · simp at h

theorem atom_bool (b : Bool) : atom (.bool b) = true := rfl
theorem tBin_ok {P : Program} {G : Gh} {st : Stk} {s : St} (h : Rel P G st s) {op : BinOp} {t : TypeId} {x y tv : TV} {a b : Value} (hx : RV P (cfg G st s) x a) (hy : RV P (cfg G st s) y b) (he : tBin P st op t x y = some tv) :
    ∃ v, aBin P op t a b = some v ∧ RV P (cfg G st s) tv v := by
  unfold tBin at he
  split at he
  · rename_i va vb
    obtain ⟨rfl, _⟩ := RV_at hx
    obtain ⟨rfl, _⟩ := RV_at hy
    split at he
    · rename_i v hv
      split at he
      · rename_i ha
        simp at he; subst he
        exact ⟨v, hv, .at ha⟩
      · simp at he
    · simp at he
  · rename_i t1 l1 t2 l2
    split at he
    · rename_i c d hc hd
      obtain ⟨ca, rfl, h1⟩ := (hx.to rfl).aggr rfl
      obtain ⟨cb, rfl, h2⟩ := (hy.to rfl).aggr rfl
      have e1 := flatC_ok h1 hc
      have e2 := flatC_ok h2 hd
      subst e1
      subst e2
      split at he
      · rename_i v hv
        split at he
        · rename_i ha
          simp at he; subst he
          exact ⟨v, hv, .at ha⟩
        · simp at he
      · simp at he
    · simp at he
  · rename_i x' vb _
    obtain ⟨rfl, _⟩ := RV_at hy
    split at he
    · rename_i hh
      obtain ⟨hi, hn⟩ := hh
      have hxx : isTup x = false ∧ aggy x = false := by
        cases x <;> first | exact ⟨rfl, rfl⟩ | simp [nonNil] at hi
      have hrc := RV_one hx hxx.1 hxx.2
      have md : Op.maxDepth = 9999 + 1 := rfl
      have sl : ∀ {id o n c}, a = .slice (some ⟨id, o, none⟩) n c → kindT P t = 3 → aBin P .eql t a b = some (.bool false) ∧ aBin P .neq t a b = some (.bool true) := by
        rintro id o n c rfl hk
        rw [hk] at hn
        obtain ⟨e, hu⟩ := kind3 hk
        have : b = .slice none 0 0 := by
          unfold nilOf at hn
          split at hn <;> first | rfl | simp at hn
        subst this
        simp [aBin, aEq, md, aEqN, hu]
      have pt : ∀ {p}, a = .pointer (some p) → kindT P t = 5 → aBin P .eql t a b = some (.bool false) ∧ aBin P .neq t a b = some (.bool true) := by
        rintro p rfl hk
        rw [hk] at hn
        obtain ⟨e, hu⟩ := kind5 hk
        have : b = .pointer none := by
          unfold nilOf at hn
          split at hn <;> first | rfl | simp at hn
        subst this
        simp [aBin, aEq, md, aEqN, hu]
      have key : aBin P .eql t a b = some (.bool false) ∧ aBin P .neq t a b = some (.bool true) := by
        cases x with
        | sl ex el l =>
          cases l with
          | nil => simp [nonNil] at hi
          | cons u l =>
            simp [nonNil] at hi
            cases hrc with
            | sl => exact sl rfl hi.symm
        | ref l k ver off len ex el =>
          cases len with
          | zero => simp [nonNil] at hi
          | succ len =>
            simp only [nonNil] at hi
            split at hi
            · rename_i hl
              simp at hi
              cases hrc with
              | ref hv hle href hc =>
                rcases href (live_ok hl hv) with ⟨id, c, z, a1, a2, a3, a4, a5⟩ | ⟨_, a2, _⟩
                · exact sl a5 hi.symm
                · simp at a2
            · simp at hi
        | ptr l k ver p =>
          simp only [nonNil] at hi
          split at hi
          · rename_i hl
            simp at hi
            cases hrc with
            | ptr hv hle href hc =>
              obtain ⟨id, off, a1, a2, a3⟩ := href (live_ok hl hv)
              exact pt a3 hi.symm
          · simp at hi
        | ep v =>
          simp [nonNil] at hi
          cases hrc with
          | ep => exact pt rfl hi.symm
        | fn f c d =>
          simp [nonNil] at hi
          cases hrc with
          | fn =>
            rw [← hi] at hn
            obtain ⟨e1, e2, e3, hu⟩ := kind7 hi.symm
            have : b = .nilFunc := by
              unfold nilOf at hn
              split at hn <;> first | rfl | simp at hn
            subst this
            simp [aBin, aEq, md, aEqN, hu]
        | _ => simp [nonNil] at hi
      split at he
      · simp at he; subst he; exact ⟨_, key.1, .at rfl⟩
      · simp at he; subst he; exact ⟨_, key.2, .at rfl⟩
      · simp at he
    · simp at he
  · simp at he

theorem mul_lt {i n : Nat} (z : Nat) (h : i < n) : i * z + z ≤ n * z := by rw [← Nat.succ_mul]; exact Nat.mul_le_mul_right _ h
theorem tIndexAddr_ok {P : Program} {G : Gh} {st : Stk} {s : St} (h : Rel P G st s) {t : TypeId} {x tv : TV} {a : Value} {k : IntKind} {i : Int} (hx : RV P (cfg G st s) x a) (he : tIndexAddr P st t x i = some tv) :
    ∃ v, aIndexAddr P t a (.int k i) = some v ∧ RV P (cfg G st s) tv v := by
  unfold tIndexAddr at he
  split at he
  · split at he
    · rename_i n0 el0 z0 hu
      split at he
      · rename_i hh
        obtain ⟨hl, h0, h1⟩ := hh
        simp at he; subst he
        have hrc := RV_one hx rfl rfl
        cases hrc with
        | ptr hv hle href hc =>
          have hvn := live_ok hl hv
          obtain ⟨id, off, a1, a2, rfl⟩ := href hvn
          obtain ⟨hu, hz⟩ := arT_ok hu
          refine ⟨.pointer (some ⟨id, off + i.toNat * z0, none⟩), by simp [aIndexAddr, hu, hz, h0, h1], RV.single (.ptr hv hle (fun _ => ⟨id, off + i.toNat * z0, a1, poff_append a2 (by simp [poff, hz]), rfl⟩) rfl) rfl⟩
      · simp at he
    · simp at he
  · rename_i l0 k0 ver0 off0 len0 ex0 el0
    split at he
    · rename_i el1 z0 b0 hu
      split at he
      · rename_i hh
        obtain ⟨hl, h0, h1, rfl⟩ := hh
        simp at he; subst he
        have hrc := RV_one hx rfl rfl
        cases hrc with
        | ref hv hle href hc =>
          have hvn := live_ok hl hv
          obtain ⟨hu, hz, _⟩ := slT_ok hu
          rcases href hvn with ⟨id, c, z, a1, a2, a3, a4, rfl⟩ | ⟨_, a2, _⟩
          · rw [hz] at a2
            simp at a2
            subst a2
            exact ⟨.pointer (some ⟨id, off0 * z0 + i.toNat * z0, none⟩), by simp [aIndexAddr, hu, hz, h0, h1], RV.single (.ptr hv hle (fun _ => ⟨id, off0 * z0 + i.toNat * z0, a1, by simp [poff, hz, Nat.add_mul], rfl⟩) rfl) rfl⟩
          · omega
      · simp at he
    · simp at he
  · split at he
    · rename_i el1 z0 b0 hu
      split at he
      · rename_i hh
        obtain ⟨h0, rfl⟩ := hh
        split at he
        · rename_i v hv
          simp at he; subst he
          obtain ⟨hu, hz, _⟩ := slT_ok hu
          have hlt := (List.getElem?_eq_some_iff.1 hv).1
          have hrc := RV_one hx rfl rfl
          cases hrc with
          | slnil => simp at hv
          | @sl _ _ _ id off c z' cs hid hr hz' hc hxx hs hel =>
            rw [hz] at hz'
            simp at hz'
            subst hz'
            refine ⟨.pointer (some ⟨id, off + i.toNat * z0, none⟩), by simp only [aIndexAddr, hu, hz]; rw [if_pos (by omega)], RV.single (.ep hid ?_ (solidL_mem hs _ (List.mem_of_getElem? hv)) (hel _ _ hv)) rfl⟩
            have hle := mul_lt z0 hlt
            rw [dt_length (by rw [some_len hr]; exact hle)]
            exact some_sub hr hle
        · simp at he
      · simp at he
    · simp at he
  · split at he
    · rename_i n0 el1 z0 hu
      split at he
      · rename_i hh
        obtain ⟨h0, rfl, rfl⟩ := hh
        split at he
        · rename_i v hv
          simp at he; subst he
          obtain ⟨hu, hz⟩ := arT_ok hu
          have hlt := (List.getElem?_eq_some_iff.1 hv).1
          have hrc := RV_one hx rfl rfl
          cases hrc with
          | @ep _ id off cs hid hr hs hh =>
            cases hh with
            | arr hz' hl hs' hel =>
              rw [hz] at hz'
              simp at hz'
              subst hz'
              refine ⟨.pointer (some ⟨id, off + i.toNat * z0, none⟩), by simp only [aIndexAddr, hu, hz]; rw [if_pos (by omega)], RV.single (.ep hid ?_ (solidL_mem hs' _ (List.mem_of_getElem? hv)) (hel _ _ hv)) rfl⟩
              have hle := mul_lt z0 hlt
              rw [← hl] at hle
              rw [dt_length hle]
              exact some_sub hr hle
        · simp at he
      · simp at he
    · simp at he
  · simp at he

/-- one piece of an aggregate, taken out -/
theorem aPart_ok {P : Program} {K : Cfg} {t : TypeId} {tv : TV} {cs : List Value} {off z : Nat} (hz : sizeT P t = some z) (hf : fits P t tv = true) (h : RC P K tv ((cs.drop off).take z)) (hle : off + z ≤ cs.length) : ∃ v, aEqN.aPart P t cs.toArray off = some v ∧ RV P K tv v := by
  obtain ⟨h1, h2⟩ := h.fits_len hf
  unfold aEqN.aPart
  rw [h2]
  cases ha : aggy tv with
  | true =>
    have e : cs.toArray.extract off (off + z) = ((cs.drop off).take z).toArray := by
      apply Array.ext'
      simp [Array.toList_extract, List.extract_eq_take_drop]
    exact ⟨.agg ((cs.drop off).take z).toArray, by simp only [hz, Option.map_some, e], RV.aggr h ha⟩
  | false =>
    obtain ⟨c, hc, _⟩ := h.one ha
    have : z = 1 := by have := congrArg List.length hc; rw [dt_length hle] at this; simpa using this
    subst this
    have hg : cs[off]? = some c := by
      have := congrArg (·[0]?) hc
      simpa [dt_get] using this
    refine ⟨c, by simpa using hg, RV.single (by rw [hc] at h; exact h) ha⟩

theorem tIndex_ok {P : Program} {K : Cfg} {t : TypeId} {x tv : TV} {a : Value} {k : IntKind} {i : Int} (hx : RV P K x a) (he : tIndex P t x i = some tv) :
    ∃ v, aIndex P t a (.int k i) = some v ∧ RV P K tv v := by
  unfold tIndex at he
  split at he
  · split at he
    · rename_i n0 el1 z0 hu
      split at he
      · rename_i hh
        obtain ⟨h0, rfl, hn, hfit⟩ := hh
        obtain ⟨hu, hz⟩ := arT_ok hu
        have hlt := (List.getElem?_eq_some_iff.1 he).1
        obtain ⟨c, rfl, hrc⟩ := (hx.to rfl).aggr rfl
        cases hrc with
        | arr hz' hl hs hel =>
          rw [hz] at hz'
          simp at hz'
          subst hz'
          have hle := mul_lt z0 hlt
          rw [← hl] at hle
          obtain ⟨v, hv, hr⟩ := aPart_ok hz (by rw [he] at hfit; simpa using hfit) (hel _ _ he) hle
          exact ⟨v, by simp only [aIndex, hu, hz]; rw [if_pos (by omega)]; exact hv, hr⟩
      · simp at he
    · simp at he
  · split at he
    · rename_i hh
      obtain ⟨hk, h0⟩ := hh
      obtain ⟨rfl, _⟩ := RV_at hx
      simp only [Option.map_eq_some_iff] at he
      obtain ⟨b, hb, rfl⟩ := he
      exact ⟨_, by simp [aIndex, kind1 hk, h0, hb], .at rfl⟩
    · simp at he
  · simp at he

theorem tSlice_ok {P : Program} {G : Gh} {st : Stk} {s : St} (h : Rel P G st s) {t : TypeId} {x tv : TV} {a : Value} {lo hi mx : Option Value} (hx : RV P (cfg G st s) x a) (he : tSlice P st t x lo hi mx = some tv) :
    ∃ v, aSlice P s t a lo hi mx = some v ∧ RV P (cfg G st s) tv v := by
  have bounds : ∀ {n : Nat} {l h : Option Value} {p q : Nat}, aBounds n l h = some (p, q) → p ≤ q ∧ q ≤ n := by
    intro n l h p q e
    unfold aBounds at e
    split at e
    · split at e
      · simp at e; omega
      · split at e
        · simp at e; omega
        · simp at e
      · simp at e
    · split at e
      · split at e
        · simp at e; omega
        · split at e
          · simp at e; omega
          · simp at e
        · simp at e
      · simp at e
    · simp at e
  unfold tSlice at he
  split at he
  · rename_i l k ver p
    split at he
    · rename_i n el z hu
      split at he
      · rename_i p' q' bx hb hlk
        split at he
        · rename_i el' c hbc
          split at he
          · rename_i hh
            obtain ⟨rfl, hc, rfl⟩ := hh
            simp at he; subst he
            obtain ⟨hu, hz⟩ := arT_ok hu
            have hrc := RV_one hx rfl rfl
            cases hrc with
            | ptr hv hle href hcell =>
              have hvn : vsOf st l k = some _ := hv
              rw [vs_of hlk, hbc] at hvn
              simp [vers] at hvn
              subst hvn
              obtain ⟨id, off, a1, a2, rfl⟩ := href rfl
              simp [poff] at a2
              subst a2
              have a1' : G.ρ l k = some id := a1
              rcases h.box _ _ _ hlk with ⟨e1, e2, e3⟩ | ⟨id', cs, b1, b2, b3, b4, b5, b6⟩
              · rw [hbc] at e2; simp at e2
              · rw [a1'] at b1
                simp at b1
                subst b1
                rw [hbc] at b6
                cases b6 with
                | arr hz' hl' hs' hel =>
                  rw [hz] at hz'
                  simp at hz'
                  subst hz'
                  have hbb := bounds hb
                  refine ⟨_, by simp only [aSlice, hu, hz, hb, b2]; rw [if_pos (by rw [hl', hc]; omega)], RV.single (.ref hv (Nat.le_refl _) (fun _ => .inl ⟨id, if q' = n then 2 * z else 2 * z + 1, z, a1, hz, ?_, fun e => ?_, by simp⟩) rfl) rfl⟩
                  · split <;> omega
                  · simp at e; rw [if_pos e]
          · simp at he
        · simp at he
      · simp at he
    · simp at he
  · split at he
    · rename_i hk
      split at he
      · rename_i p q hb
        simp at he; subst he
        obtain ⟨rfl, _⟩ := RV_at hx
        exact ⟨_, by simp [aSlice, kind1 hk, hb], .at rfl⟩
      · simp at he
    · simp at he
  · cases hu : slT P t with
    | none => rw [hu] at he; simp at he
    | some q =>
      rw [hu] at he
      obtain ⟨el, z, b⟩ := q
      cases mx with
      | some m => simp at he
      | none =>
        cases hb : aBounds 0 lo hi with
        | none => rw [hb] at he; simp at he
        | some q =>
          rw [hb] at he
          obtain ⟨rfl, _⟩ := RV_at hx
          simp at he; subst he
          obtain ⟨hu, hz, _⟩ := slT_ok hu
          exact ⟨_, by simp [aSlice, hu, hb, hz], .at rfl⟩
  · rename_i l k ver off len ex el
    split at he
    · rename_i el' z b p q hu hb
      split at he
      · simp at he
      · rename_i hh
        simp only [ne_eq, not_or, Decidable.not_not, Bool.not_eq_false] at hh
        obtain ⟨rfl, hl⟩ := hh
        split at he
        · split at he
          · simp at he
          · rename_i hlen
            simp at he; subst he
            obtain ⟨hu, hz, _⟩ := slT_ok hu
            have hrc := RV_one hx rfl rfl
            cases hrc with
            | ref hv hle href hc =>
              have hvn := live_ok hl hv
              rcases href hvn with ⟨id, c, z', a1, a2, a3, a4, rfl⟩ | ⟨_, a2, _⟩
              · rw [hz] at a2
                simp at a2
                subst a2
                refine ⟨_, by simp only [aSlice, hu, hz, hb]; rw [if_neg (by omega)], RV.single (.ref hv hle (fun _ => .inl ⟨id, if c = 2 * z ∧ q = len then 2 * z else 2 * z + 1, z, a1, hz, ?_, fun e => ?_, by simp [Nat.add_mul]⟩) rfl) rfl⟩
                · split <;> omega
                · simp only [Bool.and_eq_true, beq_iff_eq] at e
                  rw [if_pos ⟨a4 e.1, e.2⟩]
              · exact absurd a2 hlen
        · simp at he
    · simp at he
  · rename_i ex el l
    split at he
    · rename_i el' z b p q hu hb
      split at he
      · simp at he
      · rename_i hh
        have hh : el' = el := Decidable.not_not.1 hh
        subst hh
        obtain ⟨hu, hz, _⟩ := slT_ok hu
        obtain ⟨b1, b2⟩ := bounds hb
        have hrc := RV_one hx rfl rfl
        have hlen : ((l.drop p).take (q - p)).length = q - p := by simp; omega
        cases hrc with
        | slnil =>
          have e1 : p = 0 := by simpa using Nat.le_trans b1 b2
          have e2 : q = 0 := by simpa using b2
          subst e1
          subst e2
          split at he
          · simp at he; subst he
            have hb' : aBounds 0 lo hi = some (0, 0) := hb
            exact ⟨.slice none 0 0, by simp [aSlice, hu, hz, hb'], RV.single .slnil rfl⟩
          · simp at he
          · simp at he
        | @sl _ _ _ id off c z' cs hid hr hz' hc hxx hs hel =>
          rw [hz] at hz'
          simp at hz'
          subst hz'
          have main : ∀ (ex' : Bool) (c' : Nat), c' / 2 = z → (ex' = true → c' = 2 * z) → RV P (cfg G st s) (.sl ex' el' ((l.drop p).take (q - p))) (.slice (some ⟨id, off + p * z, none⟩) (q - p) c') := fun ex' c' h1 h2 => by
            have hle : p * z + (q - p) * z ≤ l.length * z := by rw [← Nat.add_mul]; exact Nat.mul_le_mul_right _ (by omega)
            have := RC.sl (P := P) (K := cfg G st s) (ex := ex') (el := el') (l := (l.drop p).take (q - p)) (off := off + p * z) (c := c') hid (by rw [hlen]; exact some_sub hr hle) hz h1 h2 (solidL_of fun v hv => solidL_mem hs _ (List.mem_of_mem_drop (List.mem_of_mem_take hv))) (fun i tv hi => by
              have hi' : i < q - p := by have := (List.getElem?_eq_some_iff.1 hi).1; omega
              rw [dt_get, if_pos hi'] at hi
              have := hel _ _ hi
              rw [dt_dt _ _ _ _ _ (by rw [← Nat.succ_mul]; exact Nat.mul_le_mul_right _ hi'), ← Nat.add_mul]
              exact this)
            rw [hlen] at this
            exact RV.single this rfl
          split at he
          · simp at he; subst he
            refine ⟨_, by simp only [aSlice, hu, hz, hb]; rw [if_neg (by omega)], main _ _ (by split <;> omega) (fun e => ?_)⟩
            simp only [Bool.and_eq_true, beq_iff_eq] at e
            rw [if_pos ⟨hxx e.1, e.2⟩]
          · split at he
            · rename_i hm
              simp at he; subst he
              refine ⟨_, by simp only [aSlice, hu, hz, hb]; rw [if_neg (by omega)]; rw [if_pos ⟨hm.1, hm.2.1⟩], main _ _ (by omega) (fun _ => rfl)⟩
            · simp at he
          · simp at he
    · simp at he
  · simp at he
end Go.Tm
end

section
/- The tree machine's operations are the evaluator's: what makes and turns. -/
set_option linter.unusedVariables false
set_option linter.unusedSimpArgs false
namespace Go.Tm
open Go.Eng

def OpOK (P : Program) (G : Gh) (st : Stk) (s : St) (r : Option (Value × St)) (out : Option TV) (st' : Stk) (w : Nat) : Prop :=
  ∃ v s' G', r = some (v, s') ∧ Rel P G' st' s' ∧ Grow G st s G' st' s' w ∧ ∀ tv, out = some tv → RV P (cfg G' st' s') tv v
theorem OpOK.quiet {P : Program} {G : Gh} {st : Stk} {s : St} (h : Rel P G st s) {r : Option Value} {x : Option TV} {out : Option TV} {st' : Stk} {w : Nat} (hq : Tm.quiet st x = some (out, st', w)) (hx : ∀ tv, x = some tv → ∃ v, r = some v ∧ RV P (cfg G st s) tv v) : OpOK P G st s (r.map (·, s)) out st' w := by
  unfold Tm.quiet at hq
  split at hq
  · rename_i tv
    simp at hq
    obtain ⟨rfl, rfl, rfl⟩ := hq
    obtain ⟨v, rfl, hv⟩ := hx tv rfl
    exact ⟨v, s, G, rfl, h, Grow.refl _ _ _ _, fun tv' e => by simp at e; subst e; exact hv⟩
  · simp at hq

theorem byteTV_ok {P : Program} {K : Cfg} (l : List UInt8) (i : Nat) (tv : TV) (h : (l.map byteTV)[i]? = some tv) : RC P K tv ((((l.map bcell)).drop (i * 1)).take 1) := by
  rw [List.getElem?_map, Option.map_eq_some_iff] at h
  obtain ⟨b, hb, rfl⟩ := h
  have hi := (List.getElem?_eq_some_iff.1 hb)
  obtain ⟨hi, rfl⟩ := hi
  have : ((l.map bcell).drop (i * 1)).take 1 = [bcell l[i]] := by
    rw [Nat.mul_one, List.drop_eq_getElem_cons (by simpa using hi)]
    simp
  rw [this]
  exact .at rfl
theorem solid_bytes (l : List UInt8) : solidL (l.map byteTV) = true := solidL_of fun v hv => by
  obtain ⟨b, _, rfl⟩ := List.mem_map.1 hv
  rfl
theorem bytesOfTV_ok {P : Program} {K : Cfg} : ∀ {l : List TV} {z : Nat} {cs : List Value} {bs : List UInt8}, bytesOfTV l = some bs → z = 1 → cs.length = l.length * z → (∀ (i : Nat) tv, l[i]? = some tv → RC P K tv ((cs.drop (i * z)).take z)) → bytesOfCells cs = some bs
  | [], z, cs, bs, h, hz, hl, hc => by
    simp [bytesOfTV] at h; subst h
    have : cs = [] := List.eq_nil_of_length_eq_zero (by simpa using hl)
    subst this
    rfl
  | v :: l, z, cs, bs, h, hz, hl, hc => by
    subst hz
    have h0 := hc 0 v rfl
    unfold bytesOfTV at h
    split at h
    · rename_i heq; simp at heq
    · rename_i n r heq
      simp only [List.cons.injEq] at heq
      obtain ⟨rfl, rfl⟩ := heq
      simp only [Option.map_eq_some_iff] at h
      obtain ⟨bs', hb, rfl⟩ := h
      cases cs with
      | nil => simp at hl
      | cons c cs =>
        simp at h0
        cases h0
        have := bytesOfTV_ok (cs := cs) hb rfl (by simpa using hl) (fun i tv hi => by
          have := hc (i + 1) tv (by simpa using hi)
          simpa using this)
        simp [bytesOfCells, this]
    · simp at h

theorem tConvert_ok {P : Program} {G : Gh} {st : Stk} {s : St} (h : Rel P G st s) {src dst : TypeId} {x : TV} {a : Value} {out : Option TV} {st' : Stk} {w : Nat} (hx : RV P (cfg G st s) x a) (hq : quiet st (tConvert P st src dst x) = some (out, st', w)) :
    OpOK P G st s (aConvert P s src dst a) out st' w := by
  have fin : ∀ tv v, tConvert P st src dst x = some tv → aConvert P s src dst a = some (v, s) → RV P (cfg G st s) tv v → OpOK P G st s (aConvert P s src dst a) out st' w := fun tv v h1 h2 h3 => by
    rw [h1] at hq
    simp [quiet] at hq
    obtain ⟨rfl, rfl, rfl⟩ := hq
    exact ⟨v, s, G, h2, h, Grow.refl _ _ _ _, fun tv' e => by simp at e; subst e; exact h3⟩
  cases hc : tConvert P st src dst x with
  | none => rw [hc] at hq; simp [quiet] at hq
  | some tv =>
    have hc0 := hc
    unfold tConvert at hc
    split at hc
    · rename_i hk3
      split at hc
      · rename_i el z b hsl
        split at hc
        · rename_i l hel
          split at hc
          · rename_i hh
            obtain ⟨h1, h2⟩ := hh
            simp only [Option.map_eq_some_iff] at hc
            obtain ⟨bs, hbs, rfl⟩ := hc
            obtain ⟨hu, hz, _, zero, hze, hz0, _, hzc⟩ := slT_ok hsl
            have hxx : isTup x = false ∧ aggy x = false := by cases x <;> first | exact ⟨rfl, rfl⟩ | simp [elems] at hel
            have hrc := RV_one hx hxx.1 hxx.2
            obtain ⟨hs, a', n, cp, rfl, hn, hcase⟩ := elems_ok h hel hrc
            have hue := intT_ok h1
            have hud := kind1 h2
            rcases hcase with ⟨rfl, hn0, rfl⟩ | ⟨id, off, z', cs, rfl, hz', hcp, hsome, hcs⟩
            · have : l = [] := List.eq_nil_of_length_eq_zero (by omega)
              subst this
              simp [bytesOfTV] at hbs
              subst hbs
              exact fin _ _ hc0 (by simp [aConvert, hu, hud, hue]; rfl) (.at rfl)
            · rw [hz] at hz'
              simp at hz'
              subst hz'
              have hlen := some_len hsome
              by_cases hl0 : l = []
              · subst hl0
                simp at hn
                subst hn
                simp [bytesOfTV] at hbs
                subst hbs
                have : cs = [] := List.eq_nil_of_length_eq_zero (by simpa using hlen)
                subst this
                have hs0 : s.some? id off 0 = some [] := by simpa using hsome
                exact fin _ _ hc0 (by simp [aConvert, hu, hud, hue, hs0, bytesOfCells]) (.at rfl)
              · have hz1 : z = 1 := by
                  cases l with
                  | nil => exact absurd rfl hl0
                  | cons v l =>
                    have h0 := hcs 0 v rfl
                    have : (∃ n, v = .at (.int .u8 n)) := by
                      unfold bytesOfTV at hbs
                      split at hbs
                      · rename_i heq; simp at heq
                      · rename_i n r heq; simp only [List.cons.injEq] at heq; exact ⟨n, heq.1⟩
                      · simp at hbs
                    obtain ⟨nn, rfl⟩ := this
                    generalize hg : (cs.drop (0 * z)).take z = g at h0
                    have hgl : g.length = z := by rw [← hg]; exact dt_length (by rw [hlen, hn]; simp [Nat.succ_mul])
                    cases h0
                    simpa using hgl.symm
                subst hz1
                have := bytesOfTV_ok hbs rfl (by rw [hlen, hn]) hcs
                rw [Nat.mul_one] at hsome
                exact fin _ _ hc0 (by simp [aConvert, hu, hud, hue, hsome, this]) (.at rfl)
          · simp at hc
        · simp at hc
      · simp at hc
    · rename_i hk3
      split at hc
      · rename_i k n
        obtain ⟨rfl, _⟩ := RV_at hx
        split at hc
        · rename_i k' hk'
          split at hc
          · rename_i hsrc
            simp at hc; subst hc
            have hud := intT_ok hk'
            obtain ⟨d, hd⟩ : ∃ d, P.underlying src = some d := by
              unfold kindT at hsrc
              cases hu : P.underlying src with
              | none => simp [hu] at hsrc
              | some d => exact ⟨d, rfl⟩
            exact fin _ _ hc0 (by simp [aConvert, hd, hud]) (.at rfl)
          · simp at hc
        · simp at hc
      · rename_i bb
        obtain ⟨rfl, _⟩ := RV_at hx
        split at hc
        · rename_i hh
          simp at hc; subst hc
          exact fin _ _ hc0 (by simp [aConvert, kind1 hh.1, kind1 hh.2]) (.at rfl)
        · split at hc
          · rename_i el b hsl
            split at hc
            · rename_i hh
              simp at hc; subst hc
              obtain ⟨hu, hz, _⟩ := slT_ok hsl
              obtain ⟨hr, hg⟩ := h.newFrozen (cellsOfBytes bb)
              rw [hc0] at hq
              simp [quiet] at hq
              obtain ⟨rfl, rfl, rfl⟩ := hq
              refine ⟨.slice (some ⟨s.next, 0, none⟩) bb.size 3, _, _, by simp [aConvert, kind1 hh.1, hu, intT_ok hh.2], hr, hg, fun tv e => ?_⟩
              simp at e; subst e
              refine RV.single ?_ rfl
              have hlen : (bb.data.toList.map byteTV).length = bb.size := by rw [List.length_map, Array.length_toList]; rfl
              have := RC.sl (P := P) (K := cfg (G.freeze s.next) st (s.new (.cells (cellsOfBytes bb) true))) (ex := false) (el := el) (l := bb.data.toList.map byteTV) (id := s.next) (off := 0) (c := 3) (z := 1) (cs := cellsOfBytes bb) (.inl rfl) (by
                rw [Nat.mul_one, hlen]; exact some_new _ rfl (by simp [cellsOfBytes])) hz rfl (fun e => by simp at e) (solid_bytes _) (fun i tv hi => by rw [cellsOf_map]; exact byteTV_ok _ i tv hi)
              rw [hlen] at this
              exact this
            · simp at hc
          · simp at hc
      · simp at hc

theorem tLen_ok {P : Program} {G : Gh} {st : Stk} {s : St} (h : Rel P G st s) {t : TypeId} {x tv : TV} {a : Value} (hx : RV P (cfg G st s) x a) (he : tLen P st t x = some tv) : ∃ v, aLen P s t a = some v ∧ RV P (cfg G st s) tv v := by
  unfold tLen at he
  split at he
  · split at he
    · rename_i hk
      simp at he; subst he
      obtain ⟨e, hu⟩ := kind3 hk
      have hrc := RV_one hx rfl rfl
      cases hrc with
      | slnil => exact ⟨_, by simp [aLen, hu], .at rfl⟩
      | sl => exact ⟨_, by simp [aLen, hu], .at rfl⟩
    · simp at he
  · split at he
    · rename_i hk
      simp at he; subst he
      obtain ⟨e, hu⟩ := kind3 hk.1
      have hrc := RV_one hx rfl rfl
      cases hrc with
      | ref hv hle href hc =>
        rcases href (live_ok hk.2 hv) with ⟨id, c, z', a1, a2, a3, a4, rfl⟩ | ⟨_, a2, _, a4⟩
        · exact ⟨_, by simp [aLen, hu], .at rfl⟩
        · subst a2
          rcases a4 with rfl | ⟨id, o, z, rfl, _⟩
          · exact ⟨_, by simp [aLen, hu], .at rfl⟩
          · exact ⟨_, by simp [aLen, hu], .at rfl⟩
    · simp at he
  · split at he
    · rename_i hk
      simp at he; subst he
      obtain ⟨e, hu⟩ := kind3 hk
      obtain ⟨rfl, _⟩ := RV_at hx
      exact ⟨_, by simp [aLen, hu], .at rfl⟩
    · simp at he
  · split at he
    · rename_i hk
      simp at he; subst he
      obtain ⟨rfl, _⟩ := RV_at hx
      exact ⟨_, by simp [aLen, kind1 hk], .at rfl⟩
    · simp at he
  · split at he
    · rename_i hu
      simp at he; subst he
      obtain ⟨hu, _⟩ := arT_ok hu
      exact ⟨_, by simp [aLen, hu], .at rfl⟩
    · simp at he
  · simp at he

theorem tMinGo_ok {P : Program} {K : Cfg} (op : Bool) : ∀ {l : List TV} {x tv : TV} {a : Value} {as : List Value}, RV P K x a → RVL P K l as → tMin.go op x l = some tv →
    ∃ v, (if op then aMin.go a as else aMax.go a as) = some v ∧ RV P K tv v
  | [], x, tv, a, as, hx, hl, he => by
    have : as = [] := List.eq_nil_of_length_eq_zero (by simpa using hl.1.symm)
    subst this
    simp [tMin.go] at he
    subst he
    exact ⟨a, by cases op <;> rfl, hx⟩
  | y :: l, x, tv, a, as, hx, hl, he => by
    obtain ⟨b, bs, rfl, hb, hbs⟩ := hl.inv
    unfold tMin.go at he
    split at he
    · rename_i heq; simp at heq
    · rename_i k n k' m r heq
      simp only [List.cons.injEq] at heq
      obtain ⟨rfl, rfl⟩ := heq
      obtain ⟨rfl, _⟩ := RV_at hx
      obtain ⟨rfl, _⟩ := RV_at hb
      obtain ⟨v, hv, hr⟩ := tMinGo_ok op (.at (v := .int k (if (if op then m < n else m > n) then m else n)) rfl) hbs he
      refine ⟨v, ?_, hr⟩
      cases op <;> simpa [aMin.go, aMax.go] using hv
    · simp at he
theorem tMin_ok {P : Program} {K : Cfg} (op : Bool) {l : List TV} {tv : TV} {as : List Value} (hl : RVL P K l as) (he : tMin op l = some tv) : ∃ v, (if op then aMin as else aMax as) = some v ∧ RV P K tv v := by
  cases l with
  | nil => simp [tMin] at he
  | cons x l =>
    obtain ⟨b, bs, rfl, hb, hbs⟩ := hl.inv
    obtain ⟨v, hv, hr⟩ := tMinGo_ok op hb hbs he
    exact ⟨v, by cases op <;> simpa [aMin, aMax] using hv, hr⟩

/-! ### making -/
theorem alloc_ok {P : Program} {G : Gh} {st : Stk} {s : St} (h : Rel P G st s) (hs : st.length ≠ 0) {v : TV} {a : Value} (hv : RV1 P (cfg G st s) v a) (hver : vers v = 0) :
    ∃ G', Rel P G' (push st ⟨v, false⟩) (s.new (.cells a.cells.toList true)) ∧ Grow G st s G' (push st ⟨v, false⟩) (s.new (.cells a.cells.toList true)) st.length ∧ RV P (cfg G' (push st ⟨v, false⟩) (s.new (.cells a.cells.toList true))) (.ptr (st.length - 1) (topLen st) 0 []) (.pointer (some ⟨s.next, 0, none⟩)) := by
  obtain ⟨hr, hg⟩ := h.newBox hs hv.1
  exact ⟨_, hr, hg, RV.single (.ptr (n := 0) (by show vsOf _ _ _ = _; rw [vs_of (look_push_self hs _), hver]) (Nat.le_refl _) (fun _ => ⟨s.next, 0, Gh.with_self _ _ _ _, rfl, rfl⟩) rfl) rfl⟩

theorem RV1.len {P : Program} {K : Cfg} {t : TypeId} {tv : TV} {v : Value} {z : Nat} (h : RV1 P K tv v) (hf : fits P t tv = true) (hz : sizeT P t = some z) : v.cells.size = z := by
  have := (h.1.fits_len hf).1
  rw [hz] at this
  simp at this
  exact this.symm

theorem notup {P : Program} {t : TypeId} {tv : TV} (h : fits P t tv = true) : isTup tv = false := by cases tv <;> first | rfl | simp [fits] at h
theorem buildL_ok {P : Program} {K : Cfg} {t : TypeId} {fs : Array Field} (hu : P.underlying t = some (.struct fs)) : ∀ {ps : List (Nat × TV)} {vs : List (Nat × Value)} {z r : List TV} {zc : List Value}, PRL P K ps vs → RC P K (.agg t z) zc → (∀ i ft u, ftypeT P t i = some ft → z[i]? = some u → ∀ ocs, RC P K u ocs → sizeT P ft = some ocs.length) →
    buildL P t z ps = some r → ∃ rc, fillL (fieldPlaces P fs) zc vs = some rc ∧ RC P K (.agg t r) rc
  | [], vs, z, r, zc, hp, hz, hzz, he => by
    have : vs = [] := by
      have := hp.1
      cases vs with
      | nil => rfl
      | cons _ _ => simp at this
    subst this
    simp [buildL] at he
    subst he
    exact ⟨zc, rfl, hz⟩
  | (i, v) :: ps, vs, z, r, zc, hp, hz, hzz, he => by
    obtain ⟨h1, h2⟩ := hp
    cases vs with
    | nil => simp at h1
    | cons w vs =>
      obtain ⟨j, b⟩ := w
      simp only [List.map_cons, List.cons.injEq] at h1
      obtain ⟨rfl, h1⟩ := h1
      obtain ⟨b', bs', e, hb, hbs⟩ := RVL.inv (by simpa using h2)
      simp at e
      obtain ⟨rfl, rfl⟩ := e
      simp only [buildL] at he
      split at he
      · rename_i ft hft
        split at he
        · rename_i hh
          obtain ⟨hfit, hi⟩ := hh
          have hft' := hft
          unfold ftypeT at hft
          rw [hu] at hft
          simp only [Option.map_eq_some_iff] at hft
          obtain ⟨f, hf, rfl⟩ := hft
          have hb1 := hb.to (notup hfit)
          have hfl := hb1.1.fits_len hfit
          have hgz : getP (.agg t z) [.fld t i] = some z[i] := by simp [getP, hi]
          have hsz : setP (.agg t z) [.fld t i] v = some (.agg t (z.set i v)) := by simp [setP, hi]
          have hpo : poff P [.fld t i] = some f.offset := by simp [poff, hu, hf]
          obtain ⟨hle, hrc⟩ := hz.set hgz hpo hb1.1 (fun ocs ho => by
            have := hzz i f.type z[i] hft' (by simp [hi]) ocs ho
            rw [hfl.1] at this
            simpa using this.symm) (fun e => by simp [hasIdx] at e) hsz
          obtain ⟨rc, hr1, hr2⟩ := buildL_ok hu ⟨h1, hbs⟩ hrc (fun k ft u hk hu' ocs ho => by
            rw [List.getElem?_set] at hu'
            split at hu'
            · rename_i e
              subst e
              simp at hu'; subst hu'
              rw [hft'] at hk
              simp at hk
              subst hk
              rw [ho.len_unique hb1.1]
              exact hfl.1
            · exact hzz k ft u hk hu' ocs ho) he
          refine ⟨rc, ?_, hr2⟩
          unfold fillL
          have hpl : fieldPlaces P fs i = some (f.offset, b.cells.toList.length) := by simp only [fieldPlaces, hf, hfl.1]; rfl
          rw [hpl]
          simp only
          rw [if_neg]
          · exact hr1
          · have hle' : f.offset + b.cells.size ≤ zc.length := by simpa using hle
            simp
            omega
        · simp at he
      · simp at he
theorem buildA_ok {P : Program} {K : Cfg} {el : TypeId} {z0 : Nat} (hz0 : sizeT P el = some z0) : ∀ {ps : List (Nat × TV)} {vs : List (Nat × Value)} {z r : List TV} {zc : List Value}, PRL P K ps vs → RC P K (.arr el z) zc →
    buildA P el z ps = some r → ∃ rc, fillL (fun i => some (i * z0, z0)) zc vs = some rc ∧ RC P K (.arr el r) rc ∧ r.length = z.length
  | [], vs, z, r, zc, hp, hz, he => by
    have : vs = [] := by
      have := hp.1
      cases vs with
      | nil => rfl
      | cons _ _ => simp at this
    subst this
    simp [buildA] at he
    subst he
    exact ⟨zc, rfl, hz, rfl⟩
  | (i, v) :: ps, vs, z, r, zc, hp, hz, he => by
    obtain ⟨h1, h2⟩ := hp
    cases vs with
    | nil => simp at h1
    | cons w vs =>
      obtain ⟨j, b⟩ := w
      simp only [List.map_cons, List.cons.injEq] at h1
      obtain ⟨rfl, h1⟩ := h1
      obtain ⟨b', bs', e, hb, hbs⟩ := RVL.inv (by simpa using h2)
      simp at e
      obtain ⟨rfl, rfl⟩ := e
      simp only [buildA] at he
      split at he
      · rename_i hh
        obtain ⟨hfit, hsol, hi⟩ := hh
        have hb1 := hb.to (notup hfit)
        have hfl := hb1.1.fits_len hfit
        have hgz : getP (.arr el z) [.idx el i] = some z[i] := by simp [getP, hi]
        have hsz : setP (.arr el z) [.idx el i] v = some (.arr el (z.set i v)) := by simp [setP, hi]
        have hpo : poff P [.idx el i] = some (i * z0) := by simp [poff, hz0]
        obtain ⟨hle, hrc⟩ := hz.set hgz hpo hb1.1 (fun ocs ho => by
          have hbl : b.cells.toList.length = z0 := by have := hb1.len hfit hz0; simpa using this
          rw [hbl]
          cases hz with
          | arr hzz hl _ hel =>
            rw [hz0] at hzz
            simp at hzz
            subst hzz
            rw [ho.len_unique (hel i z[i] (by simp [hi])), dt_length (by rw [hl]; rw [← Nat.succ_mul]; exact Nat.mul_le_mul_right _ hi)]) (fun _ => hsol) hsz
        obtain ⟨rc, hr1, hr2, hr3⟩ := buildA_ok hz0 ⟨h1, hbs⟩ hrc he
        refine ⟨rc, ?_, hr2, by simpa using hr3⟩
        unfold fillL
        have hsize : b.cells.size = z0 := hb1.len hfit hz0
        simp only
        rw [if_neg]
        · exact hr1
        · have hle' : i * z0 + b.cells.size ≤ zc.length := by simpa using hle
          omega
      · simp at he

theorem repl_ok {P : Program} {K : Cfg} {el : TypeId} {z : Nat} {zero : TV} {zv : Value} (hz : sizeT P el = some z) (hzv : RV1 P K zero zv) (hfit : fits P el zero = true) (hs : solid zero = true) (n : Nat) : RC P K (.arr el (List.replicate n zero)) (repCells zv.cells.toList n) ∧ RC P K (.row el (List.replicate n zero)) (repCells zv.cells.toList n) := by
  have hl : zv.cells.toList.length = z := by have := hzv.len hfit hz; simpa using this
  have hlen : (repCells zv.cells.toList n).length = n * z := by
    unfold repCells
    rw [List.length_flatten, List.map_replicate, List.sum_replicate_nat, hl]
  have hsol : solidL (List.replicate n zero) = true := solidL_of fun v hv => by rw [(List.mem_replicate.1 hv).2]; exact hs
  have hel : ∀ (i : Nat) tv, (List.replicate n zero)[i]? = some tv → RC P K tv (((repCells zv.cells.toList n).drop (i * z)).take z) := by
    intro i tv hi
    have hin : i < n := by have := (List.getElem?_eq_some_iff.1 hi).1; simpa using this
    rw [List.getElem?_replicate, if_pos hin] at hi
    simp at hi
    subst hi
    have : ((repCells zv.cells.toList n).drop (i * z)).take z = zv.cells.toList := by
      unfold repCells
      clear hlen hsol
      induction n generalizing i with
      | zero => omega
      | succ n ih =>
        rw [List.replicate_succ, List.flatten_cons]
        cases i with
        | zero => simp [← hl]
        | succ i =>
          rw [Nat.succ_mul, Nat.add_comm, ← List.drop_drop, ← hl, List.drop_left, hl]
          exact ih i (by omega)
    rw [this]
    exact hzv.1
  exact ⟨.arr hz (by simpa using hlen) hsol hel, .row hz (by simpa using hlen) hsol hel⟩
end Go.Tm
end

section
/- The tree machine's operations are the evaluator's: append. -/
set_option linter.unusedVariables false
set_option linter.unusedSimpArgs false
namespace Go.Tm
open Go.Eng

theorem upd_same {st : Stk} {l k : Nat} {b : Box} (h : look st l k = some b) : upd st l k b = st := by
  induction st with
  | nil => rfl
  | cons F S ih =>
    unfold look at h
    unfold upd
    split at h
    · rename_i e
      rw [if_pos e]
      congr 1
      apply List.ext_getElem?
      intro i
      rw [List.getElem?_set]
      split
      · rename_i e'; subst e'
        split
        · exact h.symm
        · rename_i h'; rw [List.getElem?_eq_none (by omega)] at h; simp at h
      · rfl
    · rename_i e
      rw [if_neg e, ih h]

structure Adds (P : Program) (K : Cfg) (el : TypeId) (z : Nat) (m : List TV) (b : Value) (new : List Value) : Prop where
  len : lenIn b = some m.length
  cells : Eng.cellsIn K.s z m.length b = some new
  nlen : new.length = m.length * z
  rc : ∀ (i : Nat) tv, m[i]? = some tv → RC P K tv ((new.drop (i * z)).take z)
theorem addends_ok {P : Program} {G : Gh} {st : Stk} {s : St} (h : Rel P G st s) {el : TypeId} {z : Nat} (hz : sizeT P el = some z) {y : TV} {b : Value} {m : List TV} (hy : RV P (cfg G st s) y b) (he : addends st P el y = some m) : ∃ new, Adds P (cfg G st s) el z m b new := by
  have main : elems st el y = some m → ∃ new, Adds P (cfg G st s) el z m b new := fun he => by
    have hxx : isTup y = false ∧ aggy y = false := by cases y <;> first | exact ⟨rfl, rfl⟩ | simp [elems] at he
    obtain ⟨hs, a, n, cp, rfl, rfl, hc⟩ := elems_ok h he (RV_one hy hxx.1 hxx.2)
    rcases hc with ⟨rfl, hn0, rfl⟩ | ⟨id, off, z', cs, rfl, hz', hcp, hsome, hcs⟩
    · have : m = [] := List.eq_nil_of_length_eq_zero hn0
      subst this
      exact ⟨[], rfl, rfl, by simp, by simp⟩
    · rw [hz] at hz'
      simp at hz'
      subst hz'
      exact ⟨cs, rfl, hsome, some_len hsome, hcs⟩
  unfold addends at he
  split at he
  · rename_i bb
    split at he
    · rename_i hh
      simp at he; subst he
      obtain ⟨rfl, _⟩ := RV_at hy
      rw [hz] at hh
      have hz1 : z = 1 := by simpa using hh.2
      subst hz1
      have hlen : (bb.data.toList.map byteTV).length = bb.size := by rw [List.length_map, Array.length_toList]; rfl
      refine ⟨cellsOfBytes bb, by rw [hlen]; rfl, ?_, ?_, fun i tv hi => by rw [cellsOf_map]; exact byteTV_ok _ i tv hi⟩
      · simp only [Eng.cellsIn, if_true, hlen]
        rw [List.take_of_length_le]
        simp [cellsOfBytes]
      · rw [hlen, Nat.mul_one]; simp [cellsOfBytes]
    · simp at he
  · exact main he

theorem RC.rowAppend {P : Program} {K : Cfg} {el : TypeId} {z : Nat} {c m : List TV} {old new : List Value} (hz : sizeT P el = some z) (ho : old.length = c.length * z) (hc : ∀ (i : Nat) tv, c[i]? = some tv → RC P K tv ((old.drop (i * z)).take z)) (hs : solidL c = true)
    (hn : new.length = m.length * z) (hm : ∀ (i : Nat) tv, m[i]? = some tv → RC P K tv ((new.drop (i * z)).take z)) (hsm : solidL m = true) : RC P K (.row el (c ++ m)) (old ++ new) := by
  refine .row hz (by simp [ho, hn, Nat.add_mul]) (solidL_of fun v hv => ?_) fun i tv hi => ?_
  · rcases List.mem_append.1 hv with hv | hv
    · exact solidL_mem hs _ hv
    · exact solidL_mem hsm _ hv
  · by_cases hlt : i < c.length
    · rw [List.getElem?_append_left hlt] at hi
      have := hc i tv hi
      have hle := mul_lt z hlt
      rw [List.drop_append_of_le_length (by omega), List.take_append_of_le_length (by simp; omega)]
      exact this
    · rw [List.getElem?_append_right (by omega)] at hi
      have := hm _ tv hi
      have e : i * z = old.length + (i - c.length) * z := by rw [ho, ← Nat.add_mul, Nat.add_sub_cancel' (by omega)]
      rw [e, ← List.drop_drop, List.drop_left]
      exact this

theorem tAppend_ok {P : Program} {G : Gh} {st : Stk} {s : St} (h : Rel P G st s) (hst : st.length ≠ 0) {t t2 : TypeId} {x y : TV} {a b : Value} {v : TV} {st' : Stk} {w : Nat} (hx : RV P (cfg G st s) x a) (hy : RV P (cfg G st s) y b) (he : tAppend P st t t2 x y = some (v, st', w)) :
    OpOK P G st s (aAppend P s t t2 a b) (some v) st' w := by
  unfold tAppend at he
  split at he
  · simp at he
  · rename_i hk2
    simp only [not_or] at hk2
    obtain ⟨d2, hd2, hni⟩ : ∃ d2, P.underlying t2 = some d2 ∧ ∀ k, d2 ≠ .int k := by
      cases hu : P.underlying t2 with
      | none => simp [kindT, hu] at hk2
      | some d =>
        refine ⟨d, rfl, ?_⟩
        rintro k rfl
        simp [kindT, hu] at hk2
    split at he
    · simp at he
    · rename_i el z bb hsl
      obtain ⟨hu, hz, hb, zero, hze, hz0, hb0, hzc⟩ := slT_ok hsl
      split at he
      · simp at he
      · rename_i m hm
        obtain ⟨new, hnew⟩ := addends_ok h hz hy hm
        have hlenIn := hnew.len
        have hcellsIn : Eng.cellsIn s z m.length b = some new := hnew.cells
        split at he
        · simp at he
        · rename_i hsol
          have hsol : solidL m = true := by simpa using hsol
          have rcnew : RC P (cfg G st s) (.row el m) new := by
            have := RC.rowAppend (P := P) (K := cfg G st s) (c := []) (old := []) hz (by simp) (by simp) rfl hnew.nlen hnew.rc hsol
            simpa using this
          have newCells : new.all isCell = true := rcnew.allCell
          -- what the evaluator does with a nil slice
          have onNil : (2 * m.length + 400) * bb ≤ 2 ^ 48 → aAppend P s t t2 (.slice none 0 0) b = if m.length = 0 then some (.slice none 0 0, s) else some (.slice (some ⟨s.next, 0, none⟩) m.length (2 * z + 1), s.new (.cells new true)) := fun hsz => by
            unfold aAppend
            rw [hu, hd2]
            cases d2 <;> first | exact absurd rfl (hni _) | (simp only [hz, hb, hze, hlenIn, hcellsIn, hz0, hb0, hzc, ne_eq, not_true_eq_false, or_self, if_false]; by_cases h0 : m.length = 0; (· simp only [h0, if_true]); simp only [h0, if_false]; exact if_neg (Nat.not_lt.2 hsz))
          have onRow : ∀ {id off n c : Nat} {old : List Value}, (2 * (n + m.length) + 400) * bb ≤ 2 ^ 48 → c / 2 = z → s.some? id off (n * z) = some old → aAppend P s t t2 (.slice (some ⟨id, off, none⟩) n c) b = if m.length = 0 then some (.slice (some ⟨id, off, none⟩) n c, s) else if c = 2 * z then some (.slice (some ⟨s.next, 0, none⟩) (n + m.length) (2 * z + 1), s.new (.cells (old ++ new) true))
              else match s.row id with
              | some (_, true) => some (.slice (some ⟨s.next, 0, none⟩) (n + m.length) (2 * z + 1), (s.put id .dead).new (.cells (old ++ new) true))
              | _ => none := fun {id off n c old} hsz hc2 hold => by
            unfold aAppend
            rw [hu, hd2]
            have e1 : ¬ ((2 * (n + m.length) + 400) * bb > 2 ^ 48 ∨ c / 2 ≠ z) := by omega
            cases d2 <;> first | exact absurd rfl (hni _) | (simp only [hz, hb, hze, hlenIn, hcellsIn, hz0, hb0, hzc, ne_eq, not_true_eq_false, or_self, if_false, hold, e1, newCells, if_true]; cases s.row id with | none => rfl | some p => obtain ⟨q, own⟩ := p; cases own <;> rfl)
          -- a fresh box
          have fresh : ∀ {c : List TV} {cs : List Value}, RC P (cfg G st s) (.row el c) cs → OpOK P G st s (some (.slice (some ⟨s.next, 0, none⟩) c.length (2 * z + 1), s.new (.cells cs true))) (some (.ref (st.length - 1) (topLen st) c.length 0 c.length false el)) (push st ⟨.row el c, false⟩) st.length := fun {c cs} hc => by
            obtain ⟨hr, hg⟩ := h.newBox hst hc
            refine ⟨_, _, _, rfl, hr, hg, fun tv e => ?_⟩
            simp at e; subst e
            exact RV.single (.ref (n := c.length) (by show vsOf _ _ _ = _; rw [vs_of (look_push_self hst _)]; rfl) (Nat.le_refl _) (fun _ => .inl ⟨s.next, 2 * z + 1, z, Gh.with_self _ _ _ _, hz, by omega, fun e => by simp at e, by simp⟩) rfl) rfl
          have empty : ∀ {cell : Value}, m = [] → RefOK P (cfg (G.with (st.length - 1) (topLen st) none) (push st ⟨.row el [], false⟩) s) (st.length - 1) (topLen st) 0 0 false el cell → isCell cell = true →
              OpOK P G st s (some (cell, s)) (some (.ref (st.length - 1) (topLen st) m.length 0 m.length false el)) (push st ⟨.row el m, false⟩) st.length := fun {cell} hm0 hok hcell => by
            subst hm0
            obtain ⟨hr, hg⟩ := h.newEmpty hst el
            refine ⟨_, _, _, rfl, hr, hg, fun tv e => ?_⟩
            simp at e; subst e
            exact RV.single (.ref (n := 0) (by show vsOf _ _ _ = _; rw [vs_of (look_push_self hst _)]; rfl) (Nat.le_refl _) (fun _ => hok) hcell) rfl
          have vs0 : (cfg (G.with (st.length - 1) (topLen st) none) (push st ⟨.row el [], false⟩) s).vs (st.length - 1) (topLen st) = some 0 := by show vsOf _ _ _ = _; rw [vs_of (look_push_self hst _)]; rfl
          split at he
          · -- nil
            split at he
            · simp at he
            · rename_i hsz
              simp at he
              obtain ⟨rfl, rfl, rfl⟩ := he
              obtain ⟨rfl, _⟩ := RV_at hx
              rw [onNil (by omega)]
              split
              · rename_i h0
                have := List.eq_nil_of_length_eq_zero h0
                exact empty this (.inr ⟨rfl, rfl, vs0, .inl rfl⟩) rfl
              · exact fresh rcnew
          · -- an empty list
            split at he
            · simp at he
            · rename_i hsz
              simp only [not_or, Decidable.not_not] at hsz
              obtain ⟨rfl, hsz⟩ := hsz
              simp at he
              obtain ⟨rfl, rfl, rfl⟩ := he
              have hrc := RV_one hx rfl rfl
              cases hrc with
              | slnil =>
                rw [onNil (by omega)]
                split
                · rename_i h0
                  have := List.eq_nil_of_length_eq_zero h0
                  exact empty this (.inr ⟨rfl, rfl, vs0, .inl rfl⟩) rfl
                · exact fresh rcnew
              | @sl _ _ _ id off c z' cs hid hr hz' hc hxx hs hel =>
                rw [hz] at hz'
                simp at hz'
                subst hz'
                have hc2 := hxx rfl
                have hr0 : s.some? id off (0 * z) = some cs := hr
                have hcs : cs = [] := List.eq_nil_of_length_eq_zero (by have := some_len hr0; simpa using this)
                subst hcs
                show OpOK P G st s (aAppend P s t t2 (.slice (some ⟨id, off, none⟩) 0 c) b) _ _ _
                rw [onRow (by rw [Nat.zero_add]; exact Nat.le_of_not_lt hsz) hc hr0]
                split
                · rename_i h0
                  have := List.eq_nil_of_length_eq_zero h0
                  exact empty this (.inr ⟨rfl, rfl, vs0, .inr ⟨id, off, z, by rw [hc2], hz, hid, by rw [Nat.zero_mul] at hr0; exact hr0⟩⟩) rfl
                · rw [Nat.zero_add, List.nil_append]
                  exact fresh rcnew
          · -- a list that isn't empty
            rename_i u l
            split at he
            · simp at he
            · rename_i hsz
              simp only [not_or, Decidable.not_not] at hsz
              obtain ⟨rfl, hsz⟩ := hsz
              split at he
              · rename_i hsure
                simp at he
                obtain ⟨rfl, rfl, rfl⟩ := he
                have hm0 : m.length ≠ 0 := by
                  unfold someSure at hsure
                  split at hsure
                  · simp only [addends, elems] at hm
                    split at hm
                    · simp at hm; subst hm; simp
                    · simp at hm
                  · simp at hsure
                have hrc := RV_one hx rfl rfl
                cases hrc with
                | @sl _ _ _ id off c z' cs hid hr hz' hc hxx hs hel =>
                  rw [hz] at hz'
                  simp at hz'
                  subst hz'
                  have hr0 : s.some? id off ((u :: l).length * z) = some cs := hr
                  rw [onRow (by rw [List.length_cons]; omega) hc hr0, if_neg hm0, if_pos (hxx rfl)]
                  have := fresh (RC.rowAppend hz (some_len hr0) hel hs hnew.nlen hnew.rc hsol)
                  simp only [List.length_append, List.length_cons] at this ⊢
                  exact this
              · simp at he
          · -- a row of one's own
            rename_i l k ver len ex el'
            split at he
            · rename_i bx hbx
              split at he
              · rename_i el'' c hbc
                split at he
                · simp at he
                · rename_i hsz
                  simp only [not_or, Decidable.not_not, Bool.not_eq_true, Nat.not_lt] at hsz
                  obtain ⟨rfl, rfl, hsh, rfl, rfl, hsz⟩ := hsz
                  simp at he
                  obtain ⟨rfl, rfl, rfl⟩ := he
                  have hbx' : bx = ⟨.row el'' c, false⟩ := by cases bx; simp at hbc hsh; simp [hbc, hsh]
                  have hvs : vsOf st l k = some c.length := by rw [vs_of hbx, hbc]; rfl
                  have same : ∀ {cell : Value}, m = [] → RV P (cfg G st s) (.ref l k c.length 0 c.length ex el'') cell → OpOK P G st s (some (cell, s)) (some (.ref l k (c.length + m.length) 0 (c.length + m.length) false el'')) (upd st l k ⟨.row el'' (c ++ m), false⟩) l := fun {cell} hm0 hcell => by
                    subst hm0
                    rw [List.append_nil, ← hbx', upd_same hbx]
                    refine ⟨_, _, G, rfl, h, Grow.refl _ _ _ _, fun tv e => ?_⟩
                    simp at e; subst e
                    have hrc := RV_one hcell rfl rfl
                    cases hrc with
                    | ref hv hle href hc =>
                      refine RV.single (.ref hv hle (fun e => ?_) hc) rfl
                      rcases href e with ⟨id, cc, z', a1, a2, a3, a4, a5⟩ | r
                      · exact .inl ⟨id, cc, z', a1, a2, a3, fun e => by simp at e, a5⟩
                      · exact .inr r
                  have grow : ∀ {s' : St} {cs' : List Value}, RC P (cfg G st s) (.row el'' (c ++ m)) cs' → m.length ≠ 0 → s'.next = s.next + 1 → s'.row s.next = some (cs', true) → (∀ j, j < s.next → G.ρ l k ≠ some j → s'.heap.get j = s.heap.get j) → min s.low (G.N l) ≤ s'.low →
                      OpOK P G st s (some (.slice (some ⟨s.next, 0, none⟩) (c.length + m.length) (2 * z + 1), s')) (some (.ref l k (c.length + m.length) 0 (c.length + m.length) false el'')) (upd st l k ⟨.row el'' (c ++ m), false⟩) l := fun {s' cs'} hrc hm0 h1 h2 h3 h4 => by
                    obtain ⟨hr, hg⟩ := h.regrow hbx hsh hrc (by rw [hbc]; simp [vers]; omega) h1 h2 h3 h4
                    refine ⟨_, _, _, rfl, hr, hg, fun tv e => ?_⟩
                    simp at e; subst e
                    exact RV.single (.ref (n := c.length + m.length) (by show vsOf _ _ _ = _; rw [vs_of (look_upd_self hbx _)]; simp [vers]) (Nat.le_refl _) (fun _ => .inl ⟨s.next, 2 * z + 1, z, Gh.with_self _ _ _ _, hz, by omega, fun e => by simp at e, by simp⟩) rfl) rfl
                  have hrc := RV_one hx rfl rfl
                  have hx0 := hx
                  cases hrc with
                  | ref hv hle href hc =>
                    have hvn : vsOf st l k = some _ := hv
                    rw [hvs] at hvn
                    simp at hvn
                    rcases href hvn with ⟨id, cc, z', a1, a2, a3, a4, rfl⟩ | ⟨_, a2, a3, a4⟩
                    · rw [hz] at a2
                      simp at a2
                      subst a2
                      have a1' : G.ρ l k = some id := a1
                      rcases h.box _ _ _ hbx with ⟨e1, e2, e3⟩ | ⟨id', cs, b1, b2, b3, b4, b5, b6⟩
                      · rw [a1'] at e3; simp at e3
                      · rw [a1'] at b1
                        simp at b1
                        subst b1
                        rw [hbc] at b6
                        cases b6 with
                        | row hz' hl' hs' hel =>
                          rw [hz] at hz'
                          simp at hz'
                          subst hz'
                          have hold : s.some? id (0 * z) (c.length * z) = some cs := by rw [Nat.zero_mul]; exact some_all b2 hl'.symm
                          rw [onRow (by omega) a3 hold]
                          split
                          · rename_i h0
                            exact same (List.eq_nil_of_length_eq_zero h0) hx0
                          · rename_i h0
                            have hrow := RC.rowAppend hz hl' hel hs' hnew.nlen hnew.rc hsol
                            split
                            · exact grow hrow h0 rfl (row_new _ _ _) (fun j hj _ => get_new_old _ _ hj) (by simp only [low_new]; omega)
                            · rw [b2]
                              refine grow hrow h0 rfl (row_new _ _ _) (fun j hj hne => ?_) (by simp only [low_new, low_put]; omega)
                              rw [get_new_old _ _ (by simpa [next_put] using hj), get_put_ne]
                              rintro rfl
                              exact hne a1'
                    · have hc0 : c = [] := List.eq_nil_of_length_eq_zero a2
                      subst hc0
                      rcases a4 with rfl | ⟨id, o, z', rfl, b2, b3, b4⟩
                      · rw [onNil (by simpa using hsz)]
                        split
                        · rename_i h0
                          exact same (List.eq_nil_of_length_eq_zero h0) hx0
                        · rename_i h0
                          have := grow (s' := s.new (.cells new true)) rcnew h0 rfl (row_new _ _ _) (fun j hj _ => get_new_old _ _ hj) (by simp only [low_new]; omega)
                          simpa using this
                      · rw [hz] at b2
                        simp at b2
                        subst b2
                        have hb4 : s.some? id o (0 * z) = some [] := by rw [Nat.zero_mul]; exact b4
                        rw [onRow (by simpa using hsz) (by omega) hb4]
                        split
                        · rename_i h0
                          exact same (List.eq_nil_of_length_eq_zero h0) hx0
                        · rename_i h0
                          rw [if_pos rfl]
                          have := grow (s' := s.new (.cells new true)) rcnew h0 rfl (row_new _ _ _) (fun j hj _ => get_new_old _ _ hj) (by simp only [low_new]; omega)
                          simpa using this
              · simp at he
            · simp at he
          · simp at he
end Go.Tm
end

section
/- The tree machine's operations are the evaluator's: one step. -/
set_option linter.unusedVariables false
set_option linter.unusedSimpArgs false
namespace Go.Tm
open Go.Eng

theorem load_ok {P : Program} {K : Cfg} {t : TypeId} {v : TV} {id off n : Nat} {cs : List Value} (hf : fits P t v = true) (hr : K.s.some? id off n = some cs) (hc : RC P K v cs) : ∃ a, aLoad P K.s t id off = some a ∧ RV P K v a := by
  obtain ⟨h1, h2⟩ := hc.fits_len hf
  have hn := some_len hr
  unfold aLoad
  rw [h2]
  cases ha : aggy v with
  | true =>
    simp only [h1]
    rw [hn, hr]
    exact ⟨_, rfl, RV.aggr hc ha⟩
  | false =>
    obtain ⟨c, rfl, _⟩ := hc.one ha
    obtain ⟨cc, own, hrow, hle, e⟩ := some_row hr
    simp only [hrow]
    have hg : cc[off]? = some c := by
      have e' := congrArg (fun l : List Value => l[0]?) e
      simp only [List.length_singleton] at hn
      subst hn
      simpa [dt_get] using e'.symm
    exact ⟨c, hg, RV.single hc ha⟩

theorem load_box {P : Program} {G : Gh} {st : Stk} {s : St} (h : Rel P G st s) {t : TypeId} {l k ver : Nat} {p : List Pe} {b : Box} {v : TV} {a : Value} (ha : RV P (cfg G st s) (.ptr l k ver p) a) (hb : look st l k = some b) (hver : ver = vers b.c) (hg : getP b.c p = some v) (hf : fits P t v = true) :
    ∃ id off, a = .pointer (some ⟨id, off, none⟩) ∧ G.ρ l k = some id ∧ poff P p = some off ∧ ∃ cs, s.row id = some (cs, true) ∧ RC P (cfg G st s) b.c cs ∧ ∃ r, aLoad P s t id off = some r ∧ RV P (cfg G st s) v r := by
  have hrc := RV_one ha rfl rfl
  cases hrc with
  | ptr hv hle href hc =>
    have hvn : vsOf st l k = some _ := hv
    rw [vs_of hb] at hvn
    simp at hvn
    obtain ⟨id, off, a1, a2, rfl⟩ := href (hver.trans hvn)
    have a1' : G.ρ l k = some id := a1
    rcases h.box _ _ _ hb with ⟨el, e1, e2⟩ | ⟨id', cs, b1, b2, b3, b4, b5, b6⟩
    · rw [a1'] at e2; simp at e2
    · rw [a1'] at b1
      simp at b1
      subst b1
      obtain ⟨off', n, c1, c2, c3⟩ := b6.get hg
      rw [a2] at c1
      simp at c1
      subst c1
      obtain ⟨r, d1, d2⟩ := load_ok (K := cfg G st s) hf (some_of_row b2 c2) c3
      exact ⟨id, off, rfl, a1', a2, cs, b2, b6, r, d1, d2⟩
theorem load_ep {P : Program} {K : Cfg} {t : TypeId} {v : TV} {a : Value} (ha : RV P K (.ep v) a) (hf : fits P t v = true) : ∃ id off r, a = .pointer (some ⟨id, off, none⟩) ∧ aLoad P K.s t id off = some r ∧ RV P K v r := by
  have hrc := RV_one ha rfl rfl
  cases hrc with
  | ep hid hr hs hc =>
    obtain ⟨r, h1, h2⟩ := load_ok hf hr hc
    exact ⟨_, _, r, rfl, h1, h2⟩

theorem store_ok {P : Program} {G : Gh} {st : Stk} {s : St} (h : Rel P G st s) {t : TypeId} {l k ver : Nat} {p : List Pe} {b : Box} {v old c : TV} {a : Value} {x : Value} (ha : RV P (cfg G st s) (.ptr l k ver p) a) (hb : look st l k = some b) (hver : ver = vers b.c) (hsh : b.sh = false) (hg : getP b.c p = some old)
    (ho : fits P t old = true) (hv : RV P (cfg G st s) v x) (hf : fits P t v = true) (hs : hasIdx p = true → solid v = true) (hset : setP b.c p v = some c) :
    ∃ id off s', a = .pointer (some ⟨id, off, none⟩) ∧ aStore P s t id off x = some s' ∧ ∃ G', Rel P G' (upd st l k ⟨c, false⟩) s' ∧ Grow G st s G' (upd st l k ⟨c, false⟩) s' l := by
  obtain ⟨id, off, rfl, hρ, hpo, cs, hrow, hrc, _⟩ := load_box (t := t) h ha hb hver hg ho
  have hv1 := hv.to (notup hf)
  have hfl := hv1.1.fits_len hf
  obtain ⟨hle, hc'⟩ := hrc.set hg hpo hv1.1 (fun ocs hoc => by
    have := (hoc.fits_len ho).1
    rw [hfl.1] at this
    simpa using this.symm) hs hset
  have hvers : vers c = vers b.c := vers_setP hg hset fun e => by
    subst e
    simp [getP] at hg
    subst hg
    rw [fits_vers hf, fits_vers ho]
  obtain ⟨hr, hgr⟩ := h.put hb hsh hρ hc' hvers
  refine ⟨id, off, _, rfl, ?_, G, hr, hgr⟩
  unfold aStore
  rw [hfl.1, hrow]
  simp only
  rw [if_pos]
  exact ⟨by simp, by simpa using hle, hv1.1.allCell⟩

/-- a value, taken as it is -/
theorem snap_ok {P : Program} {G : Gh} {st : Stk} {s : St} (h : Rel P G st s) {v v' : TV} {ks : List (Nat × Nat)} {a : Value} (he : snap st v = some (v', ks)) (ha : RV P (cfg G st s) v a) : ∃ G', Rel P G' (marks st ks) s ∧ Grow G st s G' (marks st ks) s st.length ∧ G'.ρ = G.ρ ∧ solid v' = true ∧ RV P (cfg G' (marks st ks) s) v' a := by
  unfold snap at he
  split at he
  · rename_i hs
    simp at he
    obtain ⟨rfl, rfl⟩ := he
    exact ⟨G, h, Grow.refl _ _ _ _, rfl, hs, ha⟩
  · have hnt : isTup v = false := by cases v <;> first | rfl | simp [snapU] at he
    have ha1 := ha.to hnt
    obtain ⟨m, s1, g1, r1⟩ := snapU_ok h he ha1.1
    obtain ⟨G', hr, hg, hf, hρ⟩ := h.marks m
    exact ⟨G', hr, hg, hρ, s1, .of ⟨r1 _ hg.le rfl hf, by rw [g1]; exact ha1.2⟩⟩
theorem snapL_ok {P : Program} {G : Gh} {st : Stk} {s : St} (h : Rel P G st s) {l l' : List TV} {ks : List (Nat × Nat)} {as : List Value} (he : snapL st l = some (l', ks)) (ha : RVL P (cfg G st s) l as) : ∃ G', Rel P G' (marks st ks) s ∧ Grow G st s G' (marks st ks) s st.length ∧ solidL l' = true ∧ RVL P (cfg G' (marks st ks) s) l' as := by
  unfold snapL at he
  split at he
  · rename_i hs
    simp at he
    obtain ⟨rfl, rfl⟩ := he
    exact ⟨G, h, Grow.refl _ _ _ _, hs, ha⟩
  · have hnt : ∀ {l l' : List TV} {ks : List (Nat × Nat)}, snapUL st l = some (l', ks) → ∀ (i : Nat) v, l[i]? = some v → isTup v = false := by
      intro l
      induction l with
      | nil => intro _ _ _ i v hi; simp at hi
      | cons b l ih =>
        intro l' ks he i v hi
        simp only [snapUL] at he
        split at he
        · rename_i h1 h2
          cases i with
          | zero => simp at hi; subst hi; cases b <;> first | rfl | simp [snapU] at h1
          | succ i => exact ih h2 i v (by simpa using hi)
        · simp at he
    obtain ⟨m, s1, g1, r1⟩ := snapUL_ok h he fun i v hi => by
      have hlt : i < as.length := by rw [← ha.1]; exact (List.getElem?_eq_some_iff.1 hi).1
      exact ⟨_, ((ha.2 i v as[i] hi (by simp [hlt])).to (hnt he i v hi)).1⟩
    obtain ⟨G', hr, hg, hf, hρ⟩ := h.marks m
    refine ⟨G', hr, hg, s1, by rw [g1]; exact ha.1, fun i tv v hi hv => ?_⟩
    have hlt : i < l.length := by rw [← g1]; exact (List.getElem?_eq_some_iff.1 hi).1
    have h0 : l[i]? = some l[i] := by simp [hlt]
    have h1 := (ha.2 i l[i] v h0 hv).to (hnt he i _ h0)
    obtain ⟨h2, h3⟩ := r1 _ hg.le rfl hf i l[i] tv _ h0 hi h1.1
    exact .of ⟨h2, by rw [h3]; exact h1.2⟩

theorem TER.put {P : Program} {K : Cfg} {te : TEnv} {e : Env} (h : TER P K te e) (d : Option Tmp) {v : Option TV} {a : Option Value} (hv : ∀ tv, v = some tv → ∃ b, a = some b ∧ RV P K tv b) : TER P K (match d with | some d => te.set d v | none => te) (put e d a) := by
  cases d with
  | none => exact h
  | some d =>
    refine ⟨by simp [Eng.put, h.len], fun i tv hi => ?_⟩
    simp only [Eng.put]
    rw [List.getElem?_set] at hi
    split at hi
    · rename_i e'
      subst e'
      split at hi
      · rename_i hlt
        simp at hi
        obtain ⟨b, rfl, hb⟩ := hv tv hi
        exact ⟨b, by rw [List.getElem?_set_self (by rw [← h.len]; exact hlt)], hb⟩
      · simp at hi
    · rename_i hne
      obtain ⟨b, hb, hr⟩ := h.at' i tv hi
      exact ⟨b, by rw [List.getElem?_set_ne hne]; exact hb, hr⟩

theorem quiet_ok {P : Program} {G : Gh} {st : Stk} {s : St} (h : Rel P G st s) {x : Option TV} {out : Option TV} {st' : Stk} {w : Nat} {r : Option (Value × St)} (hq : quiet st x = some (out, st', w)) (hx : ∀ tv, x = some tv → ∃ v, r = some (v, s) ∧ RV P (cfg G st s) tv v) : OpOK P G st s r out st' w := by
  unfold quiet at hq
  split at hq
  · rename_i tv
    simp at hq
    obtain ⟨rfl, rfl, rfl⟩ := hq
    obtain ⟨v, rfl, hv⟩ := hx tv rfl
    exact ⟨v, s, G, rfl, h, Grow.refl _ _ _ _, fun tv' e => by simp at e; subst e; exact hv⟩
  · simp at hq

theorem fieldOK_get {P : Program} {t : TypeId} {i : Nat} (h : fieldOK P t i = true) : ∃ fs f z, P.underlying t = some (.struct fs) ∧ fs[i]? = some f ∧ sizeT P f.type = some (z + 1) := by
  unfold fieldOK at h
  split at h
  · rename_i fs hu
    split at h
    · rename_i f hf
      split at h
      · rename_i z hz; exact ⟨fs, f, z, hu, hf, hz⟩
      · simp at h
    · simp at h
  · simp at h
theorem sizedT_ok {P : Program} {t : TypeId} {fs : Array Field} (hu : P.underlying t = some (.struct fs)) (h : sizedT P t = true) : (fs.toList.all fun f => (sizeT P f.type).isSome) = true := by
  unfold sizedT at h
  rw [hu] at h
  exact h
theorem ftypeT_ok {P : Program} {t ft : TypeId} {i : Nat} (h : ftypeT P t i = some ft) : ∃ fs f, P.underlying t = some (.struct fs) ∧ fs[i]? = some f ∧ f.type = ft := by
  unfold ftypeT at h
  split at h
  · rename_i fs hu
    simp only [Option.map_eq_some_iff] at h
    obtain ⟨f, hf, e⟩ := h
    exact ⟨fs, f, hu, hf, e⟩
  · simp at h

theorem RVL.toPRL {P : Program} {K0 K : Cfg} {l : List (Nat × TV)} {vs : List (Nat × Value)} {l' : List TV} (h : PRL P K0 l vs) (hl : RVL P K l' (vs.map (·.2))) : PRL P K ((l.map (·.1)).zip l') vs := by
  have e1 : l'.length = (l.map (·.1)).length := by rw [hl.1, h.1]; simp
  exact ⟨by rw [List.map_fst_zip (by omega)]; exact h.1, by rw [List.map_snd_zip (by omega)]; exact hl⟩
end Go.Tm
end

section
/- The tree machine's operations are the evaluator's: all of them. -/
set_option linter.unusedVariables false
set_option linter.unusedSimpArgs false
set_option maxHeartbeats 1000000
namespace Go.Tm
open Go.Eng

theorem step_ok {P : Program} {G : Gh} {st : Stk} {s : St} (h : Rel P G st s) {te : TEnv} {e : Env} (hE : TER P (cfg G st s) te e) {o : Oper} {out : Option TV} {st' : Stk} {w : Nat} (hs : stepT P st o te = some (out, st', w)) :
    OpOK P G st s (evalOp P noCall o e s) out st' w := by
  unfold stepT stepO at hs
  unfold evalOp
  cases ho : o.op with
  | move x =>
    rw [ho] at hs
    exact quiet_ok h hs fun tv hx => by obtain ⟨v, a, b⟩ := topd_ok hE hx; exact ⟨v, by simp [a], b⟩
  | assign x =>
    rw [ho] at hs
    exact quiet_ok h hs fun tv hx => by obtain ⟨v, a, b⟩ := topd_ok hE hx; exact ⟨v, by simp [a], b⟩
  | pick c a b =>
    rw [ho] at hs
    simp only at hs
    split at hs
    · rename_i hc
      obtain ⟨vc, h1, h2⟩ := topd_ok hE hc
      obtain ⟨rfl, _⟩ := RV_at h2
      exact quiet_ok h hs fun tv hx => by obtain ⟨v, a, b⟩ := topd_ok hE hx; exact ⟨v, by simp [h1, a], b⟩
    · rename_i hc
      obtain ⟨vc, h1, h2⟩ := topd_ok hE hc
      obtain ⟨rfl, _⟩ := RV_at h2
      exact quiet_ok h hs fun tv hx => by obtain ⟨v, a, b⟩ := topd_ok hE hx; exact ⟨v, by simp [h1, a], b⟩
    · simp at hs
  | alloc t =>
    rw [ho] at hs
    simp only at hs
    split at hs
    · rename_i z hz
      split at hs
      · simp at hs
      · rename_i hst
        simp at hs
        obtain ⟨rfl, rfl, rfl⟩ := hs
        obtain ⟨zv, h1, h2, h3, h4⟩ := zeroTV_ok hz
        obtain ⟨G', a, b, c⟩ := alloc_ok h hst (h2 _) (fits_vers h4)
        exact ⟨.pointer (some ⟨s.next, 0, none⟩), s.new (.cells zv.cells.toList true), G', by simp [h1], a, b, fun tv e => by simp at e; subst e; exact c⟩
    · simp at hs
  | box t x =>
    rw [ho] at hs
    simp only at hs
    split at hs
    · rename_i v hv
      split at hs
      · simp at hs
      · rename_i hh
        simp only [not_or, Decidable.not_not, Bool.not_eq_true] at hh
        simp at hs
        obtain ⟨rfl, rfl, rfl⟩ := hs
        obtain ⟨a, h1, h2⟩ := topd_ok hE hv
        obtain ⟨G', x, y, z⟩ := alloc_ok h hh.1 (h2.to hh.2.1) hh.2.2
        exact ⟨.pointer (some ⟨s.next, 0, none⟩), s.new (.cells a.cells.toList true), G', by simp [h1], x, y, fun tv e => by simp at e; subst e; exact z⟩
    · simp at hs
  | build t ps =>
    rw [ho] at hs
    simp only at hs
    split at hs
    · rename_i l t' z hp hz
      split at hs
      · rename_i hh
        obtain ⟨hsz, rfl⟩ := hh
        obtain ⟨vs, h1, h2⟩ := tparts_ok hE hp
        obtain ⟨zv, k1, k2, k3, k4⟩ := zeroTV_ok hz
        have k2' := k2 (cfg G st s)
        obtain ⟨zc, rfl, hrc⟩ := k2'.aggr rfl
        have hu : ∃ fs, P.underlying t' = some (.struct fs) := by cases hrc with | agg ht _ _ _ _ _ => exact ⟨_, ht⟩
        obtain ⟨fs, hu⟩ := hu
        split at hs
        · rename_i r hr
          obtain ⟨rc, m1, m2⟩ := buildL_ok hu h2 hrc (fun i ft u hft hu' ocs hocs => by
            obtain ⟨fs', f, e1, e2, rfl⟩ := ftypeT_ok hft
            rw [hu] at e1
            simp at e1
            subst e1
            cases hrc with
            | @agg _ _ fs2 _ ht _ _ hl hf hc =>
              rw [hu] at ht
              simp at ht
              subst ht
              obtain ⟨zz, z1, z2⟩ := hf i f e2
              have := hocs.len_unique (hc i f u zz e2 hu' z1)
              rw [this, dt_length z2]
              exact z1) hr
          refine quiet_ok h hs fun tv hx => ?_
          simp at hx; subst hx
          refine ⟨.agg rc.toArray, ?_, RV.aggr m2 rfl⟩
          simp only [h1, aBuild, k1, hu, sizedT_ok hu hsz, if_true, Value.cells]
          rw [m1]; rfl
        · simp at hs
      · simp at hs
    · rename_i l el z hp hz
      obtain ⟨vs, h1, h2⟩ := tparts_ok hE hp
      obtain ⟨zv, k1, k2, k3, k4⟩ := zeroTV_ok hz
      have k2' := k2 (cfg G st s)
      obtain ⟨zc, rfl, hrc⟩ := k2'.aggr rfl
      split at hs
      · rename_i n el' z0 har
        split at hs
        · rename_i hel
          subst hel
          obtain ⟨hu, hz0⟩ := arT_ok har
          split at hs
          · rename_i r hr
            obtain ⟨rc, m1, m2, m3⟩ := buildA_ok hz0 h2 hrc hr
            refine quiet_ok h hs fun tv hx => ?_
            simp at hx; subst hx
            refine ⟨.agg rc.toArray, ?_, RV.aggr m2 rfl⟩
            simp only [h1, aBuild, k1, hu, hz0, Value.cells]
            rw [m1]; rfl
          · simp at hs
        · simp at hs
      · simp at hs
    · simp at hs
  | buildSlice t n ps =>
    rw [ho] at hs
    simp only at hs
    split at hs
    · rename_i l el z b hp hsl
      split at hs
      · rename_i zero vs ks hz hsn
        split at hs
        · simp at hs
        · rename_i hh
          simp only [not_or, Decidable.not_not] at hh
          split at hs
          · rename_i r hr
            unfold reps at hr
            simp at hs
            obtain ⟨rfl, rfl, rfl⟩ := hs
            obtain ⟨ws, h1, h2⟩ := tparts_ok hE hp
            obtain ⟨hu, hz0, hb0, zero', hze, q1, q2, q3⟩ := slT_ok hsl
            obtain ⟨zv, k1, k2, k3, k4⟩ := zeroTV_ok hz
            rw [hze] at k1
            simp at k1
            subst k1
            obtain ⟨G1, r1, g1, s1, v1⟩ := snapL_ok h hsn h2.2
            have hrep := (repl_ok hz0 (k2 (cfg G1 (marks st ks) s)) k4 k3 n).1
            obtain ⟨rc, m1, m2, m3⟩ := buildA_ok hz0 (RVL.toPRL h2 v1) hrep hr
            obtain ⟨r2, g2⟩ := r1.newFrozen rc
            have hlen : r.length = n := by simpa using m3
            refine ⟨.slice (some ⟨s.next, 0, none⟩) n (2 * z), _, _, ?_, r2, ?_, fun tv e => ?_⟩
            · simp only [h1, aBuildSlice, hu, hz0, hze]
              rw [if_neg (by omega)]
              rw [m1]
            · have := g1.trans g2 h.N
              rw [g1.len, Nat.min_self] at this
              exact this
            · simp at e; subst e
              have m2' := m2.mono g2.le
              cases m2' with
              | arr hzz hl hsol hel =>
                rw [hz0] at hzz
                simp at hzz
                subst hzz
                have := RC.sl (P := P) (K := cfg (G1.freeze s.next) (marks st ks) (s.new (.cells rc true))) (ex := true) (el := el) (l := r) (id := s.next) (off := 0) (c := 2 * z) (z := z) (cs := rc) (.inl rfl) (some_new _ rfl hl.symm) hz0 (by omega) (fun _ => rfl) hsol hel
                rw [hlen] at this
                exact RV.single this rfl
          · simp at hs
      · simp at hs
    · simp at hs
  | load t a =>
    rw [ho] at hs
    simp only at hs
    split at hs
    · rename_i l k ver p ha
      obtain ⟨v, h1, h2⟩ := topd_ok hE ha
      split at hs
      · rename_i b hb
        split at hs
        · rename_i hver
          split at hs
          · rename_i u hu
            split at hs
            · rename_i hf
              obtain ⟨id, off, rfl, _, _, cs, _, _, r, e1, e2⟩ := load_box h h2 hb hver hu hf
              refine quiet_ok h hs fun tv hx => ?_
              simp at hx; subst hx
              exact ⟨r, by simp [h1, e1], e2⟩
            · simp at hs
          · simp at hs
        · simp at hs
      · simp at hs
    · rename_i u ha
      obtain ⟨v, h1, h2⟩ := topd_ok hE ha
      split at hs
      · rename_i hf
        obtain ⟨id, off, r, rfl, e1, e2⟩ := load_ep h2 hf
        have e1' : aLoad P s t id off = some r := e1
        refine quiet_ok h hs fun tv hx => ?_
        simp at hx; subst hx
        exact ⟨r, by simp [h1, e1'], e2⟩
      · simp at hs
    · simp at hs
  | store t a x =>
    rw [ho] at hs
    simp only at hs
    split at hs
    · rename_i l k ver p v ha hv
      obtain ⟨av, h1, h2⟩ := topd_ok hE ha
      obtain ⟨xv, h3, h4⟩ := topd_ok hE hv
      split at hs
      · rename_i b hb
        split at hs
        · rename_i hh
          obtain ⟨hver, hsh⟩ := hh
          split at hs
          · rename_i old v' ks hg hsn
            split at hs
            · rename_i hc
              obtain ⟨f1, f2, f3, f4⟩ := hc
              split at hs
              · rename_i c hc
                simp at hs
                obtain ⟨rfl, rfl, rfl⟩ := hs
                -- the value, as it is
                have hsnap : ∃ G1, Rel P G1 (marks st ks) s ∧ Grow G st s G1 (marks st ks) s st.length ∧ RV P (cfg G1 (marks st ks) s) v' xv := by
                  split at hsn
                  · obtain ⟨G1, a1, a2, _, _, a3⟩ := snap_ok h hsn h4
                    exact ⟨G1, a1, a2, a3⟩
                  · simp at hsn
                    obtain ⟨rfl, rfl⟩ := hsn
                    exact ⟨G, h, Grow.refl _ _ _ _, h4⟩
                obtain ⟨G1, r1, g1, v1⟩ := hsnap
                have hb1 : look (marks st ks) l k = some b := by
                  have : ∀ (ks : List (Nat × Nat)) (st : Stk), look st l k = some b → (l, k) ∉ ks → look (marks st ks) l k = some b := by
                    intro ks
                    induction ks with
                    | nil => intro st hb _; exact hb
                    | cons q ks ih =>
                      intro st hb hn
                      simp only [marks]
                      refine ih _ ?_ (fun e => hn (by simp [e]))
                      unfold markS
                      split
                      · rw [look_upd_ne _ (fun e => hn (by rw [e.1, e.2]; simp))]; exact hb
                      · exact hb
                  exact this ks st hb (by simpa using f4)
                obtain ⟨id, off, s', rfl, e1, G2, r2, g2⟩ := store_ok r1 (h2.mono g1.le) hb1 hver hsh hg f1 v1 f2 (fun e => f3 (by simp [e])) hc
                have hl : l < st.length := look_lt hb
                refine ⟨undef, s', G2, by simp [h1, h3, e1], r2, ?_, fun tv e => by simp at e⟩
                have := g1.trans g2 h.N
                rw [Nat.min_eq_right (by omega)] at this
                exact this
              · simp at hs
            · simp at hs
          · simp at hs
        · simp at hs
      · simp at hs
    · simp at hs
  | nilCheck x =>
    rw [ho] at hs
    simp only at hs
    split at hs
    · rename_i l k ver p hx
      obtain ⟨v, h1, h2⟩ := topd_ok hE hx
      split at hs
      · rename_i hl
        refine quiet_ok h hs fun tv e => ?_
        simp at e; subst e
        have hrc := RV_one h2 rfl rfl
        cases hrc with
        | ptr hv hle href hc =>
          obtain ⟨id, off, a1, a2, rfl⟩ := href (live_ok hl hv)
          exact ⟨_, by simp [h1], h2⟩
      · simp at hs
    · rename_i u hx
      obtain ⟨v, h1, h2⟩ := topd_ok hE hx
      refine quiet_ok h hs fun tv e => ?_
      simp at e; subst e
      have hrc := RV_one h2 rfl rfl
      cases hrc with
      | ep => exact ⟨_, by simp [h1], h2⟩
    · rename_i f a b hx
      obtain ⟨v, h1, h2⟩ := topd_ok hE hx
      refine quiet_ok h hs fun tv e => ?_
      simp at e; subst e
      have hrc := RV_one h2 rfl rfl
      cases hrc with
      | fn => exact ⟨_, by simp [h1], h2⟩
    · simp at hs
  | binOp op t x y t2 =>
    rw [ho] at hs
    simp only at hs
    split at hs
    · rename_i a b ha hb
      obtain ⟨va, h1, h2⟩ := topd_ok hE ha
      obtain ⟨vb, h3, h4⟩ := topd_ok hE hb
      refine quiet_ok h hs fun tv e => ?_
      obtain ⟨v, e1, e2⟩ := tBin_ok h h2 h4 e
      exact ⟨v, by simp [h1, h3, e1], e2⟩
    · simp at hs
  | unOp op t x =>
    rw [ho] at hs
    simp only at hs
    split at hs
    · rename_i v hx
      obtain ⟨a, h1, h2⟩ := topd_ok hE hx
      obtain ⟨rfl, _⟩ := RV_at h2
      split at hs
      · rename_i u hu
        split at hs
        · rename_i hat
          refine quiet_ok h hs fun tv e => ?_
          simp at e; subst e
          exact ⟨u, by simp [h1, hu], .at hat⟩
        · simp at hs
      · simp at hs
    · simp at hs
  | convert src dst x =>
    rw [ho] at hs
    simp only at hs
    split at hs
    · rename_i v hx
      obtain ⟨a, h1, h2⟩ := topd_ok hE hx
      have := tConvert_ok h h2 hs
      simp only [h1]
      exact this
    · simp at hs
  | makeFunc fn a b =>
    rw [ho] at hs
    cases fn with
    | func f =>
      simp only at hs
      split at hs
      · rename_i x y hx hy
        split at hs
        · rename_i hal
          simp only [Bool.and_eq_true, List.all_eq_true, Bool.not_eq_true'] at hal
          obtain ⟨va, h1, h2⟩ := topds_ok hE hx
          obtain ⟨vb, h3, h4⟩ := topds_ok hE hy
          refine quiet_ok h hs fun tv e => ?_
          simp at e; subst e
          refine ⟨.func (.func f) va.toArray vb.toArray, by simp [h1, h3], RV.single ?_ rfl⟩
          have cellOf : ∀ {l : List TV} {vs : List Value}, (∀ v ∈ l, aggy v = false ∧ isTup v = false) → RVL P (cfg G st s) l vs → (∀ v ∈ vs, isCell v = true) ∧ ∀ (i : Nat) tv v, l[i]? = some tv → vs[i]? = some v → RC P (cfg G st s) tv v.cells.toList := fun {l vs} hl hv => by
            refine ⟨fun v hvm => ?_, fun i tv v a b => ?_⟩
            · obtain ⟨i, hi, rfl⟩ := List.mem_iff_getElem.1 hvm
              have hi' : i < l.length := by rw [hv.1]; exact hi
              have hm := hl l[i] (List.getElem_mem hi')
              exact ((hv.2 i l[i] vs[i] (by simp [hi']) (by simp [hi])).to hm.2).single hm.1 |>.2
            · have hm := hl tv (List.mem_of_getElem? a)
              exact ((hv.2 i tv v a b).to hm.2).1
          obtain ⟨c1, c2⟩ := cellOf (fun v hv => by simpa using hal.1 v hv) h2
          obtain ⟨d1, d2⟩ := cellOf (fun v hv => by simpa using hal.2 v hv) h4
          exact .fn h2.1 h4.1 c1 d1 (fun v hv => (hal.1 v hv).1) (fun v hv => (hal.2 v hv).1) c2 d2
        · simp at hs
      · simp at hs
    | _ => simp at hs
  | makeSlice t l c =>
    rw [ho] at hs
    simp only at hs
    split at hs
    · rename_i n m hn hm
      obtain ⟨vn, h1, h2⟩ := topd_ok hE hn
      obtain ⟨rfl, _⟩ := RV_at h2
      obtain ⟨vm, h3, h4⟩ := topd_ok hE hm
      obtain ⟨rfl, _⟩ := RV_at h4
      split at hs
      · rename_i el z b hsl
        split at hs
        · rename_i zero hz
          split at hs
          · rename_i hh
            obtain ⟨hn0, hnm, hsz, hst⟩ := hh
            simp at hs
            obtain ⟨rfl, rfl, rfl⟩ := hs
            obtain ⟨hu, hz0, hb0, zero', hze, q1, q2, q3⟩ := slT_ok hsl
            obtain ⟨zv, k1, k2, k3, k4⟩ := zeroTV_ok hz
            rw [hze] at k1
            simp at k1
            subst k1
            have hrep := (repl_ok hz0 (k2 (cfg G st s)) k4 k3 n.toNat).2
            obtain ⟨hr, hg⟩ := h.newBox hst hrep
            refine ⟨.slice (some ⟨s.next, 0, none⟩) n.toNat (if n = m then 2 * z else 2 * z + 1), _, _, ?_, hr, hg, fun tv e => ?_⟩
            · simp only [h1, h3, aMakeSlice, hu, hz0, hb0, hze]
              rw [if_neg (by omega), if_pos ⟨hn0, hnm, hsz⟩]
            · simp at e; subst e
              refine RV.single (.ref (n := n.toNat) (by show vsOf _ _ _ = _; rw [vs_of (look_push_self hst _)]; simp [vers]) (Nat.le_refl _) (fun _ => .inl ⟨s.next, if n = m then 2 * z else 2 * z + 1, z, Gh.with_self _ _ _ _, hz0, ?_, fun e => ?_, by simp⟩) rfl) rfl
              · split <;> omega
              · simp at e; rw [if_pos e]
          · simp at hs
        · simp at hs
      · simp at hs
    · simp at hs
  | slice t x lo hi mx =>
    rw [ho] at hs
    simp only at hs
    split at hs
    · rename_i v l hh m hx h1 h2 h3
      obtain ⟨a, e1, e2⟩ := topd_ok hE hx
      refine quiet_ok h hs fun tv e => ?_
      obtain ⟨u, f1, f2⟩ := tSlice_ok h e2 e
      exact ⟨u, by simp [e1, topdO_ok hE h1, topdO_ok hE h2, topdO_ok hE h3, f1], f2⟩
    · simp at hs
  | fieldAddr t x i =>
    rw [ho] at hs
    simp only at hs
    split at hs
    · rename_i hok
      obtain ⟨fs, f, z, hu, hf, hz⟩ := fieldOK_get hok
      split at hs
      · rename_i l k ver p hx
        split at hs
        · rename_i hl
          obtain ⟨v, h1, h2⟩ := topd_ok hE hx
          refine quiet_ok h hs fun tv e => ?_
          simp at e; subst e
          have hrc := RV_one h2 rfl rfl
          cases hrc with
          | ptr hv hle href hc =>
            obtain ⟨id, off, a1, a2, rfl⟩ := href (live_ok hl hv)
            exact ⟨.pointer (some ⟨id, off + f.offset, none⟩), by simp [h1, aFieldAddr, hu, hf, hz], RV.single (.ptr hv hle (fun _ => ⟨id, off + f.offset, a1, poff_append a2 (by simp [poff, hu, hf]), rfl⟩) rfl) rfl⟩
        · simp at hs
      · rename_i t' l hx
        split at hs
        · rename_i ht
          subst ht
          obtain ⟨v, h1, h2⟩ := topd_ok hE hx
          refine quiet_ok h hs fun tv e => ?_
          simp only [Option.map_eq_some_iff] at e
          obtain ⟨u, hu', rfl⟩ := e
          have hrc := RV_one h2 rfl rfl
          cases hrc with
          | @ep _ id off cs hid hr hsol hc =>
            simp only [solid] at hsol
            cases hc with
            | @agg _ _ fs' _ ht htl hsz hl hff hcc =>
              rw [hu] at ht
              simp at ht
              subst ht
              obtain ⟨z', z1, z2⟩ := hff i f hf
              rw [hz] at z1
              simp at z1
              subst z1
              refine ⟨.pointer (some ⟨id, off + f.offset, none⟩), by simp [h1, aFieldAddr, hu, hf, hz], RV.single (.ep hid ?_ (solidL_mem hsol _ (List.mem_of_getElem? hu')) (hcc i f u _ hf hu' hz)) rfl⟩
              rw [dt_length z2]
              exact some_sub hr z2
        · simp at hs
      · simp at hs
    · simp at hs
  | field t x i =>
    rw [ho] at hs
    simp only at hs
    split at hs
    · rename_i t' l hx
      split at hs
      · rename_i ht
        subst ht
        split at hs
        · rename_i u ft hu' hft
          split at hs
          · rename_i hfit
            obtain ⟨v, h1, h2⟩ := topd_ok hE hx
            obtain ⟨fs, f, hu, hf, rfl⟩ := ftypeT_ok hft
            refine quiet_ok h hs fun tv e => ?_
            simp at e; subst e
            obtain ⟨c, rfl, hrc⟩ := (h2.to rfl).aggr rfl
            cases hrc with
            | @agg _ _ fs' _ ht htl hsz hl hff hcc =>
              rw [hu] at ht
              simp at ht
              subst ht
              obtain ⟨z, z1, z2⟩ := hff i f hf
              obtain ⟨r, e1, e2⟩ := aPart_ok z1 hfit (hcc i f u z hf hu' z1) z2
              exact ⟨r, by simp only [h1, aField, hu, hf]; rw [show c.toList.toArray = c by simp] at e1; rw [e1]; rfl, e2⟩
          · simp at hs
        · simp at hs
      · simp at hs
    · simp at hs
  | indexAddr t x i =>
    rw [ho] at hs
    simp only at hs
    split at hs
    · rename_i v k j hx hi
      obtain ⟨a, h1, h2⟩ := topd_ok hE hx
      obtain ⟨b, h3, h4⟩ := topd_ok hE hi
      obtain ⟨rfl, _⟩ := RV_at h4
      refine quiet_ok h hs fun tv e => ?_
      obtain ⟨u, e1, e2⟩ := tIndexAddr_ok (k := k) h h2 e
      exact ⟨u, by simp [h1, h3, e1], e2⟩
    · simp at hs
  | index t x i =>
    rw [ho] at hs
    simp only at hs
    split at hs
    · rename_i v k j hx hi
      obtain ⟨a, h1, h2⟩ := topd_ok hE hx
      obtain ⟨b, h3, h4⟩ := topd_ok hE hi
      obtain ⟨rfl, _⟩ := RV_at h4
      refine quiet_ok h hs fun tv e => ?_
      obtain ⟨u, e1, e2⟩ := tIndex_ok (k := k) h2 e
      exact ⟨u, by simp [h1, h3, e1], e2⟩
    · simp at hs
  | extract x i =>
    rw [ho] at hs
    simp only at hs
    split at hs
    · rename_i l hx
      obtain ⟨a, h1, h2⟩ := topd_ok hE hx
      obtain ⟨vs, rfl, h3, h4⟩ := h2
      refine quiet_ok h hs fun tv e => ?_
      have hlt : i < vs.size := by rw [← h3]; exact (List.getElem?_eq_some_iff.1 e).1
      exact ⟨vs[i], by simp [h1, hlt], .of (h4 i tv vs[i] e (by simp [hlt]))⟩
    · simp at hs
  | call c =>
    rw [ho] at hs
    simp only at hs
    cases hcal : c.callee with
    | value f => rw [hcal] at hs; simp at hs
    | invoke r m => rw [hcal] at hs; simp at hs
    | builtin b =>
      rw [hcal] at hs
      simp only [hcal]
      cases b with
      | len =>
        simp only at hs
        split at hs
        · rename_i t r x r' ht hx
          obtain ⟨as, h1, h2⟩ := topds_ok hE hx
          obtain ⟨a, as', rfl, h3, h4⟩ := h2.inv
          refine quiet_ok h hs fun tv e => ?_
          obtain ⟨u, e1, e2⟩ := tLen_ok h h3 e
          exact ⟨u, by simp [h1, aBuiltin, ht, e1], e2⟩
        · simp at hs
      | append =>
        simp only at hs
        split at hs
        · rename_i t t2 r x y ht hx
          split at hs
          · simp at hs
          · rename_i hst
            split at hs
            · rename_i v st1 w1 happ
              simp at hs
              obtain ⟨rfl, rfl, rfl⟩ := hs
              obtain ⟨as, h1, h2⟩ := topds_ok hE hx
              obtain ⟨a, as', rfl, h3, h4⟩ := h2.inv
              obtain ⟨b, as'', rfl, h5, h6⟩ := h4.inv
              have : as'' = [] := List.eq_nil_of_length_eq_zero (by simpa using h6.1.symm)
              subst this
              have := tAppend_ok h hst h3 h5 happ
              simp only [h1, aBuiltin, ht]
              exact this
            · simp at hs
        · simp at hs
      | min =>
        simp only at hs
        split at hs
        · rename_i l hx
          obtain ⟨as, h1, h2⟩ := topds_ok hE hx
          refine quiet_ok h hs fun tv e => ?_
          obtain ⟨u, e1, e2⟩ := tMin_ok true h2 e
          simp at e1
          exact ⟨u, by simp only [h1, aBuiltin]; rw [e1]; rfl, e2⟩
        · simp at hs
      | max =>
        simp only at hs
        split at hs
        · rename_i l hx
          obtain ⟨as, h1, h2⟩ := topds_ok hE hx
          refine quiet_ok h hs fun tv e => ?_
          obtain ⟨u, e1, e2⟩ := tMin_ok false h2 e
          simp at e1
          exact ⟨u, by simp only [h1, aBuiltin]; rw [e1]; rfl, e2⟩
        · simp at hs
      | _ => simp at hs
  | _ => rw [ho] at hs; simp at hs
end Go.Tm
end

section
/- The tree machine: levels, names of boxes changed; what a call leaves; code as propositions. -/
set_option linter.unusedVariables false
set_option linter.unusedSimpArgs false
namespace Go.Tm
open Go.Eng

/-! ### levels -/
mutual
/-- only boxes below level n are named -/
def levB (n : Nat) : TV → Bool
  | .ref l _ _ _ _ _ _ => decide (l < n)
  | .ptr l _ _ _ => decide (l < n)
  | .agg _ l => levL n l
  | .fn _ a b => levL n a && levL n b
  | .tup l => levL n l
  | _ => true
def levL (n : Nat) : List TV → Bool
  | [] => true
  | v :: r => levB n v && levL n r
end
theorem levL_mem {n : Nat} {l : List TV} (h : levL n l = true) : ∀ v ∈ l, levB n v = true := by
  induction l with
  | nil => simp
  | cons a l ih =>
    simp only [levL, Bool.and_eq_true] at h
    intro v hv
    rcases List.mem_cons.1 hv with rfl | hv
    · exact h.1
    · exact ih h.2 v hv
theorem levL_of {n : Nat} {l : List TV} (h : ∀ v ∈ l, levB n v = true) : levL n l = true := by
  induction l with
  | nil => rfl
  | cons a l ih => simp only [levL, Bool.and_eq_true]; exact ⟨h a (by simp), ih fun v hv => h v (by simp [hv])⟩
mutual
theorem solid_lev (n : Nat) : ∀ {v : TV}, solid v = true → levB n v = true
  | .agg _ l, h => by simp only [solid] at h; simp only [levB]; exact solidL_lev n h
  | .fn _ a b, h => by simp only [solid, Bool.and_eq_true] at h; simp only [levB, Bool.and_eq_true]; exact ⟨solidL_lev n h.1, solidL_lev n h.2⟩
  | .at _, _ => rfl
  | .sl _ _ _, _ => rfl
  | .arr _ _, _ => rfl
  | .ep _, _ => rfl
  | .row _ _, h => by simp [solid] at h
  | .tup _, h => by simp [solid] at h
  | .ref _ _ _ _ _ _ _, h => by simp [solid] at h
  | .ptr _ _ _ _, h => by simp [solid] at h
theorem solidL_lev (n : Nat) : ∀ {l : List TV}, solidL l = true → levL n l = true
  | [], _ => rfl
  | v :: r, h => by simp only [solidL, Bool.and_eq_true] at h; simp only [levL, Bool.and_eq_true]; exact ⟨solid_lev n h.1, solidL_lev n h.2⟩
end
theorem RC.lev {P : Program} {K : Cfg} {n : Nat} (hK : ∀ l k m, K.vs l k = some m → l < n) {tv : TV} {cs : List Value} (h : RC P K tv cs) : levB n tv = true := by
  induction h with
  | ref hv _ _ _ => simp [levB, hK _ _ _ hv]
  | ptr hv _ _ _ => simp [levB, hK _ _ _ hv]
  | agg ht htl hs hl hf hc ih =>
    simp only [levB]
    refine levL_of fun v hv => ?_
    obtain ⟨i, hi, rfl⟩ := List.mem_iff_getElem.1 hv
    have hi' := hi
    rw [hl] at hi'
    obtain ⟨z, hz, _⟩ := hf i _ (Array.getElem?_eq_getElem hi')
    exact ih i _ _ z (Array.getElem?_eq_getElem hi') (List.getElem?_eq_getElem hi) hz
  | fn ha hb hi hj _ _ _ _ ih ih' =>
    simp only [levB, Bool.and_eq_true]
    refine ⟨levL_of fun v hv => ?_, levL_of fun v hv => ?_⟩
    · obtain ⟨i, hi, rfl⟩ := List.mem_iff_getElem.1 hv
      exact ih i _ _ (List.getElem?_eq_getElem hi) (List.getElem?_eq_getElem (by omega))
    · obtain ⟨i, hi, rfl⟩ := List.mem_iff_getElem.1 hv
      exact ih' i _ _ (List.getElem?_eq_getElem hi) (List.getElem?_eq_getElem (by omega))
  | _ => rfl

def StkLev (st : Stk) : Prop := ∀ l k b, look st l k = some b → levB (l + 1) b.c = true

theorem lev_setP {n : Nat} {p : List Pe} : ∀ {c v c' : TV}, levB n c = true → solid v = true → setP c p v = some c' → levB n c' = true := by
  induction p with
  | nil => intro c v c' _ hv h; simp [setP] at h; subst h; exact solid_lev n hv
  | cons x p ih =>
    intro c v c' hc hv h
    cases c <;> cases x <;> simp only [setP] at h <;> first
      | (simp at h; done)
      | (split at h
         · split at h
           · rename_i hu
             simp only [Option.map_eq_some_iff] at h
             obtain ⟨w, hw, rfl⟩ := h
             first
               | rfl
               | (simp only [levB] at hc ⊢
                  refine levL_of fun y hy => ?_
                  rcases List.mem_or_eq_of_mem_set hy with hy | rfl
                  · exact levL_mem hc _ hy
                  · exact ih (levL_mem hc _ (List.mem_of_getElem? hu)) hv hw)
           · simp at h
         · simp at h)

theorem look_marks {ks : List (Nat × Nat)} : ∀ {st : Stk} {l k : Nat} {c : Box}, look (marks st ks) l k = some c → ∃ c', look st l k = some c' ∧ c'.c = c.c := by
  induction ks with
  | nil => intro st l k c h; exact ⟨c, h, rfl⟩
  | cons q ks ih =>
    intro st l k c h
    simp only [marks] at h
    obtain ⟨c', h', e⟩ := ih h
    unfold markS at h'
    split at h'
    · rename_i b hb
      rcases look_upd_cases hb h' with ⟨rfl, rfl, rfl⟩ | ⟨_, h'⟩
      · exact ⟨b, hb, e⟩
      · exact ⟨c', h', e⟩
    · exact ⟨c', h', e⟩
theorem marks_lev {st : Stk} {ks : List (Nat × Nat)} (h : StkLev st) : StkLev (marks st ks) := fun l k b hb => by
  obtain ⟨c, hc, e⟩ := look_marks hb
  rw [← e]; exact h l k c hc
theorem upd_lev {st : Stk} {l k : Nat} {b c : Box} (h : StkLev st) (hb : look st l k = some b) (hc : levB (l + 1) c.c = true) : StkLev (upd st l k c) := fun l' k' d hd => by
  rcases look_upd_cases hb hd with ⟨rfl, rfl, rfl⟩ | ⟨_, hd⟩
  · exact hc
  · exact h _ _ _ hd

/-- the boxes of the top frame name what there is -/
theorem Rel.lev {P : Program} {G : Gh} {st : Stk} {s : St} (h : Rel P G st s) {l k : Nat} {b : Box} (hb : look st l k = some b) : levB st.length b.c = true := by
  rcases h.box _ _ _ hb with ⟨el, e, _⟩ | ⟨id, cs, _, _, _, _, _, hc⟩
  · rw [e]; rfl
  · exact hc.lev fun l k m hv => by
      have : vsOf st l k = some m := hv
      obtain ⟨b, hb, _⟩ := vs_some this
      exact look_lt hb

theorem step_lev {P : Program} {G : Gh} {st : Stk} {s : St} (h : Rel P G st s) {te : TEnv} {o : Oper} {out : Option TV} {st' : Stk} {w : Nat} (hs : stepT P st o te = some (out, st', w)) {G' : Gh} {s' : St} (h' : Rel P G' st' s') (hl : st'.length = st.length) (hL : StkLev st) : StkLev st' := by
  -- what lies on top is told by the relation; below, only solid things are written
  have top : ∀ l k b, l + 1 = st.length → look st' l k = some b → levB (l + 1) b.c = true := fun l k b e hb => by
    have := h'.lev hb
    rwa [hl, ← e] at this
  have quiet' : ∀ {x : Option TV}, quiet st x = some (out, st', w) → StkLev st' := fun {x} hq => by
    unfold quiet at hq
    split at hq
    · simp at hq; obtain ⟨_, rfl, _⟩ := hq; exact hL
    · simp at hq
  have pushed : ∀ {b : Box}, st' = push st b → st.length ≠ 0 → StkLev st' := fun {b} e hst l k c hc => by
    subst e
    rcases look_push_cases hst hc with hc' | ⟨rfl, rfl, rfl⟩
    · exact hL _ _ _ hc'
    · exact top _ _ _ (by omega) hc
  have upded : ∀ {st0 : Stk} {l k : Nat} {b c : Box}, st' = upd st0 l k c → StkLev st0 → st0.length = st.length → look st0 l k = some b → (l + 1 < st.length → levB (l + 1) c.c = true) → StkLev st' := fun {st0 l k b c} e h0 hl0 hb hc l' k' d hd => by
    have hd0 := hd
    rw [e] at hd
    rcases look_upd_cases hb hd with ⟨rfl, rfl, rfl⟩ | ⟨_, hd'⟩
    · by_cases hlt : l' + 1 < st.length
      · exact hc hlt
      · exact top _ _ _ (by have := look_lt hb; omega) hd0
    · exact h0 _ _ _ hd'
  unfold stepT stepO at hs
  split at hs
  · exact quiet' hs
  · exact quiet' hs
  · split at hs
    · exact quiet' hs
    · exact quiet' hs
    · simp at hs
  · split at hs
    · split at hs
      · simp at hs
      · simp at hs; obtain ⟨_, e, _⟩ := hs; exact pushed e.symm (by assumption)
    · simp at hs
  · split at hs
    · split at hs
      · simp at hs
      · rename_i hh; simp at hs; obtain ⟨_, e, _⟩ := hs; exact pushed e.symm (fun e => hh (.inl e))
    · simp at hs
  · split at hs
    · split at hs
      · split at hs
        · exact quiet' hs
        · simp at hs
      · simp at hs
    · split at hs
      · split at hs
        · split at hs
          · exact quiet' hs
          · simp at hs
        · simp at hs
      · simp at hs
    · simp at hs
  · split at hs
    · split at hs
      · split at hs
        · simp at hs
        · split at hs
          · simp at hs; obtain ⟨_, e, _⟩ := hs; rw [← e]; exact marks_lev hL
          · simp at hs
      · simp at hs
    · simp at hs
  · split at hs
    · split at hs
      · split at hs
        · split at hs
          · split at hs
            · exact quiet' hs
            · simp at hs
          · simp at hs
        · simp at hs
      · simp at hs
    · split at hs
      · exact quiet' hs
      · simp at hs
    · simp at hs
  · split at hs
    · rename_i l k ver p v ha hv
      split at hs
      · rename_i b hb
        split at hs
        · split at hs
          · rename_i old v' ks hg hsn
            split at hs
            · rename_i hc
              split at hs
              · rename_i c hset
                simp at hs
                obtain ⟨_, e, _⟩ := hs
                have hb1 : ∃ b1, look (marks st ks) l k = some b1 := by
                  have : ∀ (ks : List (Nat × Nat)) (st : Stk) (b : Box), look st l k = some b → ∃ b1, look (marks st ks) l k = some b1 := by
                    intro ks
                    induction ks with
                    | nil => intro st b hb; exact ⟨b, hb⟩
                    | cons q ks ih =>
                      intro st b hb
                      simp only [marks]
                      obtain ⟨c, hc, _⟩ := mark_other (l := q.1) (k := q.2) hb
                      exact ih _ c hc
                  exact this ks st b hb
                obtain ⟨b1, hb1⟩ := hb1
                have hlen : (marks st ks).length = st.length := by
                  have := hl
                  rw [← e, length_upd] at this
                  exact this
                refine upded e.symm (marks_lev hL) hlen hb1 (fun hlt => ?_)
                have hsol := hc.2.2.1 (by simp [hlt])
                exact lev_setP (hL _ _ _ hb) hsol hset
              · simp at hs
            · simp at hs
          · simp at hs
        · simp at hs
      · simp at hs
    · simp at hs
  · split at hs
    · split at hs
      · exact quiet' hs
      · simp at hs
    · exact quiet' hs
    · exact quiet' hs
    · simp at hs
  · split at hs
    · exact quiet' hs
    · simp at hs
  · split at hs
    · split at hs
      · split at hs
        · exact quiet' hs
        · simp at hs
      · simp at hs
    · simp at hs
  · split at hs
    · exact quiet' hs
    · simp at hs
  · split at hs
    · split at hs
      · exact quiet' hs
      · simp at hs
    · simp at hs
  · split at hs
    · split at hs
      · split at hs
        · split at hs
          · rename_i hh; simp at hs; obtain ⟨_, e, _⟩ := hs; exact pushed e.symm hh.2.2.2
          · simp at hs
        · simp at hs
      · simp at hs
    · simp at hs
  · split at hs
    · exact quiet' hs
    · simp at hs
  · split at hs
    · split at hs
      · split at hs
        · exact quiet' hs
        · simp at hs
      · split at hs
        · exact quiet' hs
        · simp at hs
      · simp at hs
    · simp at hs
  · split at hs
    · split at hs
      · split at hs
        · split at hs
          · exact quiet' hs
          · simp at hs
        · simp at hs
      · simp at hs
    · simp at hs
  · split at hs
    · exact quiet' hs
    · simp at hs
  · split at hs
    · exact quiet' hs
    · simp at hs
  · split at hs
    · exact quiet' hs
    · simp at hs
  · split at hs
    · split at hs
      · exact quiet' hs
      · simp at hs
    · split at hs
      · split at hs
        · simp at hs
        · rename_i hst
          split at hs
          · rename_i v st1 w1 happ
            simp at hs
            obtain ⟨_, rfl, _⟩ := hs
            unfold tAppend at happ
            split at happ
            · simp at happ
            · split at happ
              · simp at happ
              · split at happ
                · simp at happ
                · split at happ
                  · simp at happ
                  · split at happ
                    · split at happ
                      · simp at happ
                      · simp at happ; exact pushed happ.2.1.symm hst
                    · split at happ
                      · simp at happ
                      · simp at happ; exact pushed happ.2.1.symm hst
                    · split at happ
                      · simp at happ
                      · split at happ
                        · simp at happ; exact pushed happ.2.1.symm hst
                        · simp at happ
                    · split at happ
                      · rename_i bx hbx
                        split at happ
                        · split at happ
                          · simp at happ
                          · simp at happ; exact upded happ.2.1.symm hL rfl hbx (fun _ => rfl)
                        · simp at happ
                      · simp at happ
                    · simp at happ
          · simp at hs
      · simp at hs
    · split at hs
      · exact quiet' hs
      · simp at hs
    · split at hs
      · exact quiet' hs
      · simp at hs
    · simp at hs
  · simp at hs
end Go.Tm
end

section
/- The tree machine: boxes change their names; what a call leaves; what is shown of a function. -/
set_option linter.unusedVariables false
set_option linter.unusedSimpArgs false
namespace Go.Tm
open Go.Eng

/-! ### names changed -/
mutual
def renTV (r : Nat → Nat → Option (Nat × Nat)) : TV → Option TV
  | .ref l k ver off len ex el => match r l k with
    | some (l', k') => some (.ref l' k' ver off len ex el)
    | none => none
  | .ptr l k ver p => match r l k with
    | some (l', k') => some (.ptr l' k' ver p)
    | none => none
  | .agg t l => match renTL r l with
    | some l' => some (.agg t l')
    | none => none
  | .fn f a b => match renTL r a, renTL r b with
    | some a', some b' => some (.fn f a' b')
    | _, _ => none
  | .tup l => match renTL r l with
    | some l' => some (.tup l')
    | none => none
  | .at v => some (.at v)
  | .sl ex el l => some (.sl ex el l)
  | .ep v => some (.ep v)
  | .arr el l => some (.arr el l)
  | .row el l => some (.row el l)
def renTL (r : Nat → Nat → Option (Nat × Nat)) : List TV → Option (List TV)
  | [] => some []
  | v :: l => match renTV r v, renTL r l with
    | some a, some b => some (a :: b)
    | _, _ => none
end
theorem renTL_get {r : Nat → Nat → Option (Nat × Nat)} : ∀ {l l' : List TV}, renTL r l = some l' → l'.length = l.length ∧ ∀ (i : Nat) v, l'[i]? = some v → ∃ u, l[i]? = some u ∧ renTV r u = some v
  | [], l', h => by simp [renTL] at h; subst h; exact ⟨rfl, fun i v hi => by simp at hi⟩
  | a :: l, l', h => by
    simp only [renTL] at h
    split at h
    · rename_i b c hb hc
      simp at h; subst h
      obtain ⟨h1, h2⟩ := renTL_get hc
      refine ⟨by simp [h1], fun i v hi => ?_⟩
      cases i with
      | zero => simp at hi; subst hi; exact ⟨a, rfl, hb⟩
      | succ i => exact h2 i v (by simpa using hi)
    · simp at h
theorem ren_solidL {r : Nat → Nat → Option (Nat × Nat)} : ∀ {l : List TV}, (∀ v ∈ l, solid v = true → renTV r v = some v) → solidL l = true → renTL r l = some l
  | [], _, _ => rfl
  | a :: l, h, hs => by
    simp only [solidL, Bool.and_eq_true] at hs
    simp only [renTL, h a (by simp) hs.1, ren_solidL (fun v hv => h v (by simp [hv])) hs.2]
mutual
theorem ren_solid {r : Nat → Nat → Option (Nat × Nat)} : ∀ {v : TV}, solid v = true → renTV r v = some v
  | .agg _ l, h => by simp only [solid] at h; simp only [renTV, ren_solidL' h]
  | .fn _ a b, h => by simp only [solid, Bool.and_eq_true] at h; simp only [renTV, ren_solidL' h.1, ren_solidL' h.2]
  | .at _, _ => rfl
  | .sl _ _ _, _ => rfl
  | .arr _ _, _ => rfl
  | .ep _, _ => rfl
  | .row _ _, h => rfl
  | .tup _, h => by simp [solid] at h
  | .ref _ _ _ _ _ _ _, h => by simp [solid] at h
  | .ptr _ _ _ _, h => by simp [solid] at h
theorem ren_solidL' {r : Nat → Nat → Option (Nat × Nat)} : ∀ {l : List TV}, solidL l = true → renTL r l = some l
  | [], _ => rfl
  | a :: l, hs => by
    simp only [solidL, Bool.and_eq_true] at hs
    simp only [renTL, ren_solid hs.1, ren_solidL' hs.2]
end
theorem ren_aggy {r : Nat → Nat → Option (Nat × Nat)} {v v' : TV} (h : renTV r v = some v') : aggy v' = aggy v ∧ vers v' = vers v ∧ isTup v' = isTup v := by
  cases v <;> simp only [renTV] at h <;> first
    | (simp at h; subst h; exact ⟨rfl, rfl, rfl⟩)
    | (split at h <;> first | (simp at h; done) | (simp at h; subst h; exact ⟨rfl, rfl, rfl⟩))
theorem ren_solid' {r : Nat → Nat → Option (Nat × Nat)} {l l' : List TV} (hs : solidL l = true) (h : renTL r l = some l') : l' = l := by
  rw [ren_solidL' hs] at h
  simpa using h.symm

/-- may one configuration stand for another one, with names changed? -/
structure CRen (r : Nat → Nat → Option (Nat × Nat)) (K K' : Cfg) : Prop where
  fz : ∀ id, K.fz id → K'.fz id ∧ K'.s.heap.get id = K.s.heap.get id
  vs : ∀ l k l' k' n, r l k = some (l', k') → K.vs l k = some n → K'.vs l' k' = some n ∧ K'.ρ l' k' = K.ρ l k
theorem RC.ren {P : Program} {r : Nat → Nat → Option (Nat × Nat)} {K K' : Cfg} (hk : CRen r K K') {tv : TV} {cs : List Value} (h : RC P K tv cs) : ∀ {tv' : TV}, renTV r tv = some tv' → RC P K' tv' cs := by
  have hsol : ∀ {tv : TV} {cs : List Value}, RC P K tv cs → Tm.solid tv = true → RC P K' tv cs := fun h hs => h.solid hk.fz hs
  induction h with
  | «at» h => intro tv' e; simp [renTV] at e; subst e; exact .at h
  | slnil => intro tv' e; simp [renTV] at e; subst e; exact .slnil
  | sl hid hr hz hc hx hs he ih => intro tv' e; simp [renTV] at e; subst e; exact hsol (.sl hid hr hz hc hx hs he) rfl
  | ref hv hle h hc =>
    intro tv' e
    simp only [renTV] at e
    split at e
    · rename_i l' k' hr
      simp at e; subst e
      obtain ⟨a, b⟩ := hk.vs _ _ _ _ _ hr hv
      refine .ref a hle (fun e => ?_) hc
      rcases h e with ⟨id, c, z, a1, a2, a3, a4, a5⟩ | ⟨a1, a2, a3, a4⟩
      · exact .inl ⟨id, c, z, b.trans a1, a2, a3, a4, a5⟩
      · refine .inr ⟨a1, a2, (hk.vs _ _ _ _ _ hr a3).1, ?_⟩
        rcases a4 with a4 | ⟨id, o, z, b1, b2, b3, b4⟩
        · exact .inl a4
        · exact .inr ⟨id, o, z, b1, b2, (hk.fz _ b3).1, (some_congr (hk.fz _ b3).2 _ _).trans b4⟩
    · simp at e
  | ptr hv hle h hc =>
    intro tv' e
    simp only [renTV] at e
    split at e
    · rename_i l' k' hr
      simp at e; subst e
      obtain ⟨a, b⟩ := hk.vs _ _ _ _ _ hr hv
      refine .ptr a hle (fun e => ?_) hc
      obtain ⟨id, off, a1, a2, a3⟩ := h e
      exact ⟨id, off, b.trans a1, a2, a3⟩
    · simp at e
  | ep hid hr hs h ih => intro tv' e; simp [renTV] at e; subst e; exact hsol (.ep hid hr hs h) rfl
  | agg ht htl hs hl hf hc ih =>
    intro tv' e
    simp only [renTV] at e
    split at e
    · rename_i l' hl'
      simp at e; subst e
      obtain ⟨h1, h2⟩ := renTL_get hl'
      refine .agg ht htl hs (by rw [h1, hl]) hf fun i f tv z a b c => ?_
      obtain ⟨u, hu, hru⟩ := h2 i tv b
      exact ih i f u z a hu c hru
    · simp at e
  | arr hz hl hs h ih => intro tv' e; simp [renTV] at e; subst e; exact hsol (.arr hz hl hs h) rfl
  | row hz hl hs h ih => intro tv' e; simp [renTV] at e; subst e; exact .row hz hl hs fun i tv hi => hsol (h i tv hi) (solidL_mem hs _ (List.mem_of_getElem? hi))
  | fn ha hb hi hj na nb _ _ ih ih' =>
    intro tv' e
    simp only [renTV] at e
    split at e
    · rename_i a' b' h1 h2
      simp at e; subst e
      obtain ⟨p1, p2⟩ := renTL_get h1
      obtain ⟨q1, q2⟩ := renTL_get h2
      refine .fn (by rw [p1, ha]) (by rw [q1, hb]) hi hj (fun v hv => ?_) (fun v hv => ?_) (fun i tv v x y => ?_) (fun i tv v x y => ?_)
      · obtain ⟨i, hi, rfl⟩ := List.mem_iff_getElem.1 hv
        obtain ⟨u, hu, hru⟩ := p2 i _ (List.getElem?_eq_getElem hi)
        rw [(ren_aggy hru).1]; exact na u (List.mem_of_getElem? hu)
      · obtain ⟨i, hi, rfl⟩ := List.mem_iff_getElem.1 hv
        obtain ⟨u, hu, hru⟩ := q2 i _ (List.getElem?_eq_getElem hi)
        rw [(ren_aggy hru).1]; exact nb u (List.mem_of_getElem? hu)
      · obtain ⟨u, hu, hru⟩ := p2 i tv x; exact ih i u v hu y hru
      · obtain ⟨u, hu, hru⟩ := q2 i tv x; exact ih' i u v hu y hru
    · simp at e
theorem RV.ren {P : Program} {r : Nat → Nat → Option (Nat × Nat)} {K K' : Cfg} (hk : CRen r K K') {tv tv' : TV} {v : Value} (h : RV P K tv v) (e : renTV r tv = some tv') : RV P K' tv' v := by
  have one : ∀ {tv tv' : TV} {v : Value}, RV1 P K tv v → renTV r tv = some tv' → RV1 P K' tv' v := fun h e => ⟨h.1.ren hk e, by rw [(ren_aggy e).1]; exact h.2⟩
  cases ht : isTup tv with
  | false => exact .of (one (h.to ht) e)
  | true =>
    cases tv <;> simp [isTup] at ht
    rename_i l
    simp only [renTV] at e
    split at e
    · rename_i l' hl'
      simp at e; subst e
      obtain ⟨vs, rfl, h1, h2⟩ := h
      obtain ⟨g1, g2⟩ := renTL_get hl'
      refine ⟨vs, rfl, by rw [g1, h1], fun i t u a b => ?_⟩
      obtain ⟨w, hw, hr⟩ := g2 i t a
      exact one (h2 i w u hw b) hr
    · simp at e
mutual
theorem lev_ren {n : Nat} {r : Nat → Nat → Option (Nat × Nat)} (hr : ∀ l k, l < n → r l k = some (l, k)) : ∀ {v : TV}, levB n v = true → renTV r v = some v
  | .agg _ l, h => by simp only [levB] at h; simp only [renTV, levL_ren hr h]
  | .fn _ a b, h => by simp only [levB, Bool.and_eq_true] at h; simp only [renTV, levL_ren hr h.1, levL_ren hr h.2]
  | .tup l, h => by simp only [levB] at h; simp only [renTV, levL_ren hr h]
  | .ref l k _ _ _ _ _, h => by simp only [levB, decide_eq_true_eq] at h; simp only [renTV, hr l k h]
  | .ptr l k _ _, h => by simp only [levB, decide_eq_true_eq] at h; simp only [renTV, hr l k h]
  | .at _, _ => rfl
  | .sl _ _ _, _ => rfl
  | .arr _ _, _ => rfl
  | .ep _, _ => rfl
  | .row _ _, _ => rfl
theorem levL_ren {n : Nat} {r : Nat → Nat → Option (Nat × Nat)} (hr : ∀ l k, l < n → r l k = some (l, k)) : ∀ {l : List TV}, levL n l = true → renTL r l = some l
  | [], _ => rfl
  | a :: l, h => by
    simp only [levL, Bool.and_eq_true] at h
    simp only [renTL, lev_ren hr h.1, levL_ren hr h.2]
end

/-! ### what a call leaves -/
/-- level n's boxes, told as level m's from the d-th on; below n all is as it was -/
def shiftR (n m d : Nat) (l k : Nat) : Option (Nat × Nat) := if l < n then some (l, k) else if l = n then some (m, d + k) else none
def renBox (r : Nat → Nat → Option (Nat × Nat)) (b : Box) : Option Box := match renTV r b.c with
  | some c => some ⟨c, b.sh⟩
  | none => none
def renBoxes (r : Nat → Nat → Option (Nat × Nat)) : List Box → Option (List Box)
  | [] => some []
  | b :: l => match renBox r b, renBoxes r l with
    | some x, some y => some (x :: y)
    | _, _ => none
/-- the boxes that a call hands over become boxes of the caller -/
def mergeT (st : Stk) (out : TV) (R : List Box) : Option (TV × Stk) :=
  match R with
  | [] => some (out, st)
  | _ => match st with
    | [] => none
    | F :: S => match renTV (shiftR (S.length + 1) S.length F.length) out, renBoxes (shiftR (S.length + 1) S.length F.length) R with
      | some o, some R' => some (o, (F ++ R') :: S)
      | _, _ => none

structure CallOK (P : Program) (G : Gh) (st : Stk) (s : St) (G' : Gh) (R : List Box) (st' : Stk) (s' : St) (lo : Nat) : Prop where
  rel : Rel P G' (R :: st') s'
  lev : StkLev st'
  len : st'.length = st.length
  le : CLe (cfg G st s) (cfg G' (R :: st') s')
  N : ∀ l, l < st.length → G'.N l = G.N l
  next : s.next ≤ s'.next
  keep : ∀ id, id < s.next → (lo < st.length → id < G.N lo) → s'.heap.get id = s.heap.get id
  low : min s.low (if lo < st.length then G.N lo else s.next) ≤ s'.low

def WTF (P : Program) (M : Masks) (g : FuncId) (args : List TV) (st : Stk) (Q : TV → List Box → Stk → Nat → Prop) : Prop :=
  ∀ (G : Gh) (s : St) (vals : List Value), Rel P G st s → StkLev st → RVL P (cfg G st s) args vals → WF P M g vals s fun v s' => ∃ G' out R st' lo, CallOK P G st s G' R st' s' lo ∧ RV P (cfg G' (R :: st') s') out v ∧ Q out R st' lo
theorem WTF.mono {P : Program} {M : Masks} {g : FuncId} {args : List TV} {st : Stk} {Q Q' : TV → List Box → Stk → Nat → Prop} (h : WTF P M g args st Q) (hq : ∀ o R st' lo, Q o R st' lo → Q' o R st' lo) : WTF P M g args st Q' :=
  fun G s vals a b c => (h G s vals a b c).mono fun v s' ⟨G', out, R, st', lo, x, y, z⟩ => ⟨G', out, R, st', lo, x, y, hq _ _ _ _ z⟩

theorem renBoxes_get {r : Nat → Nat → Option (Nat × Nat)} : ∀ {l l' : List Box}, renBoxes r l = some l' → l'.length = l.length ∧ ∀ (i : Nat) b, l'[i]? = some b → ∃ u, l[i]? = some u ∧ renBox r u = some b
  | [], l', h => by simp [renBoxes] at h; subst h; exact ⟨rfl, fun i v hi => by simp at hi⟩
  | a :: l, l', h => by
    simp only [renBoxes] at h
    split at h
    · rename_i b c hb hc
      simp at h; subst h
      obtain ⟨h1, h2⟩ := renBoxes_get hc
      refine ⟨by simp [h1], fun i v hi => ?_⟩
      cases i with
      | zero => simp at hi; subst hi; exact ⟨a, rfl, hb⟩
      | succ i => exact h2 i v (by simpa using hi)
    · simp at h

/-- a whole stack is told with other names -/
theorem Rel.ren {P : Program} {G G' : Gh} {st st' : Stk} {s : St} (h : Rel P G st s) (r : Nat → Nat → Option (Nat × Nat)) (hfz : G'.fz = G.fz)
    (hN : ∀ l l', l ≤ l' → l' < st'.length → G'.N l ≤ G'.N l' ∧ G'.N l' ≤ s.next)
    (hback : ∀ l' k' b', look st' l' k' = some b' → ∃ l k b, look st l k = some b ∧ renBox r b = some b' ∧ r l k = some (l', k') ∧ G'.N l' ≤ G.N l)
    (hρ : ∀ l k l' k' b, r l k = some (l', k') → look st l k = some b → G'.ρ l' k' = G.ρ l k)
    (hfwd : ∀ l k l' k' b, r l k = some (l', k') → look st l k = some b → ∃ b', look st' l' k' = some b' ∧ vers b'.c = vers b.c) : Rel P G' st' s ∧ CRen r (cfg G st s) (cfg G' st' s) := by
  have hc : CRen r (cfg G st s) (cfg G' st' s) := by
    refine ⟨fun id hi => ⟨by show G'.fz id; rw [hfz]; exact hi, rfl⟩, fun l k l' k' n hr hv => ?_⟩
    obtain ⟨b, hb, hbn⟩ := vs_some (show vsOf st l k = some n from hv)
    obtain ⟨b', hb', hv'⟩ := hfwd l k l' k' b hr hb
    exact ⟨by show vsOf st' l' k' = _; rw [vs_of hb', hv', hbn], hρ l k l' k' b hr hb⟩
  refine ⟨⟨fun id hi => h.fz id (by rw [← hfz]; exact hi), fun l' k' b' hb' => ?_, fun l1 k1 l2 k2 b1 b2 id h1 h2 e1 e2 => ?_, hN⟩, hc⟩
  · obtain ⟨l, k, b, hb, hrb, hr, hn⟩ := hback l' k' b' hb'
    unfold renBox at hrb
    split at hrb
    · rename_i c hcc
      simp at hrb; subst hrb
      rcases h.box _ _ _ hb with ⟨el, e1, e2⟩ | ⟨id, cs, a1, a2, a3, a4, a5, a6⟩
      · rw [e1] at hcc
        simp [renTV] at hcc
        subst hcc
        exact .inl ⟨el, rfl, (hρ _ _ _ _ _ hr hb).trans e2⟩
      · exact .inr ⟨id, cs, (hρ _ _ _ _ _ hr hb).trans a1, a2, a3, by omega, by rw [hfz]; exact a5, a6.ren hc hcc⟩
    · simp at hrb
  · obtain ⟨l3, k3, b3, hb3, _, hr3, _⟩ := hback _ _ _ h1
    obtain ⟨l4, k4, b4, hb4, _, hr4, _⟩ := hback _ _ _ h2
    rw [hρ _ _ _ _ _ hr3 hb3] at e1
    rw [hρ _ _ _ _ _ hr4 hb4] at e2
    obtain ⟨rfl, rfl⟩ := h.inj _ _ _ _ _ _ id hb3 hb4 e1 e2
    rw [hr3] at hr4
    simpa using hr4
end Go.Tm
end

section
/- The tree machine: a call's boxes become the caller's; what is returned is kept or taken as it is. -/
set_option linter.unusedVariables false
set_option linter.unusedSimpArgs false
namespace Go.Tm
open Go.Eng

theorem StkLev.ofTop {P : Program} {G : Gh} {st : Stk} {s : St} (h : Rel P G st s) (hl : ∀ l k b, l + 1 < st.length → look st l k = some b → levB (l + 1) b.c = true) : StkLev st := fun l k b hb => by
  by_cases e : l + 1 < st.length
  · exact hl l k b e hb
  · have := look_lt hb
    have := h.lev hb
    rwa [show st.length = l + 1 by omega] at this
theorem look_nil_top (st : Stk) (l k : Nat) : look ([] :: st) l k = look st l k := by
  simp only [look]
  split
  · rename_i e
    cases hb : look st l k with
    | none => simp
    | some b => have := look_lt hb; omega
  · rfl
theorem look_below {F : List Box} {S : Stk} {l k : Nat} (h : l < S.length) : look (F :: S) l k = look S l k := by simp only [look]; rw [if_neg (by omega)]
theorem look_top (F : List Box) (S : Stk) (k : Nat) : look (F :: S) S.length k = F[k]? := by simp [look]
theorem vs_nil_top (st : Stk) : vsOf ([] :: st) = vsOf st := by funext l k; unfold vsOf; rw [look_nil_top]
theorem Rel.popNil {P : Program} {G : Gh} {st : Stk} {s : St} (h : Rel P G ([] :: st) s) : Rel P G st s := by
  refine ⟨h.fz, fun l k b hb => ?_, fun l k l' k' b b' id h1 h2 => h.inj l k l' k' b b' id (by rwa [look_nil_top]) (by rwa [look_nil_top]), fun l l' a b => h.N l l' a (by simp; omega)⟩
  have := h.box l k b (by rwa [look_nil_top])
  unfold BoxOK at this ⊢
  rwa [show cfg G ([] :: st) s = cfg G st s by unfold cfg; rw [vs_nil_top]] at this
theorem cfg_nil_top (G : Gh) (st : Stk) (s : St) : cfg G ([] :: st) s = cfg G st s := by unfold cfg; rw [vs_nil_top]

/-- the boxes that a call hands over -/
theorem merge_ok {P : Program} {G : Gh} {st : Stk} {s : St} {R : List Box} (h : Rel P G (R :: st) s) (hL : StkLev st) {out out' : TV} {st' : Stk} (hm : mergeT st out R = some (out', st')) {v : Value} (hv : RV P (cfg G (R :: st) s) out v) :
    ∃ G', Rel P G' st' s ∧ StkLev st' ∧ RV P (cfg G' st' s) out' v ∧ st'.length = st.length ∧ G'.fz = G.fz ∧ G'.N = G.N ∧ ∀ l k n, l < st.length → vsOf (R :: st) l k = some n → vsOf st' l k = some n ∧ G'.ρ l k = G.ρ l k := by
  unfold mergeT at hm
  split at hm
  · simp at hm
    obtain ⟨rfl, rfl⟩ := hm
    refine ⟨G, h.popNil, hL, by rw [cfg_nil_top] at hv; exact hv, rfl, rfl, rfl, fun l k n _ e => ⟨by rw [vs_nil_top] at e; exact e, rfl⟩⟩
  · split at hm
    · simp at hm
    · rename_i F S
      split at hm
      · rename_i o R' ho hR'
        simp at hm
        obtain ⟨rfl, rfl⟩ := hm
        obtain ⟨hRl, hRg⟩ := renBoxes_get hR'
        let G' : Gh := { G with ρ := fun l k => if l = S.length ∧ F.length ≤ k then G.ρ (S.length + 1) (k - F.length) else G.ρ l k }
        have rid : ∀ l k, l < S.length + 1 → shiftR (S.length + 1) S.length F.length l k = some (l, k) := fun l k hl => by unfold shiftR; rw [if_pos hl]
        have rtop : ∀ k, shiftR (S.length + 1) S.length F.length (S.length + 1) k = some (S.length, F.length + k) := fun k => by unfold shiftR; rw [if_neg (by omega), if_pos rfl]
        have rno : ∀ l k, S.length + 1 < l → shiftR (S.length + 1) S.length F.length l k = none := fun l k hl => by unfold shiftR; rw [if_neg (by omega), if_neg (by omega)]
        have idbox : ∀ {l k : Nat} {b : Box}, look (F :: S) l k = some b → renBox (shiftR (S.length + 1) S.length F.length) b = some b := fun {l k b} hb => by
          have hlt := look_lt hb
          simp at hlt
          have := lev_ren (n := l + 1) (r := shiftR (S.length + 1) S.length F.length) (fun l' k' hl' => rid l' k' (by omega)) (hL l k b hb)
          unfold renBox
          rw [this]
        obtain ⟨hr, hc⟩ := h.ren (G' := G') (st' := (F ++ R') :: S) (shiftR (S.length + 1) S.length F.length) rfl
          (fun l l' a b => h.N l l' a (by simp at b ⊢; omega))
          (fun l' k' b' hb' => by
            have hlt := look_lt hb'
            simp at hlt
            simp only [look] at hb'
            split at hb'
            · rename_i e
              subst e
              by_cases hk : k' < F.length
              · rw [List.getElem?_append_left hk] at hb'
                have hb2 : look (F :: S) S.length k' = some b' := by rw [look_top]; exact hb'
                exact ⟨S.length, k', b', by rw [look_below (by simp)]; exact hb2, idbox hb2, rid _ _ (by omega), Nat.le_refl _⟩
              · rw [List.getElem?_append_right (by omega)] at hb'
                obtain ⟨u, hu, hru⟩ := hRg _ _ hb'
                refine ⟨S.length + 1, k' - F.length, u, ?_, hru, ?_, (h.N S.length (S.length + 1) (by omega) (by simp)).1⟩
                · have := look_top R (F :: S) (k' - F.length)
                  simp at this
                  rw [this]; exact hu
                · rw [rtop]; congr 2; omega
            · rename_i e
              have hlt' := look_lt hb'
              have hb2 : look (F :: S) l' k' = some b' := by rw [look_below hlt']; exact hb'
              exact ⟨l', k', b', by rw [look_below (by simp; omega)]; exact hb2, idbox hb2, rid _ _ (by omega), Nat.le_refl _⟩)
          (fun l k l' k' b e hb => by
            rcases Nat.lt_trichotomy l (S.length + 1) with hl | hl | hl
            · rw [rid l k hl] at e
              simp at e
              obtain ⟨rfl, rfl⟩ := e
              show (if _ then _ else _) = _
              split
              · rename_i hh
                obtain ⟨rfl, hk⟩ := hh
                rw [look_below (by simp), look_top, List.getElem?_eq_none hk] at hb
                simp at hb
              · rfl
            · subst hl
              rw [rtop] at e
              simp at e
              obtain ⟨rfl, rfl⟩ := e
              show (if _ then _ else _) = _
              rw [if_pos ⟨rfl, by omega⟩, Nat.add_sub_cancel_left]
            · rw [rno l k hl] at e; simp at e)
          (fun l k l' k' b e hb => by
            rcases Nat.lt_trichotomy l (S.length + 1) with hl | hl | hl
            · rw [rid l k hl] at e
              simp at e
              obtain ⟨rfl, rfl⟩ := e
              rw [look_below (by simp; omega)] at hb
              refine ⟨b, ?_, rfl⟩
              simp only [look] at hb ⊢
              split at hb
              · rename_i e
                rw [if_pos e]
                have hk := (List.getElem?_eq_some_iff.1 hb).1
                rw [List.getElem?_append_left hk]
                exact hb
              · rename_i e
                rw [if_neg e]
                exact hb
            · subst hl
              rw [rtop] at e
              simp at e
              obtain ⟨rfl, rfl⟩ := e
              have := look_top R (F :: S) k
              simp at this
              rw [this] at hb
              have hk := (List.getElem?_eq_some_iff.1 hb).1
              have hk' : k < R'.length := by rw [hRl]; exact hk
              obtain ⟨u, hu, hru⟩ := hRg k R'[k] (by simp [hk'])
              rw [hb] at hu
              simp at hu
              subst hu
              refine ⟨R'[k], by rw [look_top, List.getElem?_append_right (by omega), Nat.add_sub_cancel_left]; simp [hk'], ?_⟩
              unfold renBox at hru
              split at hru
              · rename_i c hcc
                simp at hru
                rw [← hru]
                exact (ren_aggy hcc).2.1
              · simp at hru
            · rw [rno l k hl] at e; simp at e)
        refine ⟨G', hr, .ofTop hr fun l k b hl hb => ?_, hv.ren hc ho, rfl, rfl, rfl, fun l k n hl hn => ?_⟩
        · simp at hl
          rw [look_below hl] at hb
          exact hL l k b (by rw [look_below hl]; exact hb)
        · simp at hl
          exact hc.vs l k l k n (rid l k hl) hn
      · simp at hm
end Go.Tm
end

section
/- The tree machine: what is returned; code as propositions, and that the evaluator follows. -/
set_option linter.unusedVariables false
set_option linter.unusedSimpArgs false
namespace Go.Tm
open Go.Eng

/-! ### returning -/
def idxIn : List Nat → Nat → Option Nat
  | [], _ => none
  | a :: m, k => if a = k then some 0 else (idxIn m k).map (· + 1)
theorem idxIn_get : ∀ {m : List Nat} {k i : Nat}, idxIn m k = some i → m[i]? = some k
  | [], k, i, h => by simp [idxIn] at h
  | a :: m, k, i, h => by
    simp only [idxIn] at h
    split at h
    · rename_i e; simp at h; subst h; subst e; rfl
    · simp only [Option.map_eq_some_iff] at h
      obtain ⟨j, hj, rfl⟩ := h
      simpa using idxIn_get hj
def noDup : List Nat → Bool
  | [] => true
  | a :: m => !(m.contains a) && noDup m
theorem idxIn_of : ∀ {m : List Nat} {k i : Nat}, noDup m = true → m[i]? = some k → idxIn m k = some i
  | [], k, i, _, h => by simp at h
  | a :: m, k, i, hd, h => by
    simp only [noDup, Bool.and_eq_true, Bool.not_eq_true'] at hd
    cases i with
    | zero => simp at h; simp [idxIn, h]
    | succ i =>
      have h' : m[i]? = some k := by simpa using h
      have hk : k ∈ m := List.mem_of_getElem? h'
      have hne : a ≠ k := by rintro rfl; simp [hk] at hd
      simp [idxIn, hne, idxIn_of hd.2 h']
def keepR (L : Nat) (m : List Nat) (l k : Nat) : Option (Nat × Nat) := if l < L then some (l, k) else if l = L then (match idxIn m k with | some i => some (L, i) | none => none) else none
def pickB (F : List Box) : List Nat → Option (List Box)
  | [] => some []
  | k :: m => match F[k]?, pickB F m with
    | some b, some r => some (b :: r)
    | _, _ => none
theorem pickB_get {F : List Box} : ∀ {m : List Nat} {R : List Box}, pickB F m = some R → R.length = m.length ∧ ∀ (i : Nat) b, R[i]? = some b → ∃ k, m[i]? = some k ∧ F[k]? = some b
  | [], R, h => by simp [pickB] at h; subst h; exact ⟨rfl, fun i b hi => by simp at hi⟩
  | k :: m, R, h => by
    simp only [pickB] at h
    split at h
    · rename_i b r hb hr
      simp at h; subst h
      obtain ⟨h1, h2⟩ := pickB_get hr
      refine ⟨by simp [h1], fun i b' hi => ?_⟩
      cases i with
      | zero => simp at hi; subst hi; exact ⟨k, rfl, hb⟩
      | succ i => simpa using h2 i b' (by simpa using hi)
    · simp at h
def ttup : List TV → TV
  | [v] => v
  | l => .tup l
def keepT (m : List Nat) (st : Stk) (outs : List TV) : Option (TV × List Box × Stk) :=
  match st with
  | [] => none
  | F :: S => match renTL (keepR S.length m) outs, pickB F m with
    | some o, some R0 => match renBoxes (keepR S.length m) R0 with
      | some R => if noDup m = true ∧ outs.all (fun v => !isTup v) = true then some (ttup o, R, S) else none
      | none => none
    | _, _ => none
def retT (m : List Nat) (st : Stk) (raws : List TV) : Option (TV × List Box × Stk) :=
  match m with
  | [] => match snapL st raws with
    | some (outs, ks) => keepT [] (marks st ks) outs
    | none => none
  | _ => keepT m st raws

theorem ttup_ok {P : Program} {K : Cfg} {l : List TV} {vs : List Value} (h : RVL P K l vs) (ht : ∀ v ∈ l, isTup v = false) : RV P K (ttup l) (tupled vs) := by
  have tup : RV P K (.tup l) (.tuple vs.toArray) := ⟨vs.toArray, rfl, by simpa using h.1, fun i t u a b => (h.2 i t u a (by simpa using b)).to (ht t (List.mem_of_getElem? a))⟩
  match l, vs, h with
  | [v], [w], h => exact h.2 0 v w rfl rfl
  | [], [], h => exact tup
  | _ :: _ :: _, _ :: _ :: _, h => exact tup
  | [], _ :: _, h => exact absurd h.1 (by simp)
  | _ :: _, [], h => exact absurd h.1 (by simp)
  | [_], _ :: _ :: _, h => exact absurd h.1 (by simp)
  | _ :: _ :: _, [_], h => exact absurd h.1 (by simp)
theorem renTL_tup {r : Nat → Nat → Option (Nat × Nat)} {l l' : List TV} (h : renTL r l = some l') (ht : ∀ v ∈ l, isTup v = false) : ∀ v ∈ l', isTup v = false := fun v hv => by
  obtain ⟨i, hi, rfl⟩ := List.mem_iff_getElem.1 hv
  obtain ⟨u, hu, hr⟩ := (renTL_get h).2 i _ (List.getElem?_eq_getElem hi)
  rw [(ren_aggy hr).2.2]
  exact ht u (List.mem_of_getElem? hu)

theorem keepT_ok {P : Program} {G : Gh} {st : Stk} {s : St} (h : Rel P G st s) (hL : StkLev st) {m : List Nat} {outs : List TV} {out : TV} {R : List Box} {S' : Stk} {vs : List Value} (he : keepT m st outs = some (out, R, S')) (hv : RVL P (cfg G st s) outs vs) :
    ∃ G', Rel P G' (R :: S') s ∧ StkLev S' ∧ RV P (cfg G' (R :: S') s) out (tupled vs) ∧ G'.fz = G.fz ∧ G'.N = G.N ∧ S'.length + 1 = st.length ∧ ∀ l k n, l + 1 < st.length → vsOf st l k = some n → vsOf (R :: S') l k = some n ∧ G'.ρ l k = G.ρ l k := by
  unfold keepT at he
  split at he
  · simp at he
  · rename_i F S
    split at he
    · rename_i o R0 ho hR0
      split at he
      · rename_i R1 hR1
        split at he
        · rename_i hh
          obtain ⟨hnd, htp⟩ := hh
          simp at he
          obtain ⟨rfl, rfl, rfl⟩ := he
          obtain ⟨p1, p2⟩ := pickB_get hR0
          obtain ⟨q1, q2⟩ := renBoxes_get hR1
          have htp' : ∀ v ∈ outs, isTup v = false := fun v hv => by have := List.all_eq_true.1 htp v hv; simpa using this
          let G' : Gh := { G with ρ := fun l k => if l = S.length then (match m[k]? with | some j => G.ρ l j | none => none) else G.ρ l k }
          have rid : ∀ l k, l < S.length → keepR S.length m l k = some (l, k) := fun l k hl => by unfold keepR; rw [if_pos hl]
          have rtop : ∀ {k l' k'}, keepR S.length m S.length k = some (l', k') → l' = S.length ∧ m[k']? = some k := fun {k l' k'} e => by
            unfold keepR at e
            rw [if_neg (by omega), if_pos rfl] at e
            split at e
            · rename_i i hi
              simp at e
              obtain ⟨rfl, rfl⟩ := e
              exact ⟨rfl, idxIn_get hi⟩
            · simp at e
          have rno : ∀ l k, S.length < l → keepR S.length m l k = none := fun l k hl => by unfold keepR; rw [if_neg (by omega), if_neg (by omega)]
          obtain ⟨hr, hc⟩ := h.ren (G' := G') (st' := R1 :: S) (keepR S.length m) rfl
            (fun l l' a b => h.N l l' a (by simpa using b))
            (fun l' k' b' hb' => by
              have hlt := look_lt hb'
              simp at hlt
              by_cases e : l' = S.length
              · subst e
                rw [look_top] at hb'
                obtain ⟨u, hu, hru⟩ := q2 _ _ hb'
                obtain ⟨k, hk, hkF⟩ := p2 _ _ hu
                refine ⟨S.length, k, u, by rw [look_top]; exact hkF, hru, ?_, Nat.le_refl _⟩
                unfold keepR
                rw [if_neg (by omega), if_pos rfl, idxIn_of hnd hk]
              · have hlt' : l' < S.length := by omega
                rw [look_below hlt'] at hb'
                refine ⟨l', k', b', by rw [look_below hlt']; exact hb', ?_, rid _ _ hlt', Nat.le_refl _⟩
                have := lev_ren (n := l' + 1) (r := keepR S.length m) (fun l k hl => rid l k (by omega)) (hL l' k' b' (by rw [look_below hlt']; exact hb'))
                unfold renBox
                rw [this])
            (fun l k l' k' b e hb => by
              rcases Nat.lt_trichotomy l S.length with hl | hl | hl
              · rw [rid l k hl] at e
                simp at e
                obtain ⟨rfl, rfl⟩ := e
                show (if _ then _ else _) = _
                rw [if_neg (by omega)]
              · subst hl
                obtain ⟨rfl, e2⟩ := rtop e
                show (if _ then _ else _) = _
                rw [if_pos rfl, e2]
              · rw [rno l k hl] at e; simp at e)
            (fun l k l' k' b e hb => by
              rcases Nat.lt_trichotomy l S.length with hl | hl | hl
              · rw [rid l k hl] at e
                simp at e
                obtain ⟨rfl, rfl⟩ := e
                rw [look_below hl] at hb
                exact ⟨b, by rw [look_below hl]; exact hb, rfl⟩
              · subst hl
                obtain ⟨rfl, e2⟩ := rtop e
                rw [look_top] at hb
                have hk' : k' < R1.length := by rw [q1, p1]; exact (List.getElem?_eq_some_iff.1 e2).1
                obtain ⟨u, hu, hru⟩ := q2 k' R1[k'] (by simp [hk'])
                obtain ⟨k2, hk2, hkF⟩ := p2 _ _ hu
                rw [e2] at hk2
                simp at hk2
                subst hk2
                rw [hb] at hkF
                simp at hkF
                subst hkF
                refine ⟨R1[k'], by rw [look_top]; simp [hk'], ?_⟩
                unfold renBox at hru
                split at hru
                · rename_i c hcc
                  simp at hru
                  rw [← hru]
                  exact (ren_aggy hcc).2.1
                · simp at hru
              · rw [rno l k hl] at e; simp at e)
          refine ⟨G', hr, fun l k b hb => hL l k b (by rw [look_below (look_lt hb)]; exact hb), ttup_ok ⟨by rw [(renTL_get ho).1]; exact hv.1, fun i tv v hi hvv => ?_⟩ (renTL_tup ho htp'), rfl, rfl, rfl, fun l k n hl hn => ?_⟩
          · obtain ⟨u, hu, hru⟩ := (renTL_get ho).2 i tv hi
            exact (hv.2 i u v hu hvv).ren hc hru
          · simp at hl
            exact hc.vs l k l k n (rid l k hl) hn
        · simp at he
      · simp at he
    · simp at he
end Go.Tm
end

section
/- The tree machine: code as propositions, and that the evaluator follows. -/
set_option linter.unusedVariables false
set_option linter.unusedSimpArgs false
namespace Go.Tm
open Go.Eng

/-! ### 1. Code as propositions -/
def tput (e : TEnv) (d : Option Tmp) (v : Option TV) : TEnv := match d with
  | some d => e.set d v
  | none => e
def twanted (ops : Array Oper) (o : Oper) (e : TEnv) : Option Bool :=
  match o.guard with
  | none => some true
  | some (j, want) => match (ops[j]?).bind (·.dst) with
    | some t => match (e[t]?).getD none with
      | some (.at (.bool b)) => some (b == want)
      | _ => none
    | none => none
def tcallee (e : TEnv) (o : Oper) : Option (FuncId × List TV) :=
  match o.op with
  | .call c => match c.callee with
    | .value x => match topd e x, topds e c.args.toList with
      | some (.fn g a b), some l => some (g, a ++ l ++ b)
      | _, _ => none
    | _ => none
  | _ => none
def tforget (keep : Nat) (ops : List Oper) (e : TEnv) : TEnv :=
  ops.foldl (fun e o => match o.dst with
    | some d => if keep.testBit d then e else e.set d none
    | none => e) e
def tcondEnv (hold : Nat) (t : Nat) (e : TEnv) : TEnv := if hold.testBit t then e else e.set t none

abbrev TQ := TEnv → Stk → Nat → Prop
/-- behind a call -/
def Back (lo : Nat) (K : TV → Stk → Nat → Prop) : TV → List Box → Stk → Nat → Prop := fun out R st lo' => match mergeT st out R with
  | some (o, st') => K o st' (min lo lo')
  | none => False
def RT (P : Program) (M : Masks) (ops : Array Oper) : List Oper → TEnv → Stk → Nat → TQ → Prop
  | [], e, st, lo, Q => Q e st lo
  | o :: r, e, st, lo, Q => match twanted ops o e with
    | some true => match tcallee e o with
      | some (g, args) => WTF P M g args st (Back lo fun v st' lo' => RT P M ops r (tput e o.dst (some v)) st' lo' Q)
      | none => match stepT P st o e with
        | some (v, st', w) => RT P M ops r (tput e o.dst v) st' (min lo w) Q
        | none => False
    | some false => RT P M ops r (tput e o.dst none) st lo Q
    | none => False
def loudOK (d : List (Nat × Bool)) (b : Array Nat) (i : Nat) (loud : Bool) : Bool := d.all (fun x => !(loud || x.2) || (b.getD i 0).testBit x.1)
/-- behind a call in a region that draws its order -/
def BackD (b : Array Nat) (i : Nat) (d : List (Nat × Bool)) (lo : Nat) (n : Nat) (K : TV → Stk → Nat → Bool → Prop) : TV → List Box → Stk → Nat → Prop := fun out R st lo' => match mergeT st out R with
  | some (o, st') => loudOK d b i (decide (lo' < n)) = true ∧ K o st' (min lo lo') (decide (lo' < n))
  | none => False
def DT (P : Program) (M : Masks) (ops : Array Oper) (b : Array Nat) : List Oper → Nat → List (Nat × Bool) → TEnv → Stk → Nat → TQ → Prop
  | [], _, _, e, st, lo, Q => Q e st lo
  | o :: r, i, d, e, st, lo, Q => match twanted ops o e with
    | some true => match still o.op with
      | true => match stepT P st o e with
        | some (v, st', w) => DT P M ops b r (i + 1) d (tput e o.dst v) st' (min lo w) Q
        | none => False
      | false => match tcallee e o with
        | some (g, args) => WTF P M g args st (BackD b i d lo st.length fun v st' lo' loud => DT P M ops b r (i + 1) ((i, loud) :: d) (tput e o.dst (some v)) st' lo' Q)
        | none => match stepT P st o e with
          | some (v, st', w) => loudOK d b i (decide (w < st.length)) = true ∧ DT P M ops b r (i + 1) ((i, decide (w < st.length)) :: d) (tput e o.dst v) st' (min lo w) Q
          | none => False
    | some false => DT P M ops b r (i + 1) d (tput e o.dst none) st lo Q
    | none => False

/-- what may be forgotten -/
def WK (P : Program) (e : TEnv) (st : Stk) (e' : TEnv) (st' : Stk) : Prop :=
  ∀ (G : Gh) (s : St) (a : Env), Rel P G st s → StkLev st → TER P (cfg G st s) e a → ∃ G', Rel P G' st' s ∧ StkLev st' ∧ TER P (cfg G' st' s) e' a ∧ st'.length = st.length ∧ (∀ id, G.fz id → G'.fz id) ∧ (∀ l, l + 1 ≤ st.length → G'.N l = G.N l) ∧
    ∀ l k n, l + 1 < st.length → vsOf st l k = some n → vsOf st' l k = some n ∧ G'.ρ l k = G.ρ l k

def TThen (N : TQ) (Q : Ex → TQ) : Ex → TQ
  | .normal => N
  | x => Q x
def TBlock (id : Nat) (Q : Ex → TQ) : Ex → TQ
  | .exit i => if i = id then Q .normal else Q (.exit i)
  | x => Q x
def CT (P : Program) (M : Masks) (f : FuncId) : Code → TEnv → Stk → Nat → (Ex → TQ) → Prop
  | .skip, e, st, lo, Q | .label _, e, st, lo, Q => Q .normal e st lo
  | .region _ ops false, e, st, lo, Q => RT P M ops ops.toList e st lo fun e' st' lo' => Q .normal (tforget (M.keep f) ops.toList e') st' lo'
  | .region _ ops true, e, st, lo, Q => DT P M ops (Region.before ops) ops.toList 0 [] e st lo fun e' st' lo' => Q .normal (tforget (M.keep f) ops.toList e') st' lo'
  | .seq a b, e, st, lo, Q => CT P M f a e st lo (TThen (fun e' st' lo' => ∃ e'' st'', WK P e' st' e'' st'' ∧ CT P M f b e'' st'' lo' Q) Q)
  | .cond (.tmp t) a b, e, st, lo, Q => match (e[t]?).getD none with
    | some (.at (.bool true)) => CT P M f a (tcondEnv (M.hold f) t e) st lo Q
    | some (.at (.bool false)) => CT P M f b (tcondEnv (M.hold f) t e) st lo Q
    | _ => False
  | .block id b, e, st, lo, Q => CT P M f b e st lo (TBlock id Q)
  | .loop b, e, st, lo, Q => ∃ I : Nat → TEnv → Stk → Nat → Prop, (∃ d e' st', WK P e st e' st' ∧ I d e' st' lo) ∧ ∀ d e st lo, I d e st lo → CT P M f b e st lo (TThen (fun e' st' lo' => ∃ d' e'' st'', d' < d ∧ WK P e' st' e'' st'' ∧ I d' e'' st'' lo') Q)
  | .exit id, e, st, lo, Q => Q (.exit id) e st lo
  | .ret, e, st, lo, Q => Q .ret e st lo
  | _, _, _, _, _ => False

/-! ### 2. The evaluator follows -/
/-- what has become of the start's state -/
structure Inv (P : Program) (G0 : Gh) (S0 : Stk) (s0 : St) (G : Gh) (st : Stk) (s : St) (lo : Nat) : Prop where
  rel : Rel P G st s
  lev : StkLev st
  len : st.length = S0.length + 1
  fz : ∀ id, G0.fz id → G.fz id ∧ s.heap.get id = s0.heap.get id
  vs : ∀ l k n, vsOf S0 l k = some n → ∃ n', vsOf st l k = some n' ∧ n ≤ n' ∧ (n' = n → G.ρ l k = G0.ρ l k)
  N : ∀ l, l < S0.length → G.N l = G0.N l
  top : G.N S0.length = s0.next
  mono : ∀ l l', l ≤ l' → l' < S0.length → G0.N l ≤ G0.N l' ∧ G0.N l' ≤ s0.next
  next : s0.next ≤ s.next
  keep : ∀ id, id < s0.next → (lo < S0.length → id < G0.N lo) → s.heap.get id = s0.heap.get id
  low : min s0.low (if lo < S0.length then G0.N lo else s0.next) ≤ s.low

theorem Inv.step {P : Program} {G0 : Gh} {S0 : Stk} {s0 : St} {G : Gh} {st : Stk} {s : St} {lo : Nat} (h : Inv P G0 S0 s0 G st s lo) {G' : Gh} {st' : Stk} {s' : St} {w : Nat} (hg : Grow G st s G' st' s' w) (hr : Rel P G' st' s') (hl : StkLev st') : Inv P G0 S0 s0 G' st' s' (min lo w) := by
  have hlen := h.len
  refine ⟨hr, hl, by rw [hg.len, hlen], fun id hi => ⟨(hg.le.fz id (h.fz id hi).1).1, (hg.le.fz id (h.fz id hi).1).2.trans (h.fz id hi).2⟩, fun l k n hn => ?_, fun l hl' => (hg.N l (by omega)).trans (h.N l hl'), (hg.N _ (by omega)).trans h.top, h.mono, Nat.le_trans h.next hg.next, fun id hi hlo => ?_, ?_⟩
  · obtain ⟨n1, a1, a2, a3⟩ := h.vs l k n hn
    obtain ⟨n2, b1, b2, b3⟩ := hg.le.vs l k n1 a1
    exact ⟨n2, b1, by omega, fun e => (b3 (by omega)).trans (a3 (by omega))⟩
  · refine (hg.keep id (by have := h.next; omega) fun hw => ?_).trans (h.keep id hi fun hlo' => ?_)
    · by_cases e : w < S0.length
      · rw [h.N w e]
        have := hlo (by omega)
        by_cases e' : lo ≤ w
        · rw [Nat.min_eq_left e'] at this
          have := (h.mono lo w e' e).1
          omega
        · rwa [Nat.min_eq_right (by omega)] at this
      · rw [show w = S0.length by omega, h.top]
        exact hi
    · have := hlo (by omega)
      by_cases e' : lo ≤ w
      · rwa [Nat.min_eq_left e'] at this
      · rw [Nat.min_eq_right (by omega)] at this
        have := (h.mono w lo (by omega) hlo').1
        omega
  · have h1 := h.low
    have h2 := hg.low
    have hn := h.next
    have hgn := hg.next
    have hw : w < S0.length → G.N w = G0.N w := h.N w
    have key : min s0.low (if w < S0.length then min (if lo < S0.length then G0.N lo else s0.next) (G0.N w) else (if lo < S0.length then G0.N lo else s0.next)) ≤ s'.low := by
      by_cases e : w < S0.length
      · rw [if_pos (by omega), hw e] at h2
        rw [if_pos e]
        omega
      · rw [if_neg e]
        by_cases e2 : w < st.length
        · rw [if_pos e2, show w = S0.length by omega, h.top] at h2
          by_cases e3 : lo < S0.length
          · rw [if_pos e3] at h1 ⊢
            have := (h.mono lo lo (Nat.le_refl _) e3).2
            omega
          · rw [if_neg e3] at h1 ⊢
            omega
        · rw [if_neg e2] at h2
          by_cases e3 : lo < S0.length
          · rw [if_pos e3] at h1 ⊢
            have := (h.mono lo lo (Nat.le_refl _) e3).2
            omega
          · rw [if_neg e3] at h1 ⊢
            omega
    refine Nat.le_trans ?_ key
    by_cases e : w < S0.length
    · rw [if_pos e, if_pos (by omega)]
      by_cases e3 : lo < S0.length
      · rw [if_pos e3]
        by_cases e' : lo ≤ w
        · have e4 : min lo w = lo := by omega
          rw [e4]
          have := (h.mono lo w e' e).1
          omega
        · have e4 : min lo w = w := by omega
          rw [e4]
          have := (h.mono w lo (by omega) e3).1
          omega
      · rw [if_neg e3]
        have e4 : min lo w = w := by omega
        rw [e4]
        have := (h.mono w w (Nat.le_refl _) e).2
        omega
    · rw [if_neg e]
      by_cases e3 : lo < S0.length
      · have e4 : min lo w = lo := by omega
        rw [e4]
        exact Nat.le_refl _
      · rw [if_neg e3, if_neg (by omega)]
        exact Nat.le_refl _

theorem Inv.lo' {P : Program} {G0 : Gh} {S0 : Stk} {s0 : St} {G : Gh} {st : Stk} {s : St} {lo lo' : Nat} (h : Inv P G0 S0 s0 G st s lo) (h1 : lo = lo' ∨ (S0.length ≤ lo ∧ S0.length ≤ lo')) : Inv P G0 S0 s0 G st s lo' := by
  rcases h1 with rfl | ⟨h1, h2⟩
  · exact h
  · refine ⟨h.rel, h.lev, h.len, h.fz, h.vs, h.N, h.top, h.mono, h.next, fun id hi _ => h.keep id hi (fun e => by omega), ?_⟩
    have := h.low
    rw [if_neg (by omega)] at this
    rw [if_neg (by omega)]
    exact this
theorem Grow.ofMark {G : Gh} {st : Stk} {s : St} {G' : Gh} {st' : Stk} {s' : St} {w l l' : Nat} (h : Grow G st (s.mark l) G' st' s' w) (hl' : min s.low (if w < st.length then G.N w else s.next) ≤ l') : Grow G st s G' st' (s'.mark l') w :=
  ⟨h.len, ⟨fun id hi => h.le.fz id hi, fun a b n hn => h.le.vs a b n hn⟩, h.N, h.next, h.keep, hl'⟩
theorem Rel.toMark {P : Program} {G : Gh} {st : Stk} {s : St} (h : Rel P G st s) (l : Nat) : Rel P G st (s.mark l) ∧ CLe (cfg G st s) (cfg G st (s.mark l)) := h.later (Nat.le_refl _) fun _ _ => rfl

theorem call_grow {P : Program} {G : Gh} {st : Stk} {s : St} {G' : Gh} {R : List Box} {st' : Stk} {s' : St} {lo : Nat} (h : CallOK P G st s G' R st' s' lo) {out out' : TV} {st'' : Stk} (hm : mergeT st' out R = some (out', st'')) {v : Value} (hv : RV P (cfg G' (R :: st') s') out v) :
    ∃ G2, Rel P G2 st'' s' ∧ StkLev st'' ∧ RV P (cfg G2 st'' s') out' v ∧ Grow G st s G2 st'' s' lo := by
  obtain ⟨G2, r2, l2, v2, e1, e2, e3, e4⟩ := merge_ok h.rel h.lev hm hv
  have hlen := h.len
  refine ⟨G2, r2, l2, v2, ⟨by rw [e1, h.len], ⟨fun id hi => ⟨by show G2.fz id; rw [e2]; exact (h.le.fz id hi).1, (h.le.fz id hi).2⟩, fun l k n hn => ?_⟩, fun l hl => by rw [e3]; exact h.N l hl, h.next, h.keep, h.low⟩⟩
  obtain ⟨n', a1, a2, a3⟩ := h.le.vs l k n hn
  obtain ⟨b, hb, _⟩ := vs_some (show vsOf st l k = some n from hn)
  have hlt := look_lt hb
  obtain ⟨c1, c2⟩ := e4 l k n' (by omega) a1
  exact ⟨n', c1, a2, fun e => by show G2.ρ l k = _; rw [c2]; exact a3 e⟩

theorem twanted_ok {P : Program} {K : Cfg} {te : TEnv} {e : Env} (h : TER P K te e) {ops : Array Oper} {o : Oper} {b : Bool} (hw : twanted ops o te = some b) : wantedA ops o e = some b := by
  unfold twanted at hw
  unfold wantedA
  split at hw
  · rename_i hg; rw [hg]; exact hw
  · rename_i j want hg
    rw [hg]
    simp only
    split at hw
    · rename_i t ht
      rw [ht]
      simp only
      split at hw
      · rename_i c hc
        obtain ⟨v, h1, h2⟩ := h.at' t _ (getD_none hc)
        obtain ⟨rfl, _⟩ := RV_at h2
        rw [h1]
        exact hw
      · simp at hw
    · simp at hw
theorem tcallee_ok {P : Program} {K : Cfg} {te : TEnv} {e : Env} (h : TER P K te e) {o : Oper} {g : FuncId} {args : List TV} (hc : tcallee te o = some (g, args)) : ∃ vals, calleeOf e o = some (g, vals) ∧ RVL P K args vals := by
  unfold tcallee at hc
  unfold calleeOf
  split at hc
  · rename_i c ho
    rw [ho]
    simp only
    split at hc
    · rename_i x hx
      rw [hx]
      simp only
      split at hc
      · rename_i g' a b l h1 h2
        simp at hc
        obtain ⟨rfl, rfl⟩ := hc
        obtain ⟨v, k1, k2⟩ := topd_ok h h1
        obtain ⟨vs, k3, k4⟩ := topds_ok h h2
        have hrc := RV_one k2 rfl rfl
        cases hrc with
        | @fn _ _ _ xa ya ha hb hi hj na nb hx hy =>
          have side : ∀ {a : List TV} {x : List Value}, a.length = x.length → (∀ v ∈ x, isCell v = true) → (∀ v ∈ a, aggy v = false) → (∀ (i : Nat) tv v, a[i]? = some tv → x[i]? = some v → RC P K tv v.cells.toList) → RVL P K a x := fun h1 h2 h3 h4 => ⟨h1, fun i tv v p q => by
            have hcell := h2 v (List.mem_of_getElem? q)
            have := h4 i tv v p q
            rw [cells_not (isAgg_cell hcell)] at this
            exact RV.single this (h3 tv (List.mem_of_getElem? p))⟩
          refine ⟨_, by rw [k1, k3], ?_⟩
          simpa using ((side ha hi na hx).append (k4.append (side hb hj nb hy)))
      · simp at hc
    · simp at hc
  · simp at hc
theorem stepT_nocall {P : Program} {st : Stk} {te : TEnv} {o : Oper} {r : Option TV × Stk × Nat} (h : stepT P st o te = some r) (e : Env) : calleeOf e o = none := by
  unfold calleeOf
  split
  · rename_i c ho
    split
    · rename_i x hx
      unfold stepT stepO at h
      rw [ho] at h
      simp only [hx] at h
      simp at h
    · rfl
  · rfl
theorem TER.put' {P : Program} {K : Cfg} {te : TEnv} {e : Env} (h : TER P K te e) (d : Option Tmp) {v : Option TV} {a : Option Value} (hv : ∀ tv, v = some tv → ∃ b, a = some b ∧ RV P K tv b) : TER P K (tput te d v) (Eng.put e d a) := h.put d hv
theorem TER.forget {P : Program} {K : Cfg} (keep : Nat) : ∀ (ops : List Oper) {te : TEnv} {e : Env}, TER P K te e → TER P K (tforget keep ops te) (Eng.forget keep ops e)
  | [], te, e, h => h
  | o :: ops, te, e, h => by
    unfold tforget Eng.forget
    simp only [List.foldl_cons]
    refine TER.forget keep ops ?_
    cases hd : o.dst with
    | none => exact h
    | some d =>
      simp only
      split
      · exact h
      · exact h.put (some d) (v := none) (a := none) (fun tv e => by simp at e)
theorem TER.condEnv {P : Program} {K : Cfg} {te : TEnv} {e : Env} (h : TER P K te e) (hold t : Nat) : TER P K (tcondEnv hold t te) (Eng.condEnv hold t e) := by
  unfold tcondEnv Eng.condEnv
  split
  · exact h
  · exact h.put (some t) (v := none) (a := none) (fun tv e => by simp at e)

section
variable {P : Program} {M : Masks} {f : FuncId} {G0 : Gh} {S0 : Stk} {s0 : St}
def TPost (P : Program) (G0 : Gh) (S0 : Stk) (s0 : St) (Q : TQ) (e : Env) (s : St) : Prop := ∃ G te st lo, Inv P G0 S0 s0 G st s lo ∧ TER P (cfg G st s) te e ∧ Q te st lo
theorem RT_ok {ops : Array Oper} {Q : TQ} : ∀ (l : List Oper) {te : TEnv} {st : Stk} {lo : Nat}, RT P M ops l te st lo Q → ∀ {G : Gh} {s : St} {e : Env}, Inv P G0 S0 s0 G st s lo → TER P (cfg G st s) te e → WR P M ops l e s (TPost P G0 S0 s0 Q)
  | [], te, st, lo, h, G, s, e, hI, hE => WR_nil.2 ⟨G, te, st, lo, hI, hE, h⟩
  | o :: l, te, st, lo, h, G, s, e, hI, hE => by
    rw [WR_cons]
    simp only [RT] at h
    split at h
    · rename_i hw
      refine .inl ⟨twanted_ok hE hw, ?_⟩
      split at h
      · rename_i g args hc
        obtain ⟨vals, h1, h2⟩ := tcallee_ok hE hc
        refine (WO_calleeOf h1).2 ((h G s vals hI.rel hI.lev h2).mono fun v s' ⟨G', out, R, st', lo', x, y, z⟩ => ?_)
        unfold Back at z
        split at z
        · rename_i out' st'' hm
          obtain ⟨G2, r2, l2, v2, g2⟩ := call_grow x hm y
          exact RT_ok l z (hI.step g2 r2 l2) ((hE.mono g2.le).put' o.dst (v := some out') (a := some v) fun tv e => by simp at e; subst e; exact ⟨v, rfl, v2⟩)
        · exact z.elim
      · split at h
        · rename_i v st' w hs
          obtain ⟨r, s', G', h1, h2, h3, h4⟩ := step_ok hI.rel hE hs
          refine (WO_noCall (stepT_nocall hs e)).2 ?_
          rw [h1]
          exact RT_ok l h (hI.step h3 h2 (step_lev hI.rel hs h2 h3.len hI.lev)) ((hE.mono h3.le).put' o.dst fun tv e => ⟨r, rfl, h4 tv e⟩)
        · exact h.elim
    · rename_i hw
      exact .inr ⟨twanted_ok hE hw, RT_ok l h hI (hE.put' o.dst (v := none) (a := none) fun tv e => by simp at e)⟩
    · exact h.elim

/-- what was loud is told so -/
def Louder (d dT : List (Nat × Bool)) : Prop := d.length = dT.length ∧ ∀ (i : Nat) x y, d[i]? = some x → dT[i]? = some y → x.1 = y.1 ∧ (x.2 = true → y.2 = true)
theorem Louder.cons {d dT : List (Nat × Bool)} (h : Louder d dT) (i : Nat) {a b : Bool} (hab : a = true → b = true) : Louder ((i, a) :: d) ((i, b) :: dT) :=
  ⟨by simp [h.1], fun j x y hx hy => by cases j with | zero => simp at hx hy; subst hx; subst hy; exact ⟨rfl, hab⟩ | succ j => exact h.2 j x y (by simpa using hx) (by simpa using hy)⟩
theorem Louder.ok {d dT : List (Nat × Bool)} (h : Louder d dT) {b : Array Nat} {i : Nat} {l lT : Bool} (hl : l = true → lT = true) (hk : loudOK dT b i lT = true) : d.all (fun x => !(l || x.2) || (b.getD i 0).testBit x.1) = true := by
  rw [List.all_eq_true]
  intro x hx
  obtain ⟨j, hj, rfl⟩ := List.mem_iff_getElem.1 hx
  have hj' : j < dT.length := by rw [← h.1]; exact hj
  obtain ⟨h1, h2⟩ := h.2 j d[j] dT[j] (by simp [hj]) (by simp [hj'])
  have := List.all_eq_true.1 hk dT[j] (List.getElem_mem hj')
  rw [h1]
  simp only [Bool.or_eq_true, Bool.not_eq_true', Bool.or_eq_false_iff] at this ⊢
  rcases this with ⟨a, b⟩ | h3
  · left
    refine ⟨?_, ?_⟩
    · cases l with
      | false => rfl
      | true => rw [hl rfl] at a; exact a
    · cases hd : d[j].2 with
      | false => rfl
      | true => rw [h2 hd] at b; exact b
  · exact .inr h3

theorem mark_self (s : St) : s.mark s.low = s := rfl
theorem DT_ok {ops : Array Oper} {b : Array Nat} {Q : TQ} : ∀ (l : List Oper) {i : Nat} {d dT : List (Nat × Bool)} {te : TEnv} {st : Stk} {lo : Nat}, DT P M ops b l i dT te st lo Q → Louder d dT → ∀ {G : Gh} {s : St} {e : Env}, Inv P G0 S0 s0 G st s lo → TER P (cfg G st s) te e → WD P M ops b l i d e s (TPost P G0 S0 s0 Q)
  | [], i, d, dT, te, st, lo, h, hd, G, s, e, hI, hE => WD_nil.2 ⟨G, te, st, lo, hI, hE, h⟩
  | o :: l, i, d, dT, te, st, lo, h, hd, G, s, e, hI, hE => by
    simp only [DT] at h
    obtain ⟨rm, cm⟩ := hI.rel.toMark s.next
    have hN := hI.rel.N
    split at h
    · rename_i hw
      split at h
      · rename_i hst
        split at h
        · rename_i v st' w hs
          obtain ⟨r, s', G', h1, h2, h3, h4⟩ := step_ok rm (hE.mono cm) hs
          obtain ⟨e1, _⟩ := still_same hst h1
          refine WD_still hst (twanted_ok hE hw) ((WO_noCall (still_calls hst)).2 ?_)
          have h1' : evalOp P noCall o e { s with low := s.next } = some (r, s') := h1
          rw [h1']
          have hg := h3.ofMark (l' := s.low) (by omega)
          obtain ⟨r2, c2⟩ := h2.toMark s.low
          have hlev := step_lev rm hs h2 h3.len hI.lev
          exact DT_ok l h hd (hI.step hg r2 hlev) ((hE.mono hg.le).put' o.dst fun tv e => ⟨r, rfl, (h4 tv e).mono c2⟩)
        · exact h.elim
      · rename_i hst
        split at h
        · rename_i g args hc
          obtain ⟨vals, h1, h2⟩ := tcallee_ok hE hc
          refine WD_loud hst (twanted_ok hE hw) ((WO_calleeOf h1).2 ((h G (s.mark s.next) vals rm hI.lev (h2.mono cm)).mono fun v s' ⟨G', out, R, st', lo', x, y, z⟩ => ?_))
          unfold BackD at z
          split at z
          · rename_i out' st'' hm
            obtain ⟨z1, z2⟩ := z
            obtain ⟨G2, r2, l2, v2, g2⟩ := call_grow x hm y
            have hlow := g2.low
            simp only [low_mark, next_mark] at hlow
            have hl1 : decide (s'.low < s.next) = true → decide (lo' < st.length) = true := fun hh => by
              simp only [decide_eq_true_eq] at hh ⊢
              refine Decidable.byContradiction fun hn => ?_
              rw [if_neg hn] at hlow
              omega
            refine ⟨hd.ok hl1 z1, ?_⟩
            have hg := g2.ofMark (l' := min s.low s'.low) (by
              split at hlow
              · rename_i hlt
                rw [if_pos hlt]
                have := (hN lo' lo' (Nat.le_refl _) hlt).2
                omega
              · rename_i hlt
                rw [if_neg hlt]
                omega)
            obtain ⟨r3, c3⟩ := r2.toMark (min s.low s'.low)
            exact DT_ok l z2 (hd.cons i hl1) (hI.step hg r3 l2) ((hE.mono hg.le).put' o.dst (v := some out') (a := some v) fun tv e => by simp at e; subst e; exact ⟨v, rfl, v2.mono c3⟩)
          · exact z.elim
        · split at h
          · rename_i v st' w hs
            obtain ⟨z1, z2⟩ := h
            obtain ⟨r, s', G', h1, h2, h3, h4⟩ := step_ok rm (hE.mono cm) hs
            refine WD_loud hst (twanted_ok hE hw) ((WO_noCall (stepT_nocall hs e)).2 ?_)
            have h1' : evalOp P noCall o e { s with low := s.next } = some (r, s') := h1
            rw [h1']
            have hlow := h3.low
            simp only [low_mark, next_mark] at hlow
            have hl1 : decide (s'.low < s.next) = true → decide (w < st.length) = true := fun hh => by
              simp only [decide_eq_true_eq] at hh ⊢
              refine Decidable.byContradiction fun hn => ?_
              rw [if_neg hn] at hlow
              omega
            refine ⟨hd.ok hl1 z1, ?_⟩
            have hg := h3.ofMark (l' := min s.low s'.low) (by
              split at hlow
              · rename_i hlt
                rw [if_pos hlt]
                have := (hN w w (Nat.le_refl _) hlt).2
                omega
              · rename_i hlt
                rw [if_neg hlt]
                omega)
            obtain ⟨r3, c3⟩ := h2.toMark (min s.low s'.low)
            have hlev := step_lev rm hs h2 h3.len hI.lev
            exact DT_ok l z2 (hd.cons i hl1) (hI.step hg r3 hlev) ((hE.mono hg.le).put' o.dst fun tv e => ⟨r, rfl, (h4 tv e).mono c3⟩)
          · exact h.elim
    · rename_i hw
      exact WD_skip (twanted_ok hE hw) (DT_ok l h hd hI (hE.put' o.dst (v := none) (a := none) fun tv e => by simp at e))
    · exact h.elim

theorem Inv.weak {G : Gh} {st st' : Stk} {s : St} {lo : Nat} {te te' : TEnv} {e : Env} (h : Inv P G0 S0 s0 G st s lo) (hE : TER P (cfg G st s) te e) (hw : WK P te st te' st') : ∃ G', Inv P G0 S0 s0 G' st' s lo ∧ TER P (cfg G' st' s) te' e := by
  obtain ⟨G', a, b, c, d, e1, e2, e3⟩ := hw G s e h.rel h.lev hE
  have hlen := h.len
  refine ⟨G', ⟨a, b, by rw [d]; exact h.len, fun id hi => ⟨e1 id (h.fz id hi).1, (h.fz id hi).2⟩, fun l k n hn => ?_, fun l hl => (e2 l (by omega)).trans (h.N l hl), (e2 _ (by omega)).trans h.top, h.mono, h.next, h.keep, h.low⟩, c⟩
  obtain ⟨n', x1, x2, x3⟩ := h.vs l k n hn
  obtain ⟨b, hb, _⟩ := vs_some hn
  have hlt := look_lt hb
  obtain ⟨y1, y2⟩ := e3 l k n' (by omega) x1
  exact ⟨n', y1, x2, fun e => by rw [y2]; exact x3 e⟩

def TPostX (P : Program) (G0 : Gh) (S0 : Stk) (s0 : St) (Q : Ex → TQ) (x : Ex) (e : Env) (s : St) : Prop := TPost P G0 S0 s0 (Q x) e s
theorem WR.mono {ops : Array Oper} {l : List Oper} {e : Env} {s : St} {Q R : Env → St → Prop} (h : WR P M ops l e s Q) (hq : ∀ e' s', Q e' s' → R e' s') : WR P M ops l e s R :=
  let ⟨n, e', s', a, q⟩ := h; ⟨n, e', s', a, hq _ _ q⟩
theorem WD.mono {ops : Array Oper} {b : Array Nat} {l : List Oper} {i : Nat} {d : List (Nat × Bool)} {e : Env} {s : St} {Q R : Env → St → Prop} (h : WD P M ops b l i d e s Q) (hq : ∀ e' s', Q e' s' → R e' s') : WD P M ops b l i d e s R :=
  let ⟨n, e', s', a, q⟩ := h; ⟨n, e', s', a, hq _ _ q⟩
theorem CT_ok : ∀ (c : Code) {Q : Ex → TQ} {te : TEnv} {st : Stk} {lo : Nat}, CT P M f c te st lo Q → ∀ {G : Gh} {s : St} {e : Env}, Inv P G0 S0 s0 G st s lo → TER P (cfg G st s) te e → WC P M f c e s (TPostX P G0 S0 s0 Q) := by
  intro c
  induction c with
  | region id ops draw =>
    intro Q te st lo h G s e hI hE
    cases draw with
    | false =>
      simp only [CT] at h
      exact WC_region (WR.mono (RT_ok _ h hI hE) fun e' s' ⟨G', te', st', lo', x, y, z⟩ => ⟨G', _, st', lo', x, y.forget _ _, z⟩)
    | true =>
      simp only [CT] at h
      exact WC_draw (WD.mono (DT_ok _ h ⟨rfl, by simp⟩ hI hE) fun e' s' ⟨G', te', st', lo', x, y, z⟩ => ⟨G', _, st', lo', x, y.forget _ _, z⟩)
  | seq a b iha ihb =>
    intro Q te st lo h G s e hI hE
    simp only [CT] at h
    refine WC_seq ((iha h hI hE).mono fun x e' s' hx => ?_)
    obtain ⟨G', te', st', lo', p, q, r⟩ := hx
    cases x with
    | normal =>
      obtain ⟨te2, st2, hw, hc⟩ := r
      obtain ⟨G2, hI2, hE2⟩ := p.weak q hw
      exact ihb hc hI2 hE2
    | ret => exact ⟨G', te', st', lo', p, q, r⟩
    | exit i => exact ⟨G', te', st', lo', p, q, r⟩
  | cond c a b iha ihb =>
    intro Q te st lo h G s e hI hE
    cases c with
    | tmp t =>
      simp only [CT] at h
      split at h
      · rename_i hc
        obtain ⟨v, h1, h2⟩ := hE.at' t _ (getD_none hc)
        obtain ⟨rfl, _⟩ := RV_at h2
        exact WC_cond true (by rw [h1]; rfl) (iha h hI (hE.condEnv _ _))
      · rename_i hc
        obtain ⟨v, h1, h2⟩ := hE.at' t _ (getD_none hc)
        obtain ⟨rfl, _⟩ := RV_at h2
        exact WC_cond false (by rw [h1]; rfl) (ihb h hI (hE.condEnv _ _))
      · exact h.elim
    | _ => exact h.elim
  | block id b ih =>
    intro Q te st lo h G s e hI hE
    simp only [CT] at h
    refine WC_block ((ih h hI hE).mono fun x e' s' hx => ?_)
    obtain ⟨G', te', st', lo', p, q, r⟩ := hx
    cases x with
    | normal => exact ⟨G', te', st', lo', p, q, r⟩
    | ret => exact ⟨G', te', st', lo', p, q, r⟩
    | exit i =>
      simp only [TBlock] at r
      simp only
      split
      · rename_i e; rw [if_pos e] at r; exact ⟨G', te', st', lo', p, q, r⟩
      · rename_i e; rw [if_neg e] at r; exact ⟨G', te', st', lo', p, q, r⟩
  | loop b ih =>
    intro Q te st lo h G s e hI hE
    simp only [CT] at h
    obtain ⟨I, ⟨d, te1, st1, hw, hi⟩, hround⟩ := h
    obtain ⟨G1, hI1, hE1⟩ := hI.weak hE hw
    refine WC_loop_inv (fun d e s => ∃ G te st lo, Inv P G0 S0 s0 G st s lo ∧ TER P (cfg G st s) te e ∧ I d te st lo) ?_ d e s ⟨G1, te1, st1, lo, hI1, hE1, hi⟩
    rintro d e s ⟨G, te, st, lo, a, b, c⟩
    refine (ih (hround d te st lo c) a b).mono fun x e' s' hx => ?_
    obtain ⟨G', te', st', lo', p, q, r⟩ := hx
    cases x with
    | normal =>
      obtain ⟨d', te2, st2, hd, hw2, hi2⟩ := r
      obtain ⟨G2, hI2, hE2⟩ := p.weak q hw2
      exact ⟨d', hd, G2, te2, st2, lo', hI2, hE2, hi2⟩
    | ret => exact ⟨G', te', st', lo', p, q, r⟩
    | exit i => exact ⟨G', te', st', lo', p, q, r⟩
  | skip => intro Q te st lo h G s e hI hE; exact WC_skip ⟨G, te, st, lo, hI, hE, h⟩
  | label l => intro Q te st lo h G s e hI hE; exact ⟨0, .normal, e, s, rfl, G, te, st, lo, hI, hE, h⟩
  | exit id => intro Q te st lo h G s e hI hE; exact WC_exit ⟨G, te, st, lo, hI, hE, h⟩
  | ret => intro Q te st lo h G s e hI hE; exact WC_ret ⟨G, te, st, lo, hI, hE, h⟩
  | _ => intro Q te st lo h; simp only [CT] at h
end

/-! ### 3. Functions -/
def resT1 (P : Program) (e : TEnv) (st : Stk) : ResultVar → Option TV
  | .tmp t => (e[t]?).getD none
  | .cell a t => match (e[a]?).getD none with
    | some (.ptr l k ver p) => match look st l k with
      | some b => if ver = vers b.c then match getP b.c p with
        | some v => if fits P t v then some v else none
        | none => none
        else none
      | none => none
    | _ => none
def resT (P : Program) (e : TEnv) (st : Stk) : List ResultVar → Option (List TV)
  | [] => some []
  | r :: l => match resT1 P e st r, resT P e st l with
    | some v, some vs => some (v :: vs)
    | _, _ => none
theorem resT_ok {P : Program} {G : Gh} {st : Stk} {s : St} (h : Rel P G st s) {te : TEnv} {e : Env} (hE : TER P (cfg G st s) te e) : ∀ {rs : List ResultVar} {l : List TV}, resT P te st rs = some l → ∃ vs, resVals P e s rs = some vs ∧ RVL P (cfg G st s) l vs
  | [], l, he => by simp [resT] at he; subst he; exact ⟨[], rfl, .nil⟩
  | r :: rs, l, he => by
    simp only [resT] at he
    split at he
    · rename_i v vs hv hvs
      simp at he; subst he
      obtain ⟨ws, h1, h2⟩ := resT_ok h hE hvs
      have : ∃ w, resVal P e s r = some w ∧ RV P (cfg G st s) v w := by
        cases r with
        | tmp t =>
          obtain ⟨w, a, b⟩ := hE.at' t v (getD_none hv)
          exact ⟨w, by simp [resVal, a], b⟩
        | cell a t =>
          simp only [resT1] at hv
          split at hv
          · rename_i l k ver p ha
            split at hv
            · rename_i b hb
              split at hv
              · rename_i hver
                split at hv
                · rename_i u hu
                  split at hv
                  · rename_i hf
                    simp at hv; subst hv
                    obtain ⟨w, a1, a2⟩ := hE.at' a _ (getD_none ha)
                    obtain ⟨id, off, rfl, _, _, cs, _, _, x, x1, x2⟩ := load_box h a2 hb hver hu hf
                    exact ⟨x, by simp [resVal, a1, x1], x2⟩
                  · simp at hv
                · simp at hv
              · simp at hv
            · simp at hv
          · simp at hv
      obtain ⟨w, w1, w2⟩ := this
      exact ⟨w :: ws, by simp [resVals, w1, h1], .cons w2 h2⟩
    · simp at he

/-- empty slots -/
def pad : Nat → TEnv
  | 0 => []
  | n + 1 => none :: pad n
theorem pad_eq : ∀ n, pad n = List.replicate n none
  | 0 => rfl
  | n + 1 => by simp [pad, pad_eq n, List.replicate_succ]
theorem pad_zero : pad 0 = [] := rfl
theorem pad_succ (n : Nat) : pad (n + 1) = none :: pad n := rfl
theorem WTF_of {P : Program} {M : Masks} {f : FuncId} {fn : Func} {k : Code} {args : List TV} {S : Stk} {Q : TV → List Box → Stk → Nat → Prop} (hc : ∀ a, M.closed f a = none) (hf : P.funcs[f]? = some fn) (hb : fn.body = some k) (hn : (fn.name == "runtime.NumGoroutine" || decide (args.length > fn.ntmps)) = false)
    (h : CT P M f k (args.map some ++ pad (fn.ntmps - args.length)) ([] :: S) S.length fun x e0 st0 lo => (x = .normal ∨ x = .ret) ∧ ∃ m e st out out' R S', WK P e0 st0 e st ∧ (∃ raws, resT P e st fn.results.toList = some raws ∧ retT m st raws = some (out, R, S')) ∧ (∀ K v, RV P K out v → RV P K out' v) ∧ Q out' R S' lo) : WTF P M f args S Q := by
  rw [pad_eq] at h
  intro G s vals hR hL hv
  let G1 : Gh := { G with N := fun l => if l = S.length then s.next else G.N l }
  have hle : CLe (cfg G S s) (cfg G1 ([] :: S) s) := by
    refine ⟨fun id hi => ⟨hi, rfl⟩, fun l k n hn => ⟨n, by show vsOf _ _ _ = _; rw [vs_nil_top]; exact hn, Nat.le_refl _, fun _ => rfl⟩⟩
  have hNl : ∀ l, l < S.length → G1.N l = G.N l := fun l hl => by show (if _ then _ else _) = _; rw [if_neg (by omega)]
  have hNt : G1.N S.length = s.next := by show (if _ then _ else _) = _; rw [if_pos rfl]
  have hR1 : Rel P G1 ([] :: S) s := by
    refine ⟨hR.fz, fun l k b hb => ?_, fun l k l' k' b b' id h1 h2 => hR.inj l k l' k' b b' id (by rwa [look_nil_top] at h1) (by rwa [look_nil_top] at h2), fun l l' a b => ?_⟩
    · rw [look_nil_top] at hb
      exact (hR.box l k b hb).mono hle rfl (hNl l (look_lt hb)) (Nat.le_refl _) (fun _ _ _ => rfl) (fun _ _ _ => Iff.rfl)
    · simp at b
      by_cases e : l' = S.length
      · subst e
        rw [hNt]
        by_cases e : l = S.length
        · subst e; rw [hNt]; omega
        · rw [hNl l (by omega)]
          exact ⟨(hR.N l l (Nat.le_refl _) (by omega)).2, Nat.le_refl _⟩
      · rw [hNl l (by omega), hNl l' (by omega)]
        exact hR.N l l' a (by omega)
  have hI : Inv P G S s G1 ([] :: S) s S.length := by
    refine ⟨hR1, fun l k b hb => hL l k b (by rwa [look_nil_top] at hb), by simp, fun id hi => ⟨hi, rfl⟩, fun l k n hn => ⟨n, by rw [vs_nil_top]; exact hn, Nat.le_refl _, fun _ => rfl⟩, hNl, hNt, fun l l' a b => hR.N l l' a b, Nat.le_refl _, fun _ _ _ => rfl, by rw [if_neg (by omega)]; omega⟩
  have hlen := hv.1
  have hE : TER P (cfg G1 ([] :: S) s) (args.map some ++ List.replicate (fn.ntmps - args.length) none) (vals.map some ++ List.replicate (fn.ntmps - vals.length) none) := by
    refine ⟨by simp [hlen], fun i tv hi => ?_⟩
    by_cases hlt : i < args.length
    · rw [List.getElem?_append_left (by simpa using hlt)] at hi
      have hlt' : i < vals.length := by omega
      rw [List.getElem?_append_left (by simpa using hlt')]
      rw [List.getElem?_map] at hi
      simp only [Option.map_eq_some_iff] at hi
      obtain ⟨a, ha, e⟩ := hi
      simp at e; subst e
      exact ⟨vals[i], by simp [hlt'], (hv.2 i a vals[i] ha (by simp [hlt'])).mono hle⟩
    · rw [List.getElem?_append_right (by simpa using hlt)] at hi
      rw [List.getElem?_replicate] at hi
      split at hi <;> simp at hi
  refine WF_of (hc _) hf hb (by rw [← hlen]; exact hn) ((CT_ok k h hI hE).mono fun x e' s' hx => ?_)
  obtain ⟨G0, te0, st0, lo, hI0, hE0, hx, m, te, st, out, out', R, S', hw, ⟨raws, hraws, hret⟩, hcv, hq⟩ := hx
  obtain ⟨G', hI', hE'⟩ := hI0.weak hE0 hw
  refine ⟨hx, ?_⟩
  obtain ⟨vs, h1, h2⟩ := resT_ok hI'.rel hE' hraws
  refine ⟨vs, h1, ?_⟩
  -- the state that is returned from
  have key : ∀ {G2 : Gh} {st2 : Stk} {outs : List TV}, Inv P G S s G2 st2 s' lo → RVL P (cfg G2 st2 s') outs vs → keepT m st2 outs = some (out, R, S') → ∃ G' out R st' lo, CallOK P G S s G' R st' s' lo ∧ RV P (cfg G' (R :: st') s') out (tupled vs) ∧ Q out R st' lo := fun {G2 st2 outs} hI2 hv2 hk => by
    obtain ⟨G3, a, b, c, d, e1, e2, e3⟩ := keepT_ok hI2.rel hI2.lev hk hv2
    have hl2 := hI2.len
    refine ⟨G3, out', R, S', lo, ⟨a, b, by omega, ⟨fun id hi => ⟨by show G3.fz id; rw [d]; exact (hI2.fz id hi).1, (hI2.fz id hi).2⟩, fun l k n hn => ?_⟩, fun l hl => by rw [e1]; exact hI2.N l hl, hI2.next, hI2.keep, hI2.low⟩, hcv _ _ c, hq⟩
    obtain ⟨n', x1, x2, x3⟩ := hI2.vs l k n hn
    obtain ⟨bx, hbx, _⟩ := vs_some (show vsOf S l k = some n from hn)
    have hlt := look_lt hbx
    obtain ⟨y1, y2⟩ := e3 l k n' (by omega) x1
    exact ⟨n', y1, x2, fun e => by show G3.ρ l k = _; rw [y2]; exact x3 e⟩
  unfold retT at hret
  split at hret
  · split at hret
    · rename_i outs ks hsn
      obtain ⟨G2, r2, g2, s2, v2⟩ := snapL_ok hI'.rel hsn h2
      have hI2 := hI'.step g2 r2 (marks_lev hI'.lev)
      have hl := hI'.len
      exact key (hI2.lo' (by omega)) v2 hret
    · simp at hret
  · exact key hI' h2 hret
end Go.Tm
end

section
/- The tree machine: rules to walk with; contracts of functions that turn nothing. -/
set_option linter.unusedVariables false
set_option linter.unusedSimpArgs false
namespace Go.Tm
open Go.Eng

/-! ### 1. Equations for a walk -/
section
variable {P : Program} {M : Masks} {f : FuncId}
def KRt (P : Program) (M : Masks) (ops : Array Oper) (r : List Oper) (e : TEnv) (d : Option Tmp) (Q : TQ) : TV → Stk → Nat → Prop := fun v st lo => RT P M ops r (tput e d (some v)) st lo Q
def KDt (P : Program) (M : Masks) (ops : Array Oper) (b : Array Nat) (r : List Oper) (i : Nat) (d : List (Nat × Bool)) (e : TEnv) (dst : Option Tmp) (Q : TQ) : TV → Stk → Nat → Bool → Prop := fun v st lo loud => DT P M ops b r (i + 1) ((i, loud) :: d) (tput e dst (some v)) st lo Q
def KRegT (keep : Nat) (ops : List Oper) (Q : Ex → TQ) : TQ := fun e st lo => Q .normal (tforget keep ops e) st lo
def KSeqT (P : Program) (M : Masks) (f : FuncId) (b : Code) (Q : Ex → TQ) : Ex → TQ := TThen (fun e st lo => ∃ e' st', WK P e st e' st' ∧ CT P M f b e' st' lo Q) Q
theorem krt (ops : Array Oper) (r : List Oper) (e : TEnv) (d : Option Tmp) (Q : TQ) (v : TV) (st : Stk) (lo : Nat) : KRt P M ops r e d Q v st lo = RT P M ops r (tput e d (some v)) st lo Q := rfl
theorem kdt (ops : Array Oper) (b : Array Nat) (r : List Oper) (i : Nat) (d : List (Nat × Bool)) (e : TEnv) (dst : Option Tmp) (Q : TQ) (v : TV) (st : Stk) (lo : Nat) (l : Bool) : KDt P M ops b r i d e dst Q v st lo l = DT P M ops b r (i + 1) ((i, l) :: d) (tput e dst (some v)) st lo Q := rfl
theorem kregT (keep : Nat) (ops : List Oper) (Q : Ex → TQ) (e : TEnv) (st : Stk) (lo : Nat) : KRegT keep ops Q e st lo = Q .normal (tforget keep ops e) st lo := rfl
theorem kseqT_normal (b : Code) (Q : Ex → TQ) (e : TEnv) (st : Stk) (lo : Nat) : KSeqT P M f b Q .normal e st lo = (∃ e' st', WK P e st e' st' ∧ CT P M f b e' st' lo Q) := rfl
theorem kseqT_ret (b : Code) (Q : Ex → TQ) (e : TEnv) (st : Stk) (lo : Nat) : KSeqT P M f b Q .ret e st lo = Q .ret e st lo := rfl
theorem kseqT_exit (b : Code) (Q : Ex → TQ) (i : Nat) (e : TEnv) (st : Stk) (lo : Nat) : KSeqT P M f b Q (.exit i) e st lo = Q (.exit i) e st lo := rfl
theorem tblock_normal (id : Nat) (Q : Ex → TQ) : TBlock id Q .normal = Q .normal := rfl
theorem tblock_ret (id : Nat) (Q : Ex → TQ) : TBlock id Q .ret = Q .ret := rfl
theorem tblock_exit (id i : Nat) (Q : Ex → TQ) : TBlock id Q (.exit i) = if i = id then Q .normal else Q (.exit i) := rfl
theorem tthen_normal (N : TQ) (Q : Ex → TQ) : TThen N Q .normal = N := rfl
theorem tthen_ret (N : TQ) (Q : Ex → TQ) : TThen N Q .ret = Q .ret := rfl
theorem tthen_exit (N : TQ) (Q : Ex → TQ) (i : Nat) : TThen N Q (.exit i) = Q (.exit i) := rfl
/-- one operation -/
def rstep (P : Program) (M : Masks) (ops : Array Oper) (o : Oper) (r : List Oper) (e : TEnv) (st : Stk) (lo : Nat) (Q : TQ) : Prop :=
  match twanted ops o e with
    | some true => match tcallee e o with
      | some (g, args) => WTF P M g args st (Back lo (KRt P M ops r e o.dst Q))
      | none => match stepT P st o e with
        | some (v, st', w) => RT P M ops r (tput e o.dst v) st' (min lo w) Q
        | none => False
    | some false => RT P M ops r (tput e o.dst none) st lo Q
    | none => False
def dstep (P : Program) (M : Masks) (ops : Array Oper) (b : Array Nat) (o : Oper) (r : List Oper) (i : Nat) (d : List (Nat × Bool)) (e : TEnv) (st : Stk) (lo : Nat) (Q : TQ) : Prop :=
  match twanted ops o e with
    | some true => match still o.op with
      | true => match stepT P st o e with
        | some (v, st', w) => DT P M ops b r (i + 1) d (tput e o.dst v) st' (min lo w) Q
        | none => False
      | false => match tcallee e o with
        | some (g, args) => WTF P M g args st (BackD b i d lo st.length (KDt P M ops b r i d e o.dst Q))
        | none => match stepT P st o e with
          | some (v, st', w) => loudOK d b i (decide (w < st.length)) = true ∧ DT P M ops b r (i + 1) ((i, decide (w < st.length)) :: d) (tput e o.dst v) st' (min lo w) Q
          | none => False
    | some false => DT P M ops b r (i + 1) d (tput e o.dst none) st lo Q
    | none => False
theorem rt_nil {ops : Array Oper} {e : TEnv} {st : Stk} {lo : Nat} {Q : TQ} : RT P M ops [] e st lo Q = Q e st lo := by simp only [RT]
theorem rt_cons {ops : Array Oper} {o : Oper} {r : List Oper} {e : TEnv} {st : Stk} {lo : Nat} {Q : TQ} : RT P M ops (o :: r) e st lo Q = rstep P M ops o r e st lo Q := by simp only [RT, rstep]; rfl
theorem dt_nil {ops : Array Oper} {b : Array Nat} {i : Nat} {d : List (Nat × Bool)} {e : TEnv} {st : Stk} {lo : Nat} {Q : TQ} : DT P M ops b [] i d e st lo Q = Q e st lo := by simp only [DT]
theorem dt_cons {ops : Array Oper} {b : Array Nat} {o : Oper} {r : List Oper} {i : Nat} {d : List (Nat × Bool)} {e : TEnv} {st : Stk} {lo : Nat} {Q : TQ} : DT P M ops b (o :: r) i d e st lo Q = dstep P M ops b o r i d e st lo Q := by simp only [DT, dstep]; rfl
theorem ct_skip {e : TEnv} {st : Stk} {lo : Nat} {Q : Ex → TQ} : CT P M f .skip e st lo Q = Q .normal e st lo := by simp only [CT]
theorem ct_ret {e : TEnv} {st : Stk} {lo : Nat} {Q : Ex → TQ} : CT P M f .ret e st lo Q = Q .ret e st lo := by simp only [CT]
theorem ct_exit {i : Nat} {e : TEnv} {st : Stk} {lo : Nat} {Q : Ex → TQ} : CT P M f (.exit i) e st lo Q = Q (.exit i) e st lo := by simp only [CT]
theorem ct_seq {a b : Code} {e : TEnv} {st : Stk} {lo : Nat} {Q : Ex → TQ} : CT P M f (.seq a b) e st lo Q = CT P M f a e st lo (KSeqT P M f b Q) := by simp only [CT]; rfl
theorem ct_block {id : Nat} {b : Code} {e : TEnv} {st : Stk} {lo : Nat} {Q : Ex → TQ} : CT P M f (.block id b) e st lo Q = CT P M f b e st lo (TBlock id Q) := by simp only [CT]
theorem ct_region {id : Nat} {l : List Oper} {e : TEnv} {st : Stk} {lo : Nat} {Q : Ex → TQ} : CT P M f (.region id l.toArray false) e st lo Q = RT P M l.toArray l e st lo (KRegT (M.keep f) l Q) := by simp only [CT]; rfl
theorem ct_draw {id : Nat} {l : List Oper} {e : TEnv} {st : Stk} {lo : Nat} {Q : Ex → TQ} : CT P M f (.region id l.toArray true) e st lo Q = DT P M l.toArray (Region.before l.toArray) l 0 [] e st lo (KRegT (M.keep f) l Q) := by simp only [CT]; rfl
theorem ct_cond {t : Tmp} {a b : Code} {e : TEnv} {st : Stk} {lo : Nat} {Q : Ex → TQ} : CT P M f (.cond (.tmp t) a b) e st lo Q = (match (e[t]?).getD none with
    | some (.at (.bool true)) => CT P M f a (tcondEnv (M.hold f) t e) st lo Q
    | some (.at (.bool false)) => CT P M f b (tcondEnv (M.hold f) t e) st lo Q
    | _ => False) := by simp only [CT] <;> first | done | rfl
theorem ct_loop {b : Code} {e : TEnv} {st : Stk} {lo : Nat} {Q : Ex → TQ} (I : Nat → TEnv → Stk → Nat → Prop) (d : Nat) (e0 : TEnv) (st0 : Stk) (hw : WK P e st e0 st0) (hi : I d e0 st0 lo)
    (hr : ∀ d e st lo, I d e st lo → CT P M f b e st lo (TThen (fun e' st' lo' => ∃ d' e'' st'', d' < d ∧ WK P e' st' e'' st'' ∧ I d' e'' st'' lo') Q)) : CT P M f (.loop b) e st lo Q := by
  simp only [CT]
  exact ⟨I, ⟨d, e0, st0, hw, hi⟩, hr⟩
theorem back_nil (lo : Nat) (K : TV → Stk → Nat → Prop) (out : TV) (st : Stk) (lo' : Nat) : Back lo K out [] st lo' = K out st (min lo lo') := rfl
theorem backD_nil (b : Array Nat) (i : Nat) (d : List (Nat × Bool)) (lo n : Nat) (K : TV → Stk → Nat → Bool → Prop) (out : TV) (st : Stk) (lo' : Nat) : BackD b i d lo n K out [] st lo' = (loudOK d b i (decide (lo' < n)) = true ∧ K out st (min lo lo') (decide (lo' < n))) := rfl
end

/-! ### 2. What may be forgotten -/
theorem WK.refl {P : Program} (e : TEnv) (st : Stk) : WK P e st e st := fun G s a hr hl he => ⟨G, hr, hl, he, rfl, fun _ h => h, fun _ _ => rfl, fun _ _ _ _ h => ⟨h, rfl⟩⟩
theorem WK.trans {P : Program} {e1 e2 e3 : TEnv} {s1 s2 s3 : Stk} (h : WK P e1 s1 e2 s2) (k : WK P e2 s2 e3 s3) : WK P e1 s1 e3 s3 := fun G s a hr hl he => by
  obtain ⟨G1, a1, b1, c1, d1, f1, n1, v1⟩ := h G s a hr hl he
  obtain ⟨G2, a2, b2, c2, d2, f2, n2, v2⟩ := k G1 s a a1 b1 c1
  refine ⟨G2, a2, b2, c2, d2.trans d1, fun id h => f2 id (f1 id h), fun l hl => (n2 l (by omega)).trans (n1 l hl), fun l k n hl hn => ?_⟩
  obtain ⟨x, y⟩ := v1 l k n hl hn
  obtain ⟨x', y'⟩ := v2 l k n (by omega) x
  exact ⟨x', y'.trans y⟩
/-- a slot is forgotten -/
theorem WK.slot {P : Program} (e : TEnv) (st : Stk) (i : Nat) : WK P e st (e.set i none) st := fun G s a hr hl he => ⟨G, hr, hl, ⟨by simpa using he.len, fun j tv hj => by
  rw [List.getElem?_set] at hj
  split at hj
  · split at hj <;> simp at hj
  · exact he.at' j tv hj⟩, rfl, fun _ h => h, fun _ _ => rfl, fun _ _ _ _ h => ⟨h, rfl⟩⟩

/-! ### 3. The youngest boxes are given up -/
mutual
/-- doesn't name a box of level l from the k-th on -/
def fitsB (l k : Nat) : TV → Bool
  | .ref a b _ _ _ _ _ => decide (a ≠ l ∨ b < k)
  | .ptr a b _ _ => decide (a ≠ l ∨ b < k)
  | .agg _ x => fitsBL l k x
  | .fn _ a b => fitsBL l k a && fitsBL l k b
  | .tup x => fitsBL l k x
  | _ => true
def fitsBL (l k : Nat) : List TV → Bool
  | [] => true
  | v :: r => fitsB l k v && fitsBL l k r
end
theorem fitsBL_mem {l k : Nat} {x : List TV} (h : fitsBL l k x = true) : ∀ v ∈ x, fitsB l k v = true := by
  induction x with
  | nil => simp
  | cons a x ih =>
    simp only [fitsBL, Bool.and_eq_true] at h
    intro v hv
    rcases List.mem_cons.1 hv with rfl | hv
    · exact h.1
    · exact ih h.2 v hv
mutual
theorem fitsB_solid (l k : Nat) : ∀ {v : TV}, solid v = true → fitsB l k v = true
  | .agg _ x, h => by simp only [solid] at h; simp only [fitsB]; exact fitsBL_solid l k h
  | .fn _ a b, h => by simp only [solid, Bool.and_eq_true] at h; simp only [fitsB, Bool.and_eq_true]; exact ⟨fitsBL_solid l k h.1, fitsBL_solid l k h.2⟩
  | .at _, _ => rfl
  | .sl _ _ _, _ => rfl
  | .arr _ _, _ => rfl
  | .ep _, _ => rfl
  | .row _ _, h => rfl
  | .tup _, h => by simp [solid] at h
  | .ref _ _ _ _ _ _ _, h => by simp [solid] at h
  | .ptr _ _ _ _, h => by simp [solid] at h
theorem fitsBL_solid (l k : Nat) : ∀ {x : List TV}, solidL x = true → fitsBL l k x = true
  | [], _ => rfl
  | v :: r, h => by simp only [solidL, Bool.and_eq_true] at h; simp only [fitsBL, Bool.and_eq_true]; exact ⟨fitsB_solid l k h.1, fitsBL_solid l k h.2⟩
end
theorem RC.cut {P : Program} {K K' : Cfg} {l k : Nat} (hfz : ∀ id, K.fz id → K'.fz id ∧ K'.s.heap.get id = K.s.heap.get id) (hvs : ∀ a b n, (a ≠ l ∨ b < k) → K.vs a b = some n → K'.vs a b = some n ∧ K'.ρ a b = K.ρ a b) {tv : TV} {cs : List Value} (h : RC P K tv cs) : fitsB l k tv = true → RC P K' tv cs := by
  have hr : CRen (fun a b => if a ≠ l ∨ b < k then some (a, b) else none) K K' := ⟨hfz, fun a b a' b' n e hv => by
    split at e
    · rename_i hh; simp at e; obtain ⟨rfl, rfl⟩ := e; exact hvs _ _ _ hh hv
    · simp at e⟩
  intro hf
  refine h.ren hr ?_
  have : ∀ {tv : TV}, fitsB l k tv = true → renTV (fun a b => if a ≠ l ∨ b < k then some (a, b) else none) tv = some tv := by
    intro tv
    exact go tv
  exact this hf
where
  go {l k : Nat} : ∀ (tv : TV), fitsB l k tv = true → renTV (fun a b => if a ≠ l ∨ b < k then some (a, b) else none) tv = some tv
    | .agg _ x, h => by simp only [fitsB] at h; simp only [renTV, goL x h]
    | .fn _ a b, h => by simp only [fitsB, Bool.and_eq_true] at h; simp only [renTV, goL a h.1, goL b h.2]
    | .tup x, h => by simp only [fitsB] at h; simp only [renTV, goL x h]
    | .ref a b _ _ _ _ _, h => by simp only [fitsB, decide_eq_true_eq] at h; simp only [renTV, if_pos h]
    | .ptr a b _ _, h => by simp only [fitsB, decide_eq_true_eq] at h; simp only [renTV, if_pos h]
    | .at _, _ => rfl
    | .sl _ _ _, _ => rfl
    | .arr _ _, _ => rfl
    | .ep _, _ => rfl
    | .row _ _, _ => rfl
  goL {l k : Nat} : ∀ (x : List TV), fitsBL l k x = true → renTL (fun a b => if a ≠ l ∨ b < k then some (a, b) else none) x = some x
    | [], _ => rfl
    | a :: x, h => by
      simp only [fitsBL, Bool.and_eq_true] at h
      simp only [renTL, go a h.1, goL x h.2]
def fitsE (l k : Nat) : TEnv → Bool
  | [] => true
  | none :: r => fitsE l k r
  | some v :: r => fitsB l k v && fitsE l k r
theorem fitsE_get {l k : Nat} : ∀ {e : TEnv}, fitsE l k e = true → ∀ (i : Nat) v, e[i]? = some (some v) → fitsB l k v = true
  | [], _, i, v, h => by simp at h
  | none :: r, h, i, v, hi => by
    cases i with
    | zero => simp at hi
    | succ i => exact fitsE_get (e := r) (by simpa [fitsE] using h) i v (by simpa using hi)
  | some w :: r, h, i, v, hi => by
    simp only [fitsE, Bool.and_eq_true] at h
    cases i with
    | zero => simp at hi; subst hi; exact h.1
    | succ i => exact fitsE_get h.2 i v (by simpa using hi)
def fitsF (l k : Nat) : List Box → Bool
  | [] => true
  | b :: r => fitsB l k b.c && fitsF l k r
theorem fitsF_get {l k : Nat} : ∀ {F : List Box}, fitsF l k F = true → ∀ (i : Nat) b, F[i]? = some b → fitsB l k b.c = true
  | [], _, i, v, h => by simp at h
  | w :: r, h, i, v, hi => by
    simp only [fitsF, Bool.and_eq_true] at h
    cases i with
    | zero => simp at hi; subst hi; exact h.1
    | succ i => exact fitsF_get h.2 i v (by simpa using hi)
theorem WK.cut {P : Program} (e : TEnv) (F D : List Box) (S : Stk) (he : fitsE S.length F.length e = true) (hF : fitsF S.length F.length F = true) : WK P e ((F ++ D) :: S) e (F :: S) := fun G s a hr hl hE => by
  have sub : ∀ {l k b}, look (F :: S) l k = some b → look ((F ++ D) :: S) l k = some b := fun {l k b} hb => by
    simp only [look] at hb ⊢
    split at hb
    · rename_i e
      rw [if_pos e, List.getElem?_append_left (List.getElem?_eq_some_iff.1 hb).1]; exact hb
    · rename_i e; rw [if_neg e]; exact hb
  have bsub : ∀ {l k b}, look ((F ++ D) :: S) l k = some b → (l ≠ S.length ∨ k < F.length) → look (F :: S) l k = some b := fun {l k b} hb h => by
    simp only [look] at hb ⊢
    split at hb
    · rename_i e
      rw [if_pos e]
      have : k < F.length := by omega
      rwa [List.getElem?_append_left this] at hb
    · rename_i e; rw [if_neg e]; exact hb
  have hvs : ∀ a b n, (a ≠ S.length ∨ b < F.length) → vsOf ((F ++ D) :: S) a b = some n → vsOf (F :: S) a b = some n := fun a b n h hn => by
    obtain ⟨bx, hb, rfl⟩ := vs_some hn
    exact vs_of (bsub hb h)
  have cut : ∀ {tv cs}, RC P (cfg G ((F ++ D) :: S) s) tv cs → fitsB S.length F.length tv = true → RC P (cfg G (F :: S) s) tv cs := fun {tv cs} h hf => RC.cut (K := cfg G ((F ++ D) :: S) s) (K' := cfg G (F :: S) s) (fun id hi => ⟨hi, rfl⟩) (fun a b n hh hn => ⟨hvs a b n hh hn, rfl⟩) h hf
  have hlev : ∀ l k b, look (F :: S) l k = some b → fitsB S.length F.length b.c = true := fun l k b hb => by
    have hb0 := hb
    simp only [look] at hb
    split at hb
    · exact fitsF_get hF _ _ hb
    · rename_i e
      have hlt := look_lt hb
      have := hl l k b (sub hb0)
      -- below the top nothing of the top is named
      have key : ∀ {tv : TV}, levB (l + 1) tv = true → fitsB S.length F.length tv = true := by
        intro tv
        exact lf (by omega) tv
      exact key this
  refine ⟨G, ⟨hr.fz, fun l k b hb => ?_, fun l k l' k' b b' id h1 h2 => hr.inj l k l' k' b b' id (sub h1) (sub h2), fun l l' x y => hr.N l l' x y⟩, fun l k b hb => hl l k b (sub hb), ⟨hE.len, fun i tv hi => ?_⟩, rfl, fun _ h => h, fun _ _ => rfl, fun l k n hlt hn => ⟨hvs l k n (by simp at hlt; omega) hn, rfl⟩⟩
  · rcases hr.box l k b (sub hb) with h | ⟨id, cs, a1, a2, a3, a4, a5, a6⟩
    · exact .inl h
    · exact .inr ⟨id, cs, a1, a2, a3, a4, a5, cut a6 (hlev l k b hb)⟩
  · obtain ⟨v, h1, h2⟩ := hE.at' i tv hi
    refine ⟨v, h1, ?_⟩
    have hf := fitsE_get he i tv hi
    have one : ∀ {tv v}, RV1 P (cfg G ((F ++ D) :: S) s) tv v → fitsB S.length F.length tv = true → RV1 P (cfg G (F :: S) s) tv v := fun h hf => ⟨cut h.1 hf, h.2⟩
    cases ht : isTup tv with
    | false => exact .of (one (h2.to ht) hf)
    | true =>
      cases tv <;> simp [isTup] at ht
      rename_i l
      obtain ⟨vs, rfl, b1, b2⟩ := h2
      simp only [fitsB] at hf
      exact ⟨vs, rfl, b1, fun i t u p q => one (b2 i t u p q) (fitsBL_mem hf t (List.mem_of_getElem? p))⟩
where
  lf {n l k : Nat} (h : n ≤ l) : ∀ (tv : TV), levB n tv = true → fitsB l k tv = true
    | .agg _ x, hx => by simp only [levB] at hx; simp only [fitsB]; exact lfL h x hx
    | .fn _ a b, hx => by simp only [levB, Bool.and_eq_true] at hx; simp only [fitsB, Bool.and_eq_true]; exact ⟨lfL h a hx.1, lfL h b hx.2⟩
    | .tup x, hx => by simp only [levB] at hx; simp only [fitsB]; exact lfL h x hx
    | .ref a b _ _ _ _ _, hx => by simp only [levB, decide_eq_true_eq] at hx; simp only [fitsB, decide_eq_true_eq]; omega
    | .ptr a b _ _, hx => by simp only [levB, decide_eq_true_eq] at hx; simp only [fitsB, decide_eq_true_eq]; omega
    | .at _, _ => rfl
    | .sl _ _ _, _ => rfl
    | .arr _ _, _ => rfl
    | .ep _, _ => rfl
    | .row _ _, _ => rfl
  lfL {n l k : Nat} (h : n ≤ l) : ∀ (x : List TV), levL n x = true → fitsBL l k x = true
    | [], _ => rfl
    | a :: x, hx => by
      simp only [levL, Bool.and_eq_true] at hx
      simp only [fitsBL, Bool.and_eq_true]
      exact ⟨lf h a hx.1, lfL h x hx.2⟩

/-- a nil slice that will grow gets a box -/
theorem WK.grow {P : Program} (e : TEnv) (F : List Box) (S : Stk) (i : Nat) (el : TypeId) (he : e[i]? = some (some (.at (.slice none 0 0)))) : WK P e (F :: S) (e.set i (some (.ref S.length F.length 0 0 0 false el))) ((F ++ [⟨.row el [], false⟩]) :: S) := fun G s a hr hl hE => by
  obtain ⟨r1, g1⟩ := hr.newEmpty (by simp) el
  have e1 : (F :: S).length - 1 = S.length := by simp
  have e2 : topLen (F :: S) = F.length := rfl
  have e3 : push (F :: S) ⟨.row el [], false⟩ = (F ++ [⟨.row el [], false⟩]) :: S := rfl
  rw [e1, e2, e3] at r1 g1
  refine ⟨_, r1, .ofTop r1 fun l k b hlt hb => hl l k b (by simp at hlt; rw [look_below hlt] at hb ⊢; exact hb), ⟨by simpa using hE.len, fun j tv hj => ?_⟩, rfl, fun _ h => h, fun _ _ => rfl, fun l k n hlt hn => ?_⟩
  · rw [List.getElem?_set] at hj
    split at hj
    · rename_i eij
      subst eij
      split at hj
      · simp at hj; subst hj
        obtain ⟨v, h1, h2⟩ := hE.at' _ _ he
        obtain ⟨rfl, _⟩ := RV_at h2
        refine ⟨_, h1, RV.single (.ref (n := 0) ?_ (Nat.le_refl _) (fun _ => .inr ⟨rfl, rfl, ?_, .inl rfl⟩) rfl) rfl⟩
        all_goals (show vsOf _ _ _ = _; rw [vs_of (b := ⟨.row el [], false⟩) (by rw [look_top]; simp)]; rfl)
      · simp at hj
    · obtain ⟨v, h1, h2⟩ := hE.at' j tv hj
      exact ⟨v, h1, h2.mono g1.le⟩
  · simp at hlt
    refine ⟨?_, Gh.with_ne _ _ (by omega)⟩
    obtain ⟨b, hb, rfl⟩ := vs_some hn
    exact vs_of (by rw [look_below hlt] at hb ⊢; exact hb)
end Go.Tm
end

