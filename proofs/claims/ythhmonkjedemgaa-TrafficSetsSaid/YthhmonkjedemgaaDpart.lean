/- Part 4 of a proof in parts; the last part, YthhmonkjedemgaaGpart, proves this: At every input within the bounds that the given rows TrafficAlgebraSaid and TrafficSetsSaid name, the laws TrafficAlgebra and TrafficSets of the package flagstonelaw14 return true and leave their arguments as they were. There is no further condition. -/
import Derived.Test.YthhmonkjedemgaaCpart
import Derived.Test.YthhmonkjedemgaaRows

section
/- The tree machine: what a call is given, told in one way; contracts of functions that turn nothing. -/
set_option linter.unusedVariables false
set_option linter.unusedSimpArgs false
namespace Go.Tm
open Go.Eng

mutual
/-- an argument of type t: slices are told as lists -/
def canonT (P : Program) (st : Stk) (t : TypeId) : TV → Option (TV × List (Nat × Nat))
  | .at v => match nilOf v with
    | some 3 => match slT P t with
      | some (el, _, _) => some (.sl false el [], [])
      | none => none
    | _ => some (.at v, [])
  | .sl _ el l => some (.sl false el l, [])
  | .ref l k ver off len ex el => match elems st el (.ref l k ver off len ex el) with
    | some c => some (.sl false el c, [(l, k)])
    | none => none
  | .agg t' l => match canonF P st t' 0 l with
    | some (l', ks) => some (.agg t' l', ks)
    | none => none
  | .arr el l => some (.arr el l, [])
  | .ep v => some (.ep v, [])
  | .ptr l k ver p => some (.ptr l k ver p, [])
  | .fn f a b => some (.fn f a b, [])
  | _ => none
def canonF (P : Program) (st : Stk) (t : TypeId) (i : Nat) : List TV → Option (List TV × List (Nat × Nat))
  | [] => some ([], [])
  | v :: r => match ftypeT P t i with
    | some ft => match canonT P st ft v, canonF P st t (i + 1) r with
      | some (v', k), some (r', ks) => some (v' :: r', k ++ ks)
      | _, _ => none
    | none => none
end
def canonL (P : Program) (st : Stk) : List TypeId → List TV → Option (List TV × List (Nat × Nat))
  | _, [] => some ([], [])
  | t :: ts, v :: r => match canonT P st t v, canonL P st ts r with
    | some (v', k), some (r', ks) => some (v' :: r', k ++ ks)
    | _, _ => none
  | [], _ :: _ => none

mutual
theorem canonT_ok {P : Program} {G : Gh} {st : Stk} {s : St} (h : Rel P G st s) : ∀ {t : TypeId} {v v' : TV} {ks : List (Nat × Nat)} {cs : List Value}, canonT P st t v = some (v', ks) → RC P (cfg G st s) v cs →
    (∀ q ∈ ks, ∃ b, look st q.1 q.2 = some b) ∧ aggy v' = aggy v ∧ ∀ K : Cfg, CLe (cfg G st s) K → K.s = s → (∀ q ∈ ks, ∀ id, G.ρ q.1 q.2 = some id → K.fz id) → RC P K v' cs
  | t, .ref l k ver off len ex el, v', ks, cs, he, hv => by
    simp only [canonT] at he
    split at he
    · rename_i c hc
      simp at he
      obtain ⟨rfl, rfl⟩ := he
      have hs : snapU st (.ref l k ver off len ex el) = some (.sl false el c, [(l, k)]) := by simp only [snapU, hc, Option.map_some]
      obtain ⟨a, _, b, d⟩ := snapU_ok h hs hv
      exact ⟨a, b, d⟩
    · simp at he
  | t, .agg t' l, v', ks, cs, he, hv => by
    simp only [canonT] at he
    split at he
    · rename_i l' ks' hl'
      simp only [Option.some.injEq, Prod.mk.injEq] at he
      obtain ⟨rfl, rfl⟩ := he
      cases hv with
      | @agg _ _ fs _ ht htl hs hl hf hc =>
        obtain ⟨m, g, r⟩ := canonF_ok h hl' fun i v hi => by
          have hi' : i < fs.size := by rw [← hl]; exact (List.getElem?_eq_some_iff.1 hi).1
          obtain ⟨z, hz, _⟩ := hf i fs[i] (by simp [hi'])
          exact ⟨_, hc i _ _ z (by simp [hi']) hi hz⟩
        refine ⟨m, rfl, fun K hK hs' hf' => .agg ht htl hs (by rw [g, hl]) hf fun i f tv z hi ht' hz => ?_⟩
        have hlt : i < l.length := by rw [hl]; exact (Array.getElem?_eq_some_iff.1 hi).1
        exact (r K hK hs' hf' i l[i] tv _ (by simp [hlt]) ht' (hc i f _ z hi (by simp [hlt]) hz)).1
    · simp at he
  | t, .at v, v', ks, cs, he, hv => by
    simp only [canonT] at he
    split at he
    · rename_i hn
      split at he
      · simp at he
        obtain ⟨rfl, rfl⟩ := he
        refine ⟨by simp, rfl, fun K hK hs hf => ?_⟩
        have : v = .slice none 0 0 := by
          unfold nilOf at hn
          split at hn <;> first | rfl | simp at hn
        subst this
        cases hv
        exact .slnil
      · simp at he
    · simp at he
      obtain ⟨rfl, rfl⟩ := he
      exact ⟨by simp, rfl, fun K hK hs hf => hv.mono hK⟩
  | t, .sl ex el l, v', ks, cs, he, hv => by
    simp only [canonT, Option.some.injEq, Prod.mk.injEq] at he
    obtain ⟨rfl, rfl⟩ := he
    refine ⟨by simp, rfl, fun K hK hs hf => ?_⟩
    have := hv.mono hK
    cases this with
    | slnil => exact .slnil
    | sl a b c d e f g => exact .sl a b c d (fun e => by simp at e) f g
  | t, .arr _ _, v', ks, cs, he, hv => by
    simp only [canonT, Option.some.injEq, Prod.mk.injEq] at he
    obtain ⟨rfl, rfl⟩ := he
    exact ⟨by simp, rfl, fun K hK hs hf => hv.mono hK⟩
  | t, .ep _, v', ks, cs, he, hv => by
    simp only [canonT, Option.some.injEq, Prod.mk.injEq] at he
    obtain ⟨rfl, rfl⟩ := he
    exact ⟨by simp, rfl, fun K hK hs hf => hv.mono hK⟩
  | t, .ptr _ _ _ _, v', ks, cs, he, hv => by
    simp only [canonT, Option.some.injEq, Prod.mk.injEq] at he
    obtain ⟨rfl, rfl⟩ := he
    exact ⟨by simp, rfl, fun K hK hs hf => hv.mono hK⟩
  | t, .fn _ _ _, v', ks, cs, he, hv => by
    simp only [canonT, Option.some.injEq, Prod.mk.injEq] at he
    obtain ⟨rfl, rfl⟩ := he
    exact ⟨by simp, rfl, fun K hK hs hf => hv.mono hK⟩
  | t, .row _ _, v', ks, cs, he, hv => by simp [canonT] at he
  | t, .tup _, v', ks, cs, he, hv => by simp [canonT] at he
theorem canonF_ok {P : Program} {G : Gh} {st : Stk} {s : St} (h : Rel P G st s) : ∀ {t : TypeId} {i : Nat} {l l' : List TV} {ks : List (Nat × Nat)}, canonF P st t i l = some (l', ks) →
    (∀ (i : Nat) v, l[i]? = some v → ∃ cs, RC P (cfg G st s) v cs) →
    (∀ q ∈ ks, ∃ b, look st q.1 q.2 = some b) ∧ l'.length = l.length ∧ ∀ K : Cfg, CLe (cfg G st s) K → K.s = s → (∀ q ∈ ks, ∀ id, G.ρ q.1 q.2 = some id → K.fz id) → ∀ (i : Nat) v v' cs, l[i]? = some v → l'[i]? = some v' → RC P (cfg G st s) v cs → RC P K v' cs ∧ aggy v' = aggy v
  | t, i, [], l', ks, he, hv => by
    simp only [canonF, Option.some.injEq, Prod.mk.injEq] at he
    obtain ⟨rfl, rfl⟩ := he
    exact ⟨by simp, rfl, fun K hK hs hf i v v' cs hi => by simp at hi⟩
  | t, i, a :: l, l', ks, he, hv => by
    simp only [canonF] at he
    split at he
    · split at he
      · rename_i a' k1 r' k2 h1 h2
        simp only [Option.some.injEq, Prod.mk.injEq] at he
        obtain ⟨rfl, rfl⟩ := he
        obtain ⟨cs0, hv0⟩ := hv 0 a rfl
        obtain ⟨m1, g1, _⟩ := canonT_ok h h1 hv0
        obtain ⟨m2, g2, r2⟩ := canonF_ok h h2 fun i v hi => hv (i + 1) v (by simpa using hi)
        refine ⟨fun q hq => ?_, by simp [g2], fun K hK hs hf i v v' cs hi hi' hc => ?_⟩
        · rcases List.mem_append.1 hq with hq | hq
          · exact m1 q hq
          · exact m2 q hq
        · cases i with
          | zero =>
            simp at hi hi'
            subst hi
            subst hi'
            obtain ⟨_, _, r1⟩ := canonT_ok h h1 hc
            exact ⟨r1 K hK hs fun q hq => hf q (by simp [hq]), g1⟩
          | succ i => exact r2 K hK hs (fun q hq => hf q (by simp [hq])) i v v' cs (by simpa using hi) (by simpa using hi') hc
      · simp at he
    · simp at he
end
theorem canonT_tup {P : Program} {st : Stk} {t : TypeId} {v v' : TV} {ks : List (Nat × Nat)} (h : canonT P st t v = some (v', ks)) : isTup v = false := by cases v <;> first | rfl | simp [canonT] at h
theorem canonL_ok {P : Program} {G : Gh} {st : Stk} {s : St} (h : Rel P G st s) : ∀ {ts : List TypeId} {l l' : List TV} {ks : List (Nat × Nat)} {vs : List Value}, canonL P st ts l = some (l', ks) → RVL P (cfg G st s) l vs →
    (∀ q ∈ ks, ∃ b, look st q.1 q.2 = some b) ∧ ∀ K : Cfg, CLe (cfg G st s) K → K.s = s → (∀ q ∈ ks, ∀ id, G.ρ q.1 q.2 = some id → K.fz id) → RVL P K l' vs
  | ts, [], l', ks, vs, he, hv => by
    have : vs = [] := List.eq_nil_of_length_eq_zero (by simpa using hv.1.symm)
    subst this
    simp only [canonL, Option.some.injEq, Prod.mk.injEq] at he
    obtain ⟨rfl, rfl⟩ := he
    exact ⟨by simp, fun _ _ _ _ => .nil⟩
  | [], v :: l, l', ks, vs, he, hv => by simp [canonL] at he
  | t :: ts, v :: l, l', ks, vs, he, hv => by
    obtain ⟨w, ws, rfl, hw, hws⟩ := hv.inv
    simp only [canonL] at he
    split at he
    · rename_i v' k1 r' k2 h1 h2
      simp only [Option.some.injEq, Prod.mk.injEq] at he
      obtain ⟨rfl, rfl⟩ := he
      have hw1 := hw.to (canonT_tup h1)
      obtain ⟨m1, g1, r1⟩ := canonT_ok h h1 hw1.1
      obtain ⟨m2, r2⟩ := canonL_ok h h2 hws
      refine ⟨fun q hq => ?_, fun K hK hs hf => .cons (.of ⟨r1 K hK hs fun q hq => hf q (by simp [hq]), by rw [g1]; exact hw1.2⟩) (r2 K hK hs fun q hq => hf q (by simp [hq]))⟩
      rcases List.mem_append.1 hq with hq | hq
      · exact m1 q hq
      · exact m2 q hq
    · simp at he

/-- arguments may be told otherwise -/
theorem WTF_canon {P : Program} {M : Masks} {g : FuncId} {args args' : List TV} {ts : List TypeId} {st : Stk} {ks : List (Nat × Nat)} {Q : TV → List Box → Stk → Nat → Prop} (hc : canonL P st ts args = some (args', ks)) (h : WTF P M g args' (marks st ks) Q) : WTF P M g args st Q := by
  intro G s vals hr hl hv
  obtain ⟨m, r⟩ := canonL_ok hr hc hv
  obtain ⟨G1, r1, g1, f1, ρ1⟩ := hr.marks m
  refine (h G1 s vals r1 (marks_lev hl) (r _ g1.le rfl f1)).mono fun v s' ⟨G', out, R, st', lo, x, y, z⟩ => ⟨G', out, R, st', lo, ⟨x.rel, x.lev, x.len.trans g1.len, g1.le.trans x.le, fun l hl => (x.N l (by rw [g1.len]; exact hl)).trans (g1.N l hl), x.next, fun id hi hlo => x.keep id hi (fun hh => ?_), ?_⟩, y, z⟩
  · rw [g1.len] at hh
    rw [g1.N lo hh]
    exact hlo hh
  · have := x.low
    rw [g1.len] at this
    split
    · rename_i hh
      rw [if_pos hh, g1.N lo hh] at this
      exact this
    · rename_i hh
      rw [if_neg hh] at this
      exact this

/-! ### contracts -/
mutual
/-- says the same of any state -/
def flatT : TV → Bool
  | .at _ => true
  | .agg _ l => flatTL l
  | .tup l => flatTL l
  | _ => false
def flatTL : List TV → Bool
  | [] => true
  | v :: r => flatT v && flatTL r
end
theorem flatTL_mem {l : List TV} (h : flatTL l = true) : ∀ v ∈ l, flatT v = true := by
  induction l with
  | nil => simp
  | cons a l ih =>
    simp only [flatTL, Bool.and_eq_true] at h
    intro v hv
    rcases List.mem_cons.1 hv with rfl | hv
    · exact h.1
    · exact ih h.2 v hv
theorem RC.flat {P : Program} {K K' : Cfg} {tv : TV} {cs : List Value} (h : RC P K tv cs) : flatT tv = true → RC P K' tv cs := by
  induction h with
  | «at» h => intro _; exact .at h
  | agg ht htl hs hl hf _ ih => intro h; simp only [flatT] at h; exact .agg ht htl hs hl hf fun i f tv z a b c => ih i f tv z a b c (flatTL_mem h _ (List.mem_of_getElem? b))
  | _ => intro h; simp [flatT] at h
theorem RV.flat {P : Program} {K K' : Cfg} {tv : TV} {v : Value} (h : RV P K tv v) (hf : flatT tv = true) : RV P K' tv v := by
  cases ht : isTup tv with
  | false => have := h.to ht; exact .of ⟨this.1.flat hf, this.2⟩
  | true =>
    cases tv <;> simp [isTup] at ht
    obtain ⟨vs, rfl, a, b⟩ := h
    simp only [flatT] at hf
    exact ⟨vs, rfl, a, fun i t u p q => ⟨(b i t u p q).1.flat (flatTL_mem hf t (List.mem_of_getElem? p)), (b i t u p q).2⟩⟩

/-- g answers r, and turns nothing -/
def Pure (P : Program) (M : Masks) (g : FuncId) (args : List TV) (r : TV) : Prop := ∀ S, WTF P M g args S fun out R S' lo => out = r ∧ R = [] ∧ S' = S ∧ lo = S.length
theorem Rel.pushNil {P : Program} {G : Gh} {st : Stk} {s : St} (h : Rel P G st s) {n : Nat} (hn : n ≤ s.next) (hn' : ∀ l, l < st.length → G.N l ≤ n) : Rel P { G with N := fun l => if l = st.length then n else G.N l } ([] :: st) s := by
  have hNl : ∀ l, l < st.length → ({ G with N := fun l => if l = st.length then n else G.N l } : Gh).N l = G.N l := fun l hl => by show (if _ then _ else _) = _; rw [if_neg (by omega)]
  have hNt : ({ G with N := fun l => if l = st.length then n else G.N l } : Gh).N st.length = n := by show (if _ then _ else _) = _; rw [if_pos rfl]
  have hle : CLe (cfg G st s) (cfg { G with N := fun l => if l = st.length then n else G.N l } ([] :: st) s) :=
    ⟨fun id hi => ⟨hi, rfl⟩, fun l k n hn => ⟨n, by show vsOf _ _ _ = _; rw [vs_nil_top]; exact hn, Nat.le_refl _, fun _ => rfl⟩⟩
  refine ⟨h.fz, fun l k b hb => ?_, fun l k l' k' b b' id h1 h2 => h.inj l k l' k' b b' id (by rwa [look_nil_top] at h1) (by rwa [look_nil_top] at h2), fun l l' a b => ?_⟩
  · rw [look_nil_top] at hb
    exact (h.box l k b hb).mono hle rfl (hNl l (look_lt hb)) (Nat.le_refl _) (fun _ _ _ => rfl) (fun _ _ _ => Iff.rfl)
  · simp at b
    by_cases e : l' = st.length
    · subst e
      rw [hNt]
      by_cases e : l = st.length
      · subst e; rw [hNt]; omega
      · rw [hNl l (by omega)]
        exact ⟨hn' l (by omega), hn⟩
    · rw [hNl l (by omega), hNl l' (by omega)]
      exact h.N l l' a (by omega)
theorem call_pure {P : Program} {M : Masks} {g : FuncId} {args args' : List TV} {r : TV} {ts : List TypeId} {st : Stk} {ks : List (Nat × Nat)} {Q : TV → List Box → Stk → Nat → Prop} (hp : Pure P M g args' r) (hc : canonL P st ts args = some (args', ks))
    (hq : Q r [] (if flatT r then st else marks st ks) st.length) : WTF P M g args st Q := by
  cases hf : flatT r with
  | false =>
    rw [hf] at hq
    refine WTF_canon hc ((hp _).mono ?_)
    rintro o R st' lo ⟨rfl, rfl, rfl, rfl⟩
    have : (marks st ks).length = st.length := by
      have : ∀ (ks : List (Nat × Nat)) (st : Stk), (marks st ks).length = st.length := by
        intro ks
        induction ks with
        | nil => intro st; rfl
        | cons q ks ih =>
          intro st
          simp only [marks]
          rw [ih]
          unfold markS
          split
          · exact length_upd _ _ _ _
          · rfl
      exact this ks st
    rw [this]
    simpa using hq
  | true =>
    rw [hf] at hq
    intro G s vals hr hl hv
    obtain ⟨m, rr⟩ := canonL_ok hr hc hv
    obtain ⟨G1, r1, g1, f1, ρ1⟩ := hr.marks m
    refine (hp (marks st ks) G1 s vals r1 (marks_lev hl) (rr _ g1.le rfl f1)).mono fun v s' ⟨G', out, R, st', lo, x, y, z⟩ => ?_
    obtain ⟨rfl, rfl, rfl, rfl⟩ := z
    have hsame : ∀ id, id < s.next → s'.heap.get id = s.heap.get id := fun id hi => x.keep id hi (fun hh => by omega)
    obtain ⟨r2, c2⟩ := hr.later x.next hsame
    refine ⟨_, out, [], st, st.length, ⟨r2.pushNil (n := s.next) x.next (fun l hlt => (hr.N l l (Nat.le_refl _) hlt).2), hl, rfl, ⟨fun id hi => ⟨hi, hsame id (hr.fz id hi)⟩, fun l k n hn => ⟨n, by show vsOf _ _ _ = _; rw [vs_nil_top]; exact hn, Nat.le_refl _, fun _ => rfl⟩⟩, fun l hlt => by show (if _ then _ else _) = _; rw [if_neg (by omega)], x.next, fun id hi _ => hsame id hi, ?_⟩, y.flat hf, by simpa using hq⟩
    have := x.low
    rw [if_neg (by omega)] at this
    rw [if_neg (by omega)]
    exact this

theorem min_succ (n : Nat) : min n (n + 1) = n := by omega
theorem min_le {a b : Nat} (h : a ≤ b) : min a b = a := by omega

/-! ### zeros of arrays -/
theorem fits_arr {P : Program} {t el : TypeId} {n z : Nat} {l : List TV} (hu : P.underlying t = some (.array n el)) (hz : sizeT P el = some z) (hs : sizeT P t = some (n * z)) : fits P t (.arr el l) = (l.length == n) := by
  simp only [fits, hu, hz, hs]
  rw [Bool.eq_iff_iff]
  simp
  exact eq_comm
theorem parseA_repl (P : Program) (el : TypeId) (v : Value) (d : TypeDesc) (hu : P.underlying el = some d) (hd : (∀ fs, d ≠ .struct fs) ∧ ∀ k e, d ≠ .array k e) (ha : atom v = true) : ∀ (k n : Nat), k + 1 < n → parseA P n el 1 k (List.replicate k v) = some (List.replicate k (.at v))
  | 0, n, h => by
    obtain ⟨n, rfl⟩ : ∃ m, n = m + 1 := ⟨n - 1, by omega⟩
    simp [parseA]
  | k + 1, n, h => by
    obtain ⟨n, rfl⟩ : ∃ m, n = m + 1 + 1 := ⟨n - 2, by omega⟩
    have ih := parseA_repl P el v d hu hd ha k (n + 1) (by omega)
    have h1 : parseT P (n + 1) el [v] = some (.at v) := by
      simp only [parseT, hu]
      cases d <;> first | exact absurd rfl (hd.1 _) | exact absurd rfl (hd.2 _ _) | simp [ha]
    simp only [parseA, List.replicate_succ, List.take_succ_cons, List.take_zero, List.drop_succ_cons, List.drop_zero, h1, ih, solid, if_true]
theorem zeroArr {P : Program} {t el : TypeId} {n : Nat} {v : Value} {d : TypeDesc} (hz : zeroT P t = some (.agg (Array.replicate n v))) (ht : P.underlying t = some (.array n el)) (hs : sizeT P el = some 1) (hs2 : sizeT P t = some (n * 1)) (hu : P.underlying el = some d) (hd : (∀ fs, d ≠ .struct fs) ∧ ∀ k e, d ≠ .array k e) (ha : atom v = true) (hn : n + 3 < 100000) :
    zeroTV P t = some (.arr el (List.replicate n (.at v))) := by
  unfold zeroTV
  rw [hz]
  have : parseT P 100000 t (Value.agg (Array.replicate n v)).cells.toList = some (.arr el (List.replicate n (.at v))) := by
    show parseT P (99999 + 1) t (Array.replicate n v).toList = _
    simp only [parseT, ht, hs, Array.toList_replicate, List.length_replicate, Nat.mul_one, if_true]
    rw [parseA_repl P el v d hu hd ha n 99999 (by omega)]
    rfl
  simp only [this]
  rw [if_pos ⟨rfl, rfl, by simp [fits, ht, hs, hs2]⟩]

/-! ### words for walks -/
theorem tmin2 (k k' : IntKind) (x y : Int) : tMin true [.at (.int k x), .at (.int k' y)] = some (.at (.int k (min x y))) := by
  simp only [tMin, tMin.go, if_true]
  congr 3
  split <;> omega
theorem tmax2 (k k' : IntKind) (x y : Int) : tMin false [.at (.int k x), .at (.int k' y)] = some (.at (.int k (max x y))) := by
  simp only [tMin, tMin.go]
  congr 3
  simp
  split <;> omega
def intTV (n : Int) : TV := .at (.int .i64 n)
def boolTV (b : Bool) : TV := .at (.bool b)
theorem set_int (d : List Int) (i : Nat) (v : Int) : (d.map intTV).set i (.at (.int .i64 v)) = (d.set i v).map intTV := by rw [List.map_set]; rfl
theorem set_bool (d : List Bool) (i : Nat) (v : Bool) : (d.map boolTV).set i (.at (.bool v)) = (d.set i v).map boolTV := by rw [List.map_set]; rfl
theorem set_byte (d : List UInt8) (i : Nat) (v : UInt8) : (d.map byteTV).set i (.at (.int .u8 v.toNat)) = (d.set i v).map byteTV := by rw [List.map_set]; rfl
end Go.Tm
end

section
/- Walks over the tree machine, one operation at a time: slots as a list of those that are known. -/
set_option linter.unusedVariables false
set_option linter.unusedSimpArgs false
namespace Go.Tm
open Go.Eng

/-! ### 1. Known slots -/
abbrev AEnv := List (Nat × TV)
def ag : AEnv → Nat → Option TV
  | [], _ => none
  | (k, v) :: r, t => match Nat.beq k t with
    | true => some v
    | false => ag r t
def ao (A : AEnv) : Operand → Option TV
  | .tmp t => ag A t
  | .const v => match atom v with
    | true => some (.at v)
    | false => none
  | .func f => some (.fn f [] [])
  | .global _ => none
def aos (A : AEnv) : List Operand → Option (List TV)
  | [] => some []
  | x :: r => match ao A x with
    | some v => match aos A r with
      | some l => some (v :: l)
      | none => none
    | none => none
def aoO (A : AEnv) : Option Operand → Option (Option Value)
  | none => some none
  | some x => match ao A x with
    | some (.at v) => some (some v)
    | _ => none
def aparts (A : AEnv) : List (Nat × Operand) → Option (List (Nat × TV))
  | [] => some []
  | (i, x) :: r => match ao A x with
    | some v => match aparts A r with
      | some l => some ((i, v) :: l)
      | none => none
    | none => none
/-- the slots hold what is known -/
def Agr (te : TEnv) (A : AEnv) : Prop := ∀ k v, ag A k = some v → (te[k]?).getD none = some v
theorem Agr.ao {te : TEnv} {A : AEnv} (h : Agr te A) {x : Operand} {v : TV} (hx : ao A x = some v) : topd te x = some v := by
  cases x with
  | tmp t => exact h t v hx
  | const c =>
    simp only [Tm.ao] at hx
    simp only [topd]
    split at hx
    · rename_i e; rw [if_pos e]; exact hx
    · simp at hx
  | func f => exact hx
  | «global» g => simp [Tm.ao] at hx
theorem Agr.aos {te : TEnv} {A : AEnv} (h : Agr te A) : ∀ {xs : List Operand} {l : List TV}, aos A xs = some l → topds te xs = some l
  | [], l, hx => hx
  | x :: r, l, hx => by
    simp only [Tm.aos] at hx
    split at hx
    · rename_i v hv
      split at hx
      · rename_i l' hl
        simp only [topds, h.ao hv, h.aos hl]
        exact hx
      · simp at hx
    · simp at hx
theorem Agr.aoO {te : TEnv} {A : AEnv} (h : Agr te A) {x : Option Operand} {v : Option Value} (hx : aoO A x = some v) : topdO te x = some v := by
  cases x with
  | none => exact hx
  | some x =>
    simp only [Tm.aoO] at hx
    split at hx
    · rename_i w hw
      simp only [topdO, h.ao hw]
      exact hx
    · simp at hx
theorem Agr.aparts {te : TEnv} {A : AEnv} (h : Agr te A) : ∀ {xs : List (Nat × Operand)} {l : List (Nat × TV)}, aparts A xs = some l → tparts te xs = some l
  | [], l, hx => hx
  | (i, x) :: r, l, hx => by
    simp only [Tm.aparts] at hx
    split at hx
    · rename_i v hv
      split at hx
      · rename_i l' hl
        simp only [tparts, h.ao hv, h.aparts hl]
        exact hx
      · simp at hx
    · simp at hx
theorem Agr.nil (te : TEnv) : Agr te [] := fun k v h => by simp [ag] at h
/-- one list of slots out of another one -/
def Sub (E A : AEnv) : Prop := ∀ k v, ag E k = some v → ag A k = some v
theorem sub0 {A : AEnv} : Sub [] A := fun k v h => by simp [ag] at h
theorem subc {A E : AEnv} {k : Nat} {v : TV} (h : ag A k = some v) (t : Sub E A) : Sub ((k, v) :: E) A := fun j u hj => by
  simp only [ag] at hj
  split at hj
  · rename_i e
    have := Nat.eq_of_beq_eq_true e
    subst this
    simp at hj; subst hj
    exact h
  · exact t j u hj
theorem subr (A : AEnv) : Sub A A := fun _ _ h => h
theorem Agr.sub {te : TEnv} {A E : AEnv} (h : Agr te A) (hs : Sub E A) : Agr te E := fun k v hk => h k v (hs k v hk)
def AgN (n : Nat) (te : TEnv) (A : AEnv) : Prop := te.length = n ∧ Agr te A
theorem AgN.put {n : Nat} {te : TEnv} {A : AEnv} (h : AgN n te A) {d : Nat} (hd : Nat.blt d n = true) (v : TV) : AgN n (tput te (some d) (some v)) ((d, v) :: A) := by
  have hd' : d < te.length := by rw [h.1]; exact Nat.blt_eq ▸ hd
  refine ⟨by simp [tput, h.1], fun k u hk => ?_⟩
  simp only [ag] at hk
  simp only [tput]
  split at hk
  · rename_i e
    have := Nat.eq_of_beq_eq_true e
    subst this
    simp at hk; subst hk
    rw [List.getElem?_set_self hd']; rfl
  · rename_i e
    have hne : d ≠ k := fun hh => by subst hh; simp at e
    rw [List.getElem?_set_ne hne]
    exact h.2 k u hk
theorem AgN.del {n : Nat} {te : TEnv} {A : AEnv} (h : AgN n te A) {d : Option Nat} (hd : ∀ t, d = some t → ag A t = none) : AgN n (tput te d none) A := by
  cases d with
  | none => exact h
  | some d =>
    refine ⟨by simp [tput, h.1], fun k u hk => ?_⟩
    have hne : d ≠ k := fun hh => by subst hh; rw [hd d rfl] at hk; simp at hk
    simp only [tput]
    rw [List.getElem?_set_ne hne]
    exact h.2 k u hk

/-! ### 2. Judgements -/
section
variable (P : Program) (M : Masks) (f : FuncId) (n B : Nat)
structure QX (Q : TQ) (A : AEnv) (st : Stk) : Prop where
  of ::
  go : B < st.length → ∀ te lo, AgN n te A → B ≤ lo → Q te st lo
abbrev RX (ops : Array Oper) (l : List Oper) (Q : TQ) (A : AEnv) (st : Stk) : Prop := QX n B (fun te st lo => RT P M ops l te st lo Q) A st
abbrev DX (ops : Array Oper) (b : Array Nat) (l : List Oper) (i : Nat) (d : List (Nat × Bool)) (Q : TQ) (A : AEnv) (st : Stk) : Prop := QX n B (fun te st lo => DT P M ops b l i d te st lo Q) A st
abbrev CX (c : Code) (Q : Ex → TQ) (A : AEnv) (st : Stk) : Prop := QX n B (fun te st lo => CT P M f c te st lo Q) A st
/-- an operation that is no call -/
def SO (A : AEnv) (st : Stk) (op : Op) (v : Option TV) (st' : Stk) (w : Nat) : Prop :=
  (∀ te, Agr te A → stepO P st op te = some (v, st', w)) ∧ (∀ te, (tcallee te ⟨none, op, 0, "", #[], none⟩) = none) ∧ st'.length = st.length
end
variable {P : Program} {M : Masks} {f : FuncId} {n B : Nat}
theorem QX.sub {Q : TQ} {A E : AEnv} {st : Stk} (hs : Sub E A) (h : QX n B Q E st) : QX n B Q A st := .of fun hb te lo hA => h.go hb te lo ⟨hA.1, hA.2.sub hs⟩

/-! ### 3. Regions in order -/
section
variable {ops : Array Oper} {l : List Oper} {Q : TQ} {A : AEnv} {st st' : Stk} {op : Op} {ty : TypeId} {pos : String} {af : Array Edge}
theorem rx_nil (h : QX n B Q A st) : RX P M n B ops [] Q A st := h
theorem tcallee_op {te : TEnv} {o : Oper} {op : Op} (ho : o.op = op) (h : tcallee te ⟨none, op, 0, "", #[], none⟩ = none) : tcallee te o = none := by
  unfold tcallee at h ⊢
  rw [ho]
  exact h
theorem rx_step {o : Oper} {v : Option TV} {w : Nat} (ho : o.op = op) (hg : o.guard = none) (hs : SO P A st op v st' w) (hw : B < st.length → B ≤ w) (A' : AEnv) (hA : ∀ te, AgN n te A → AgN n (tput te o.dst v) A') (h : RX P M n B ops l Q A' st') : RX P M n B ops (o :: l) Q A st := by
  refine QX.of fun hb te lo hAg hlo => ?_
  have hb' : B < st'.length := by rw [hs.2.2]; exact hb
  have := h.go hb' _ (min lo w) (hA te hAg) (by have := hw hb; omega)
  simp only [RT, twanted, hg, tcallee_op ho (hs.2.1 te), stepT, ho, hs.1 te hAg.2]
  exact this
/-- a value, nothing written -/
theorem rq {d : Nat} {v : TV} (hs : SO P A st op (some v) st' st.length) (hd : Nat.blt d n = true) (h : RX P M n B ops l Q ((d, v) :: A) st') : RX P M n B ops (⟨some d, op, ty, pos, af, none⟩ :: l) Q A st :=
  rx_step rfl rfl hs (fun h => by omega) _ (fun te hA => hA.put hd v) h
/-- a value, and a box of one's own is written -/
theorem rw' {d : Nat} {v : TV} {w : Nat} (hs : SO P A st op (some v) st' w) (hw : B ≤ w) (hd : Nat.blt d n = true) (h : RX P M n B ops l Q ((d, v) :: A) st') : RX P M n B ops (⟨some d, op, ty, pos, af, none⟩ :: l) Q A st :=
  rx_step rfl rfl hs (fun _ => hw) _ (fun te hA => hA.put hd v) h
/-- a store -/
theorem rs {w : Nat} (hs : SO P A st op none st' w) (hw : B ≤ w) (h : RX P M n B ops l Q A st') : RX P M n B ops (⟨none, op, ty, pos, af, none⟩ :: l) Q A st :=
  rx_step rfl rfl hs (fun _ => hw) _ (fun te hA => hA) h
/-- a guard that lets it happen -/
theorem gy {dst : Option Tmp} {j t : Nat} {want b : Bool} (hj : (ops[j]?).bind (·.dst) = some t) (hb : ag A t = some (boolTV b)) (hw : b = want) (h : RX P M n B ops (⟨dst, op, ty, pos, af, none⟩ :: l) Q A st) : RX P M n B ops (⟨dst, op, ty, pos, af, some (j, want)⟩ :: l) Q A st := by
  refine QX.of fun hb' te lo hAg hlo => ?_
  have := h.go hb' te lo hAg hlo
  simp only [RT] at this ⊢
  have h1 : twanted ops (⟨dst, op, ty, pos, af, some (j, want)⟩ : Oper) te = some true := by
    simp only [twanted, hj, hAg.2 _ _ hb, boolTV, hw, BEq.rfl]
  rw [h1]
  simp only [twanted] at this
  exact this
theorem gn {dst : Option Tmp} {j t : Nat} {want b : Bool} (hj : (ops[j]?).bind (·.dst) = some t) (hb : ag A t = some (boolTV b)) (hw : b = !want) (hd : ∀ t, dst = some t → ag A t = none) (h : RX P M n B ops l Q A st) : RX P M n B ops (⟨dst, op, ty, pos, af, some (j, want)⟩ :: l) Q A st := by
  refine QX.of fun hb' te lo hAg hlo => ?_
  have := h.go hb' _ lo (hAg.del hd) hlo
  simp only [RT]
  have h1 : twanted ops (⟨dst, op, ty, pos, af, some (j, want)⟩ : Oper) te = some false := by
    simp only [twanted, hj, hAg.2 _ _ hb, boolTV, hw]
    cases want <;> rfl
  rw [h1]
  exact this
theorem dnone {A : AEnv} {d : Nat} (h : ag A d = none) : ∀ t, some d = some t → ag A t = none := fun t e => by simp at e; subst e; exact h
theorem dnil {A : AEnv} : ∀ t, (none : Option Tmp) = some t → ag A t = none := fun t e => by simp at e
end

/-! ### 4. Regions that draw their order -/
section
variable {ops : Array Oper} {bs : Array Nat} {l : List Oper} {i : Nat} {dn : List (Nat × Bool)} {Q : TQ} {A : AEnv} {st st' : Stk} {op : Op} {ty : TypeId} {pos : String} {af : Array Edge}
theorem dx_nil (h : QX n B Q A st) : DX P M n B ops bs [] i dn Q A st := h
theorem dx_step {o : Oper} {v : Option TV} {w : Nat} {loud : Bool} (ho : o.op = op) (hg : o.guard = none) (hs : SO P A st op v st' w) (hw : B < st.length → B ≤ w) (hl : decide (w < st.length) = loud) (hk : loudOK dn bs i loud = true) (hst : still op = false) (A' : AEnv) (hA : ∀ te, AgN n te A → AgN n (tput te o.dst v) A') (h : DX P M n B ops bs l (i + 1) ((i, loud) :: dn) Q A' st') : DX P M n B ops bs (o :: l) i dn Q A st := by
  refine QX.of fun hb te lo hAg hlo => ?_
  have hb' : B < st'.length := by rw [hs.2.2]; exact hb
  have := h.go hb' _ (min lo w) (hA te hAg) (by have := hw hb; omega)
  simp only [DT, twanted, hg, ho, hst, tcallee_op ho (hs.2.1 te), stepT, hs.1 te hAg.2, hl]
  exact ⟨hk, this⟩
theorem dz {d : Nat} {v : TV} (hs : SO P A st op (some v) st' st.length) (hst : still op = true) (hd : Nat.blt d n = true) (h : DX P M n B ops bs l (i + 1) dn Q ((d, v) :: A) st') : DX P M n B ops bs (⟨some d, op, ty, pos, af, none⟩ :: l) i dn Q A st := by
  refine QX.of fun hb te lo hAg hlo => ?_
  have hb' : B < st'.length := by rw [hs.2.2]; exact hb
  have := h.go hb' _ (min lo st.length) (hAg.put hd v) (by omega)
  simp only [DT, twanted, hst, stepT, hs.1 te hAg.2]
  exact this
theorem dq {d : Nat} {v : TV} (hs : SO P A st op (some v) st' st.length) (hst : still op = false) (hk : loudOK dn bs i false = true) (hd : Nat.blt d n = true) (h : DX P M n B ops bs l (i + 1) ((i, false) :: dn) Q ((d, v) :: A) st') : DX P M n B ops bs (⟨some d, op, ty, pos, af, none⟩ :: l) i dn Q A st :=
  dx_step rfl rfl hs (fun h => by omega) (by simp) hk hst _ (fun te hA => hA.put hd v) h
theorem dw {d : Nat} {v : TV} {w : Nat} (hs : SO P A st op (some v) st' w) (hw : B ≤ w) (hw2 : w < st.length) (hst : still op = false) (hk : loudOK dn bs i true = true) (hd : Nat.blt d n = true) (h : DX P M n B ops bs l (i + 1) ((i, true) :: dn) Q ((d, v) :: A) st') : DX P M n B ops bs (⟨some d, op, ty, pos, af, none⟩ :: l) i dn Q A st :=
  dx_step rfl rfl hs (fun _ => hw) (by simp [hw2]) hk hst _ (fun te hA => hA.put hd v) h
theorem ds {w : Nat} (hs : SO P A st op none st' w) (hw : B ≤ w) (hw2 : w < st.length) (hst : still op = false) (hk : loudOK dn bs i true = true) (h : DX P M n B ops bs l (i + 1) ((i, true) :: dn) Q A st') : DX P M n B ops bs (⟨none, op, ty, pos, af, none⟩ :: l) i dn Q A st :=
  dx_step rfl rfl hs (fun _ => hw) (by simp [hw2]) hk hst _ (fun te hA => hA) h
theorem dgy {dst : Option Tmp} {j t : Nat} {want b : Bool} (hj : (ops[j]?).bind (·.dst) = some t) (hb : ag A t = some (boolTV b)) (hw : b = want) (h : DX P M n B ops bs (⟨dst, op, ty, pos, af, none⟩ :: l) i dn Q A st) : DX P M n B ops bs (⟨dst, op, ty, pos, af, some (j, want)⟩ :: l) i dn Q A st := by
  refine QX.of fun hb' te lo hAg hlo => ?_
  have := h.go hb' te lo hAg hlo
  simp only [DT] at this ⊢
  have h1 : twanted ops (⟨dst, op, ty, pos, af, some (j, want)⟩ : Oper) te = some true := by
    simp only [twanted, hj, hAg.2 _ _ hb, boolTV, hw, BEq.rfl]
  rw [h1]
  simp only [twanted] at this
  exact this
theorem dgn {dst : Option Tmp} {j t : Nat} {want b : Bool} (hj : (ops[j]?).bind (·.dst) = some t) (hb : ag A t = some (boolTV b)) (hw : b = !want) (hd : ∀ t, dst = some t → ag A t = none) (h : DX P M n B ops bs l (i + 1) dn Q A st) : DX P M n B ops bs (⟨dst, op, ty, pos, af, some (j, want)⟩ :: l) i dn Q A st := by
  refine QX.of fun hb' te lo hAg hlo => ?_
  have := h.go hb' _ lo (hAg.del hd) hlo
  simp only [DT]
  have h1 : twanted ops (⟨dst, op, ty, pos, af, some (j, want)⟩ : Oper) te = some false := by
    simp only [twanted, hj, hAg.2 _ _ hb, boolTV, hw]
    cases want <;> rfl
  rw [h1]
  exact this
end
end Go.Tm
end

section
/- Walks: what each operation gives. -/
set_option linter.unusedVariables false
set_option linter.unusedSimpArgs false
namespace Go.Tm
open Go.Eng

/-! ### 1. Words for states -/
theorem lk_own {F : List Box} {T : Stk} {N k : Nat} {b : Box} (hN : T.length = N) (h : F[k]? = some b) : look (F :: T) N k = some b := by subst hN; rw [look_top]; exact h
theorem lk_low {F : List Box} {T : Stk} {l k : Nat} {b : Box} (h : look T l k = some b) : look (F :: T) l k = some b := by rw [look_below (look_lt h)]; exact h
inductive Snoc {α : Type} : List α → α → List α → Prop where
  | nil {b : α} : Snoc [] b [b]
  | cons {a b : α} {l r : List α} : Snoc l b r → Snoc (a :: l) b (a :: r)
theorem Snoc.eq {α : Type} {l r : List α} {b : α} (h : Snoc l b r) : l ++ [b] = r := by induction h <;> simp_all
inductive SetK {α : Type} : List α → Nat → α → List α → Prop where
  | zero {a b : α} {l : List α} : SetK (a :: l) 0 b (b :: l)
  | succ {a b : α} {l r : List α} {k : Nat} : SetK l k b r → SetK (a :: l) (k + 1) b (a :: r)
theorem SetK.eq {α : Type} {l r : List α} {k : Nat} {b : α} (h : SetK l k b r) : l.set k b = r := by induction h <;> simp_all
theorem up_own {F F' : List Box} {T : Stk} {N k : Nat} {b : Box} (hN : T.length = N) (h : SetK F k b F') : upd (F :: T) N k b = F' :: T := by subst hN; simp [upd, h.eq]
theorem up_low {F : List Box} {T T' : Stk} {l k : Nat} {b : Box} (hl : l < T.length) (h : upd T l k b = T') : upd (F :: T) l k b = F :: T' := by
  simp only [upd]; rw [if_neg (by omega), h]

/-! ### 2. Questions inside a box -/
def GetP (c : TV) (p : List Pe) (v : TV) : Prop := getP c p = some v
theorem gp0 {v : TV} : getP v [] = some v := by cases v <;> rfl
theorem gpf {t : TypeId} {l : List TV} {i : Nat} {u v : TV} {p : List Pe} (hi : l[i]? = some u) (h : getP u p = some v) : getP (.agg t l) (.fld t i :: p) = some v := by simp only [getP, if_true, hi, h]
theorem gpr {el : TypeId} {l : List TV} {i : Nat} {u v : TV} {p : List Pe} (hi : l[i]? = some u) (h : getP u p = some v) : getP (.row el l) (.idx el i :: p) = some v := by simp only [getP, if_true, hi, h]
theorem gpa {el : TypeId} {l : List TV} {i : Nat} {u v : TV} {p : List Pe} (hi : l[i]? = some u) (h : getP u p = some v) : getP (.arr el l) (.idx el i :: p) = some v := by simp only [getP, if_true, hi, h]
theorem sp0 {c v : TV} : setP c [] v = some v := by cases c <;> rfl
theorem spf {t : TypeId} {l l' : List TV} {i : Nat} {u u' x : TV} {p : List Pe} (hi : l[i]? = some u) (h : setP u p x = some u') (hs : SetK l i u' l') : setP (.agg t l) (.fld t i :: p) x = some (.agg t l') := by simp only [setP, if_true, hi, h, Option.map_some, hs.eq]
theorem spr {el : TypeId} {l : List TV} {i : Nat} {u u' x : TV} {p : List Pe} {l' : List TV} (hi : l[i]? = some u) (h : setP u p x = some u') (hl : l.set i u' = l') : setP (.row el l) (.idx el i :: p) x = some (.row el l') := by simp only [setP, if_true, hi, h, Option.map_some, hl]
theorem spa {el : TypeId} {l : List TV} {i : Nat} {u u' x : TV} {p : List Pe} {l' : List TV} (hi : l[i]? = some u) (h : setP u p x = some u') (hl : l.set i u' = l') : setP (.arr el l) (.idx el i :: p) x = some (.arr el l') := by simp only [setP, if_true, hi, h, Option.map_some, hl]
theorem map_at {α : Type} {g : α → TV} {l : List α} {i : Nat} {x : α} (h : l[i]? = some x) : (l.map g)[i]? = some (g x) := by rw [List.getElem?_map, h]; rfl
theorem map_set' {α : Type} {g : α → TV} (l : List α) (i : Nat) (x : α) : (l.map g).set i (g x) = (l.set i x).map g := by rw [List.map_set]

/-! ### 3. Operations -/
def strTV (s : List UInt8) : TV := .at (.string ⟨s.toArray⟩)
def intK (k : IntKind) (n : Int) : TV := .at (.int k n)
section
variable {P : Program} {A : AEnv} {st : Stk}
theorem so_move {x : Operand} {v : TV} (hx : ao A x = some v) : SO P A st (.move x) (some v) st st.length := ⟨fun te h => by simp only [stepO, h.ao hx, quiet], fun _ => rfl, rfl⟩
theorem so_assign {x : Operand} {v : TV} (hx : ao A x = some v) : SO P A st (.assign x) (some v) st st.length := ⟨fun te h => by simp only [stepO, h.ao hx, quiet], fun _ => rfl, rfl⟩
theorem so_pick_t {c x y : Operand} {b : Bool} {v : TV} (hc : ao A c = some (boolTV b)) (hb : b = true) (hx : ao A x = some v) : SO P A st (.pick c x y) (some v) st st.length := ⟨fun te h => by simp only [stepO, h.ao hc, boolTV, hb, h.ao hx, quiet], fun _ => rfl, rfl⟩
theorem so_pick_f {c x y : Operand} {b : Bool} {v : TV} (hc : ao A c = some (boolTV b)) (hb : b = false) (hy : ao A y = some v) : SO P A st (.pick c x y) (some v) st st.length := ⟨fun te h => by simp only [stepO, h.ao hc, boolTV, hb, h.ao hy, quiet], fun _ => rfl, rfl⟩
theorem so_bin {op : BinOp} {t t2 : TypeId} {x y : Operand} {a b v : Value} (hx : ao A x = some (.at a)) (hy : ao A y = some (.at b)) (hv : aBin P op t a b = some v) (ha : atom v = true) : SO P A st (.binOp op t x y t2) (some (.at v)) st st.length := ⟨fun te h => by simp only [stepO, h.ao hx, h.ao hy, tBin, hv, ha, if_true, quiet], fun _ => rfl, rfl⟩
theorem so_quo {t t2 : TypeId} {x y : Operand} {k : IntKind} {a b : Int} (hx : ao A x = some (.at (.int k a))) (hy : ao A y = some (.at (.int k b))) (hb : b ≠ 0) : SO P A st (.binOp .quo t x y t2) (some (.at (.int k (k.wrap (a.tdiv b))))) st st.length :=
  so_bin hx hy (by simp [aBin, hb]) rfl
theorem so_rem {t t2 : TypeId} {x y : Operand} {k : IntKind} {a b : Int} (hx : ao A x = some (.at (.int k a))) (hy : ao A y = some (.at (.int k b))) (hb : b ≠ 0) : SO P A st (.binOp .rem t x y t2) (some (.at (.int k (a.tmod b)))) st st.length :=
  so_bin hx hy (by simp [aBin, hb]) rfl
theorem so_shl {t t2 : TypeId} {x y : Operand} {k k' : IntKind} {a b : Int} (hx : ao A x = some (.at (.int k a))) (hy : ao A y = some (.at (.int k' b))) (hb : 0 ≤ b) : SO P A st (.binOp .shl t x y t2) (some (.at (.int k (k.wrap (a * 2 ^ (min b.toNat k.bits)))))) st st.length :=
  so_bin hx hy (by simp only [aBin]; rw [if_neg (by omega)]) rfl
theorem so_shr {t t2 : TypeId} {x y : Operand} {k k' : IntKind} {a b : Int} (hx : ao A x = some (.at (.int k a))) (hy : ao A y = some (.at (.int k' b))) (hb : 0 ≤ b) : SO P A st (.binOp .shr t x y t2) (some (.at (.int k (a.fdiv (2 ^ (min b.toNat k.bits)))))) st st.length :=
  so_bin hx hy (by simp only [aBin]; rw [if_neg (by omega)]) rfl
theorem beq_dec {α : Type} [BEq α] [LawfulBEq α] [DecidableEq α] (a b : α) : (a == b) = decide (a = b) := by
  by_cases h : a = b <;> simp [h]
theorem so_seq {t t2 : TypeId} {x y : Operand} {a b : List UInt8} (hx : ao A x = some (strTV a)) (hy : ao A y = some (strTV b)) : SO P A st (.binOp .eql t x y t2) (some (boolTV (decide (a = b)))) st st.length :=
  so_bin hx hy (by simp only [aBin, toList_mk, beq_dec]) rfl
theorem so_sne {t t2 : TypeId} {x y : Operand} {a b : List UInt8} (hx : ao A x = some (strTV a)) (hy : ao A y = some (strTV b)) : SO P A st (.binOp .neq t x y t2) (some (boolTV (!decide (a = b)))) st st.length :=
  so_bin hx hy (by simp only [aBin, toList_mk, beq_dec]) rfl
theorem so_slt {t t2 : TypeId} {x y : Operand} {a b : List UInt8} (hx : ao A x = some (strTV a)) (hy : ao A y = some (strTV b)) : SO P A st (.binOp .lss t x y t2) (some (boolTV (Op.bytesLess a b))) st st.length :=
  so_bin hx hy (by simp only [aBin, toList_mk]) rfl
theorem so_sle {t t2 : TypeId} {x y : Operand} {a b : List UInt8} (hx : ao A x = some (strTV a)) (hy : ao A y = some (strTV b)) : SO P A st (.binOp .leq t x y t2) (some (boolTV (Op.bytesLess a b || decide (a = b)))) st st.length :=
  so_bin hx hy (by simp only [aBin, toList_mk, beq_dec]) rfl
theorem so_sgt {t t2 : TypeId} {x y : Operand} {a b : List UInt8} (hx : ao A x = some (strTV a)) (hy : ao A y = some (strTV b)) : SO P A st (.binOp .gtr t x y t2) (some (boolTV (!(Op.bytesLess a b || decide (a = b))))) st st.length :=
  so_bin hx hy (by simp only [aBin, toList_mk, beq_dec]) rfl
theorem so_sge {t t2 : TypeId} {x y : Operand} {a b : List UInt8} (hx : ao A x = some (strTV a)) (hy : ao A y = some (strTV b)) : SO P A st (.binOp .geq t x y t2) (some (boolTV (!(Op.bytesLess a b)))) st st.length :=
  so_bin hx hy (by simp only [aBin, toList_mk]) rfl
theorem so_sadd {t t2 : TypeId} {x y : Operand} {a b : List UInt8} (hx : ao A x = some (strTV a)) (hy : ao A y = some (strTV b)) (h : a.length + b.length ≤ 9223372036854775807) : SO P A st (.binOp .add t x y t2) (some (strTV (a ++ b))) st st.length :=
  so_bin hx hy (by
    simp only [aBin]
    have e1 : (⟨a.toArray⟩ : ByteArray).size = a.length := by simp [ByteArray.size]
    have e2 : (⟨b.toArray⟩ : ByteArray).size = b.length := by simp [ByteArray.size]
    have e3 : IntKind.i64.max = 9223372036854775807 := by decide
    rw [if_neg (by rw [e1, e2, e3]; omega)]
    rfl) rfl
/-- a slice, a pointer or a function against nil -/
theorem so_nil {op : BinOp} {t t2 : TypeId} {x y : Operand} {a : TV} {b : Value} {r : Bool} (hx : ao A x = some a) (hy : ao A y = some (.at b)) (hn : nonNil st a = some (kindT P t)) (hb : nilOf b = some (kindT P t)) (hr : (op = .eql ∧ r = false) ∨ (op = .neq ∧ r = true)) (hat : ∀ u, a ≠ .at u) (hag : ∀ u l, a ≠ .agg u l) : SO P A st (.binOp op t x y t2) (some (boolTV r)) st st.length := by
  refine ⟨fun te h => ?_, fun _ => rfl, rfl⟩
  simp only [stepO, h.ao hx, h.ao hy]
  have : tBin P st op t a (.at b) = some (boolTV r) := by
    cases a <;> first | exact absurd rfl (hat _) | exact absurd rfl (hag _ _) | (simp only [tBin]; rw [if_pos ⟨hn, hb⟩]; rcases hr with ⟨rfl, rfl⟩ | ⟨rfl, rfl⟩ <;> rfl)
  rw [this]; rfl
theorem so_un {op : UnOp} {t : TypeId} {x : Operand} {a v : Value} (hx : ao A x = some (.at a)) (hv : aUn op a = some v) (ha : atom v = true) : SO P A st (.unOp op t x) (some (.at v)) st st.length := ⟨fun te h => by simp only [stepO, h.ao hx, hv, ha, if_true, quiet], fun _ => rfl, rfl⟩
theorem so_agg {op : BinOp} {t t2 t3 : TypeId} {x y : Operand} {a b : TV} {la lb : List TV} {fa fb : List Value} {v : Value} (ea : a = TV.agg t3 la) (eb : b = TV.agg t3 lb) (hx : ao A x = some a) (hy : ao A y = some b) (h1 : flatC P a = some fa) (h2 : flatC P b = some fb) (hv : aBin P op t (.agg fa.toArray) (.agg fb.toArray) = some v) (ha : atom v = true) : SO P A st (.binOp op t x y t2) (some (.at v)) st st.length := by
  subst ea; subst eb
  exact ⟨fun te h => by simp only [stepO, h.ao hx, h.ao hy, tBin, h1, h2, hv, ha, if_true, quiet], fun _ => rfl, rfl⟩
theorem so_cint {s d : TypeId} {x : Operand} {k k' : IntKind} {n : Int} (hx : ao A x = some (.at (.int k n))) (h1 : kindT P s = 2) (h2 : intT P d = some k') : SO P A st (.convert s d x) (some (.at (.int k' (k'.wrap n)))) st st.length := ⟨fun te h => by simp [stepO, h.ao hx, tConvert, h1, h2, quiet], fun _ => rfl, rfl⟩
theorem bytesOf_map (l : List UInt8) : bytesOfTV (l.map byteTV) = some l := by
  induction l with
  | nil => rfl
  | cons a l ih => simp [byteTV, bytesOfTV] at ih ⊢; rw [ih]
theorem so_b2s {s d el z b : Nat} {x : Operand} {v : TV} {l : List UInt8} (hx : ao A x = some v) (h1 : kindT P s = 3) (h2 : slT P s = some (el, z, b)) (h3 : intT P el = some .u8) (h4 : kindT P d = 1) (he : elems st el v = some (l.map byteTV)) : SO P A st (.convert s d x) (some (strTV l)) st st.length := ⟨fun te h => by simp [stepO, h.ao hx, tConvert, h1, h2, h3, h4, he, bytesOf_map, quiet, strTV], fun _ => rfl, rfl⟩
theorem so_s2b {s d el b : Nat} {x : Operand} {l : List UInt8} (hx : ao A x = some (strTV l)) (h1 : kindT P s = 1) (h4 : kindT P d = 3) (h2 : slT P d = some (el, 1, b)) (h3 : intT P el = some .u8) : SO P A st (.convert s d x) (some (.sl false el (l.map byteTV))) st st.length := ⟨fun te h => by simp [stepO, h.ao hx, tConvert, strTV, h1, h2, h3, h4, quiet], fun _ => rfl, rfl⟩
theorem so_s2s {s d : Nat} {x : Operand} {l : List UInt8} (hx : ao A x = some (strTV l)) (h1 : kindT P s = 1) (h4 : kindT P d = 1) : SO P A st (.convert s d x) (some (strTV l)) st st.length := ⟨fun te h => by simp [stepO, h.ao hx, tConvert, strTV, h1, h4, quiet], fun _ => rfl, rfl⟩
theorem so_fn {g : FuncId} {x y : Array Operand} {a b : List TV} (ha : aos A x.toList = some a) (hb : aos A y.toList = some b) (h1 : (a.all (fun v => !aggy v && !isTup v) && b.all (fun v => !aggy v && !isTup v)) = true) : SO P A st (.makeFunc (.func g) x y) (some (.fn g a b)) st st.length := ⟨fun te h => by simp only [stepO, h.aos ha, h.aos hb, h1, if_true, quiet], fun _ => rfl, rfl⟩
theorem so_nck {x : Operand} {l k ver : Nat} {p : List Pe} (hx : ao A x = some (.ptr l k ver p)) (hl : live st l k ver = true) : SO P A st (.nilCheck x) (some (.ptr l k ver p)) st st.length := ⟨fun te h => by simp only [stepO, h.ao hx, hl, if_true, quiet], fun _ => rfl, rfl⟩
theorem so_nckE {x : Operand} {v : TV} (hx : ao A x = some (.ep v)) : SO P A st (.nilCheck x) (some (.ep v)) st st.length := ⟨fun te h => by simp only [stepO, h.ao hx, quiet], fun _ => rfl, rfl⟩
theorem so_nckF {x : Operand} {g : FuncId} {a b : List TV} (hx : ao A x = some (.fn g a b)) : SO P A st (.nilCheck x) (some (.fn g a b)) st st.length := ⟨fun te h => by simp only [stepO, h.ao hx, quiet], fun _ => rfl, rfl⟩
theorem live_of {st : Stk} {l k ver : Nat} {b : Box} (h : look st l k = some b) (hv : ver = vers b.c) : live st l k ver = true := by simp [live, h, hv]

theorem so_alloc {t : TypeId} {z : TV} {F F' : List Box} {T : Stk} {N k : Nat} (hz : zeroTV P t = some z) (hN : T.length = N) (hk : F.length = k) (hF : Snoc F ⟨z, false⟩ F') : SO P A (F :: T) (.alloc t) (some (.ptr N k 0 [])) (F' :: T) (F :: T).length :=
  ⟨fun te h => by simp [stepO, hz, hN, hk, topLen, push, hF.eq], fun _ => rfl, by simp⟩
theorem so_box {t : TypeId} {x : Operand} {v : TV} {F F' : List Box} {T : Stk} {N k : Nat} (hx : ao A x = some v) (ht : isTup v = false) (hv : vers v = 0) (hN : T.length = N) (hk : F.length = k) (hF : Snoc F ⟨v, false⟩ F') : SO P A (F :: T) (.box t x) (some (.ptr N k 0 [])) (F' :: T) (F :: T).length :=
  ⟨fun te h => by simp [stepO, h.ao hx, ht, hv, hN, hk, topLen, push, hF.eq], fun _ => rfl, by simp⟩
/-- the parts of a literal -/
inductive BL (P : Program) (t : TypeId) : List TV → List (Nat × TV) → List TV → Prop where
  | nil {z : List TV} : BL P t z [] z
  | cons {z z' r : List TV} {i : Nat} {v : TV} {l : List (Nat × TV)} {ft : TypeId} (hf : ftypeT P t i = some ft) (hv : fits P ft v = true) (hs : SetK z i v z') (h : BL P t z' l r) : BL P t z ((i, v) :: l) r
theorem SetK.lt {α : Type} {l r : List α} {k : Nat} {b : α} (h : SetK l k b r) : k < l.length := by induction h <;> simp_all
theorem BL.eq {t : TypeId} {z r : List TV} {l : List (Nat × TV)} (h : BL P t z l r) : buildL P t z l = some r := by
  induction h with
  | nil => rfl
  | cons hf hv hs _ ih => simp only [buildL, hf]; rw [if_pos ⟨hv, hs.lt⟩, hs.eq]; exact ih
theorem so_build {t : TypeId} {ps : Array (Nat × Operand)} {l : List (Nat × TV)} {z r : List TV} (hl : aparts A ps.toList = some l) (hz : zeroTV P t = some (.agg t z)) (hs : sizedT P t = true) (hb : BL P t z l r) : SO P A st (.build t ps) (some (.agg t r)) st st.length :=
  ⟨fun te h => by simp [stepO, h.aparts hl, hz, hs, hb.eq, quiet], fun _ => rfl, rfl⟩
/-- a literal of a slice, all parts told in their order -/
def enumL : Nat → List TV → List (Nat × TV)
  | _, [] => []
  | i, v :: r => (i, v) :: enumL (i + 1) r
theorem enumL_fst (i : Nat) (l : List TV) : ((enumL i l).map (·.1)).length = l.length ∧ (enumL i l).map (·.2) = l ∧ ∀ m : List TV, m.length = l.length → ((enumL i l).map (·.1)).zip m = enumL i m := by
  induction l generalizing i with
  | nil => exact ⟨rfl, rfl, fun m hm => by cases m <;> simp_all [enumL]⟩
  | cons a l ih =>
    obtain ⟨h1, h2, h3⟩ := ih (i + 1)
    refine ⟨by simp [enumL] at h1 ⊢; exact h1, by simp [enumL, h2], fun m hm => ?_⟩
    cases m with
    | nil => simp at hm
    | cons b m => simp [enumL]; exact h3 m (by simpa using hm)
theorem buildA_enum {P : Program} {l : List TV} {el : TypeId} (hf : ∀ v ∈ l, fits P el v = true ∧ solid v = true) : ∀ (p z : List TV), z.length = l.length → buildA P el (p ++ z) (enumL p.length l) = some (p ++ l) := by
  induction l with
  | nil => intro p z hz; simp at hz; simp [enumL, buildA, hz]
  | cons a l ih =>
    intro p z hz
    cases z with
    | nil => simp at hz
    | cons b z =>
      simp only [enumL, buildA]
      rw [if_pos ⟨(hf a (by simp)).1, (hf a (by simp)).2, by simp⟩]
      have e : (p ++ b :: z).set p.length a = (p ++ [a]) ++ z := by simp
      rw [e]
      have := ih (fun v hv => hf v (by simp [hv])) (p ++ [a]) z (by simpa using hz)
      simp at this
      simpa using this
theorem so_bslice {t el z b m : Nat} {ps : Array (Nat × Operand)} {l l' : List TV} {zero : TV} {ks : List (Nat × Nat)} (hl : aparts A ps.toList = some (enumL 0 l)) (hs : slT P t = some (el, z, b)) (hz : zeroTV P el = some zero) (hsn : snapL st l = some (l', ks)) (hlen : l'.length = l.length) (hm : l.length = m) (hsz : m * z ≤ 2 ^ 24) (hf : ∀ v ∈ l', fits P el v = true ∧ solid v = true) (hst : (marks st ks).length = st.length) :
    SO P A st (.buildSlice t m ps) (some (.sl true el l')) (marks st ks) st.length := by
  refine ⟨fun te h => ?_, fun _ => rfl, hst⟩
  obtain ⟨h1, h2, h3⟩ := enumL_fst 0 l
  have hb : buildA P el (reps m zero) (enumL 0 l') = some l' := by
    have := buildA_enum (P := P) (l := l') hf [] (reps m zero) (by simp [reps, hlen, hm])
    simpa using this
  simp only [stepO, h.aparts hl, hs, hz, h2, hsn]
  rw [if_neg (by simp at h1; simp [hlen]; have : (enumL 0 l).length = l.length := by simpa using h1
                 omega), h3 l' hlen, hb]
theorem snapL_solid {l : List TV} (h : solidL l = true) : snapL st l = some (l, []) := by simp [snapL, h]
theorem so_load {t : TypeId} {a : Operand} {l k ver : Nat} {p : List Pe} {b : Box} {v : TV} (ha : ao A a = some (.ptr l k ver p)) (hl : look st l k = some b) (hver : ver = vers b.c) (hg : getP b.c p = some v) (hf : fits P t v = true) : SO P A st (.load t a) (some v) st st.length :=
  ⟨fun te h => by simp only [stepO, h.ao ha, hl, hver, hg, hf, if_true, quiet], fun _ => rfl, rfl⟩
theorem so_loadE {t : TypeId} {a : Operand} {v : TV} (ha : ao A a = some (.ep v)) (hf : fits P t v = true) : SO P A st (.load t a) (some v) st st.length :=
  ⟨fun te h => by simp only [stepO, h.ao ha, hf, if_true, quiet], fun _ => rfl, rfl⟩
/-- a store of something solid -/
theorem so_store {t : TypeId} {a x : Operand} {l k ver : Nat} {p : List Pe} {b : Box} {v old c : TV} {st' : Stk} (ha : ao A a = some (.ptr l k ver p)) (hx : ao A x = some v) (hl : look st l k = some b) (hver : ver = vers b.c) (hsh : b.sh = false) (hg : getP b.c p = some old) (hs : solid v = true) (ho : fits P t old = true) (hf : fits P t v = true) (hset : setP b.c p v = some c) (hu : upd st l k ⟨c, false⟩ = st') : SO P A st (.store t a x) none st' l := by
  refine ⟨fun te h => ?_, fun _ => rfl, by rw [← hu]; exact length_upd _ _ _ _⟩
  have hsn : (if (hasIdx p || decide (l + 1 < st.length)) = true then snap st v else some (v, [])) = some (v, []) := by
    split
    · simp [snap, hs]
    · rfl
  simp only [stepO, h.ao ha, h.ao hx, hl, hver, hsh, hg, hsn]
  simp [marks, hset, hu, ho, hf, hs]
/-- a store into a variable of one's own -/
theorem so_store0 {t : TypeId} {a x : Operand} {l k ver : Nat} {p : List Pe} {b : Box} {v old c : TV} {st' : Stk} (ha : ao A a = some (.ptr l k ver p)) (hx : ao A x = some v) (hl : look st l k = some b) (hver : ver = vers b.c) (hsh : b.sh = false) (hg : getP b.c p = some old) (hi : hasIdx p = false) (hlev : st.length = l + 1) (ho : fits P t old = true) (hf : fits P t v = true) (hset : setP b.c p v = some c) (hu : upd st l k ⟨c, false⟩ = st') : SO P A st (.store t a x) none st' l := by
  refine ⟨fun te h => ?_, fun _ => rfl, by rw [← hu]; exact length_upd _ _ _ _⟩
  have e : (hasIdx p || decide (l + 1 < st.length)) = false := by simp [hi]; omega
  simp only [stepO, h.ao ha, h.ao hx, hl, hver, hsh, hg, e]
  simp [marks, hset, hu, ho, hf]
/-- a store of something that is taken as it is now -/
theorem so_storeS {t : TypeId} {a x : Operand} {l k ver : Nat} {p : List Pe} {b : Box} {v v' old c : TV} {ks : List (Nat × Nat)} {st' : Stk} (ha : ao A a = some (.ptr l k ver p)) (hx : ao A x = some v) (hl : look st l k = some b) (hver : ver = vers b.c) (hsh : b.sh = false) (hg : getP b.c p = some old) (hi : (hasIdx p || decide (l + 1 < st.length)) = true) (hsn : snap st v = some (v', ks)) (hk : ks.contains (l, k) = false) (hs : solid v' = true) (ho : fits P t old = true) (hf : fits P t v' = true) (hset : setP b.c p v' = some c) (hu : upd (marks st ks) l k ⟨c, false⟩ = st') (hlen : st'.length = st.length) : SO P A st (.store t a x) none st' l := by
  refine ⟨fun te h => ?_, fun _ => rfl, hlen⟩
  simp only [stepO, h.ao ha, h.ao hx, hl, hver, hsh, hg, hi, hsn]
  simp [hset, hu, ho, hf, hs]
  simpa using hk
theorem so_faddr {t : TypeId} {x : Operand} {i l k ver : Nat} {p : List Pe} (hx : ao A x = some (.ptr l k ver p)) (hok : fieldOK P t i = true) (hlive : live st l k ver = true) : SO P A st (.fieldAddr t x i) (some (.ptr l k ver (p ++ [.fld t i]))) st st.length :=
  ⟨fun te h => by simp only [stepO, hok, h.ao hx, hlive, if_true, quiet], fun _ => rfl, rfl⟩
theorem so_faddrE {t : TypeId} {x : Operand} {i : Nat} {l : List TV} {v : TV} (hx : ao A x = some (.ep (.agg t l))) (hok : fieldOK P t i = true) (hi : l[i]? = some v) : SO P A st (.fieldAddr t x i) (some (.ep v)) st st.length :=
  ⟨fun te h => by simp only [stepO, hok, h.ao hx, hi, if_true, quiet, Option.map_some], fun _ => rfl, rfl⟩
theorem so_field {t ft : TypeId} {x : Operand} {i : Nat} {l : List TV} {v : TV} (hx : ao A x = some (.agg t l)) (hi : l[i]? = some v) (hft : ftypeT P t i = some ft) (hf : fits P ft v = true) : SO P A st (.field t x i) (some v) st st.length :=
  ⟨fun te h => by simp only [stepO, h.ao hx, hi, hft, hf, if_true, quiet], fun _ => rfl, rfl⟩
theorem so_extract {x : Operand} {i : Nat} {l : List TV} {v : TV} (hx : ao A x = some (.tup l)) (hi : l[i]? = some v) : SO P A st (.extract x i) (some v) st st.length :=
  ⟨fun te h => by simp only [stepO, h.ao hx, hi, quiet], fun _ => rfl, rfl⟩
end
end Go.Tm
end

section
/- Walks: slices, lengths, places, growing. -/
set_option linter.unusedVariables false
set_option linter.unusedSimpArgs false
namespace Go.Tm
open Go.Eng

/-- an element, by a number of the program -/
def idx {α : Type} (l : List α) (j : Int) : Option α := if 0 ≤ j then l[j.toNat]? else none
theorem idx_some {α : Type} {l : List α} {j : Int} {x : α} (h : idx l j = some x) : 0 ≤ j ∧ l[j.toNat]? = some x ∧ j < l.length := by
  unfold idx at h
  split at h
  · rename_i h0
    have := (List.getElem?_eq_some_iff.1 h).1
    exact ⟨h0, h, by omega⟩
  · simp at h
theorem idx_lt {α : Type} {l : List α} {j : Int} (h : 0 ≤ j) (h2 : j < l.length) : idx l j = some (l[j.toNat]'(by omega)) := by
  unfold idx; rw [if_pos h]; exact List.getElem?_eq_getElem (by omega)
theorem idx_nat {α : Type} {l : List α} {k : Nat} : idx l (k : Int) = l[k]? := by unfold idx; rw [if_pos (by omega)]; simp
section
variable {P : Program} {A : AEnv} {st : Stk}
def cLen (x : Operand) (t : TypeId) : Op := .call ⟨.builtin .len, #[x], #[t]⟩
theorem so_lenM {x : Operand} {t el : TypeId} {ex : Bool} {α : Type} {g : α → TV} {l : List α} (hx : ao A x = some (.sl ex el (l.map g))) (hk : kindT P t = 3) : SO P A st (.call ⟨.builtin .len, #[x], #[t]⟩) (some (intTV l.length)) st st.length :=
  ⟨fun te h => by simp [stepO, topds, h.ao hx, tLen, hk, quiet, intTV], fun _ => rfl, rfl⟩
theorem so_lenL {x : Operand} {t el : TypeId} {ex : Bool} {l : List TV} (hx : ao A x = some (.sl ex el l)) (hk : kindT P t = 3) : SO P A st (.call ⟨.builtin .len, #[x], #[t]⟩) (some (intTV l.length)) st st.length :=
  ⟨fun te h => by simp [stepO, topds, h.ao hx, tLen, hk, quiet, intTV], fun _ => rfl, rfl⟩
theorem so_lenN {x : Operand} {t : TypeId} (hx : ao A x = some (.at (.slice none 0 0))) (hk : kindT P t = 3) : SO P A st (.call ⟨.builtin .len, #[x], #[t]⟩) (some (intTV 0)) st st.length :=
  ⟨fun te h => by simp [stepO, topds, h.ao hx, tLen, hk, quiet, intTV], fun _ => rfl, rfl⟩
theorem so_lenR {x : Operand} {t el l k ver off len : Nat} {ex : Bool} (hx : ao A x = some (.ref l k ver off len ex el)) (hl : live st l k ver = true) (hk : kindT P t = 3) : SO P A st (.call ⟨.builtin .len, #[x], #[t]⟩) (some (intTV len)) st st.length :=
  ⟨fun te h => by simp [stepO, topds, h.ao hx, tLen, hk, hl, quiet, intTV], fun _ => rfl, rfl⟩
theorem so_lenS {x : Operand} {t : TypeId} {s : List UInt8} (hx : ao A x = some (strTV s)) (hk : kindT P t = 1) : SO P A st (.call ⟨.builtin .len, #[x], #[t]⟩) (some (intTV s.length)) st st.length :=
  ⟨fun te h => by simp [stepO, topds, h.ao hx, strTV, tLen, hk, quiet, intTV, ByteArray.size], fun _ => rfl, rfl⟩
theorem so_lenA {x : Operand} {t el el' n z : TypeId} {l : List TV} (hx : ao A x = some (.arr el l)) (hk : arT P t = some (n, el', z)) : SO P A st (.call ⟨.builtin .len, #[x], #[t]⟩) (some (intTV n)) st st.length :=
  ⟨fun te h => by simp [stepO, topds, h.ao hx, tLen, hk, quiet, intTV], fun _ => rfl, rfl⟩
theorem so_ixM {x i : Operand} {t el z b : TypeId} {k : IntKind} {j : Int} {ex : Bool} {α : Type} {g : α → TV} {l : List α} {v : α} (hx : ao A x = some (.sl ex el (l.map g))) (hi : ao A i = some (.at (.int k j))) (hs : slT P t = some (el, z, b)) (hj : idx l j = some v) : SO P A st (.indexAddr t x i) (some (.ep (g v))) st st.length := by
  obtain ⟨h0, h1, _⟩ := idx_some hj
  exact ⟨fun te h => by simp [stepO, h.ao hx, h.ao hi, tIndexAddr, hs, h0, h1, quiet], fun _ => rfl, rfl⟩
theorem so_ixL {x i : Operand} {t el z b : TypeId} {k : IntKind} {j : Int} {ex : Bool} {l : List TV} {v : TV} (hx : ao A x = some (.sl ex el l)) (hi : ao A i = some (.at (.int k j))) (hs : slT P t = some (el, z, b)) (hj : idx l j = some v) : SO P A st (.indexAddr t x i) (some (.ep v)) st st.length := by
  obtain ⟨h0, h1, _⟩ := idx_some hj
  exact ⟨fun te h => by simp [stepO, h.ao hx, h.ao hi, tIndexAddr, hs, h0, h1, quiet], fun _ => rfl, rfl⟩
theorem so_ixR {x i : Operand} {t el z b l m ver off len : Nat} {k : IntKind} {j : Int} {ex : Bool} (hx : ao A x = some (.ref l m ver off len ex el)) (hi : ao A i = some (.at (.int k j))) (hs : slT P t = some (el, z, b)) (hl : live st l m ver = true) (hj : 0 ≤ j ∧ j < len) : SO P A st (.indexAddr t x i) (some (.ptr l m ver [.idx el (off + j.toNat)])) st st.length :=
  ⟨fun te h => by simp [stepO, h.ao hx, h.ao hi, tIndexAddr, hs, hl, hj, quiet], fun _ => rfl, rfl⟩
theorem so_ixR0 {x i : Operand} {t el z b l m ver len : Nat} {k : IntKind} {j : Int} {ex : Bool} (hx : ao A x = some (.ref l m ver 0 len ex el)) (hi : ao A i = some (.at (.int k j))) (hs : slT P t = some (el, z, b)) (hl : live st l m ver = true) (hj : 0 ≤ j ∧ j < len) : SO P A st (.indexAddr t x i) (some (.ptr l m ver [.idx el j.toNat])) st st.length := by
  have := so_ixR (st := st) (off := 0) hx hi hs hl hj
  rwa [Nat.zero_add] at this
theorem so_ixP {x i : Operand} {t el z n l m ver : Nat} {p : List Pe} {k : IntKind} {j : Int} (hx : ao A x = some (.ptr l m ver p)) (hi : ao A i = some (.at (.int k j))) (hs : arT P t = some (n, el, z)) (hl : live st l m ver = true) (hj : 0 ≤ j ∧ j < n) : SO P A st (.indexAddr t x i) (some (.ptr l m ver (p ++ [.idx el j.toNat]))) st st.length :=
  ⟨fun te h => by simp [stepO, h.ao hx, h.ao hi, tIndexAddr, hs, hl, hj, quiet], fun _ => rfl, rfl⟩
theorem so_ixE {x i : Operand} {t el z n : Nat} {k : IntKind} {j : Int} {l : List TV} {v : TV} (hx : ao A x = some (.ep (.arr el l))) (hi : ao A i = some (.at (.int k j))) (hs : arT P t = some (n, el, z)) (hn : n = l.length) (hj : idx l j = some v) : SO P A st (.indexAddr t x i) (some (.ep v)) st st.length := by
  obtain ⟨h0, h1, _⟩ := idx_some hj
  exact ⟨fun te h => by simp [stepO, h.ao hx, h.ao hi, tIndexAddr, hs, h0, h1, hn, quiet], fun _ => rfl, rfl⟩
theorem so_ixA {x i : Operand} {t el z n : Nat} {k : IntKind} {j : Int} {l : List TV} {v : TV} (hx : ao A x = some (.arr el l)) (hi : ao A i = some (.at (.int k j))) (hs : arT P t = some (n, el, z)) (hn : n = l.length) (hj : idx l j = some v) (hf : fits P el v = true) : SO P A st (.index t x i) (some v) st st.length := by
  obtain ⟨h0, h1, _⟩ := idx_some hj
  exact ⟨fun te h => by simp [stepO, h.ao hx, h.ao hi, tIndex, hs, h0, h1, hn, hf, quiet], fun _ => rfl, rfl⟩
theorem so_ixS {x i : Operand} {t : Nat} {k : IntKind} {j : Int} {s : List UInt8} {v : UInt8} (hx : ao A x = some (strTV s)) (hi : ao A i = some (.at (.int k j))) (hk : kindT P t = 1) (hj : idx s j = some v) : SO P A st (.index t x i) (some (byteTV v)) st st.length := by
  obtain ⟨h0, h1, h2⟩ := idx_some hj
  have hb : (⟨s.toArray⟩ : ByteArray)[j.toNat]? = some v := by
    have hlt : j.toNat < s.length := by omega
    have h3 : j.toNat < (⟨s.toArray⟩ : ByteArray).size := by simp [ByteArray.size]; exact hlt
    rw [getElem?_pos (⟨s.toArray⟩ : ByteArray) j.toNat h3]
    rw [List.getElem?_eq_getElem hlt] at h1
    simp at h1
    show some (s.toArray[j.toNat]) = some v
    simp [h1]
  exact ⟨fun te h => by simp [stepO, h.ao hx, h.ao hi, strTV, tIndex, hk, h0, hb, quiet, byteTV], fun _ => rfl, rfl⟩

/-! ### parts of slices -/
theorem ab0 {n : Nat} : aBounds n none none = some (0, n) := rfl
theorem abl {n : Nat} {k : IntKind} {l : Int} (h : 0 ≤ l ∧ l ≤ n) : aBounds n (some (.int k l)) none = some (l.toNat, n) := by simp only [aBounds]; rw [if_pos h]
theorem abh {n : Nat} {k : IntKind} {x : Int} (h : 0 ≤ x ∧ x ≤ n) : aBounds n none (some (.int k x)) = some (0, x.toNat) := by simp only [aBounds]; rw [if_pos h]
theorem ablh {n : Nat} {k k' : IntKind} {l x : Int} (h : 0 ≤ l ∧ l ≤ x ∧ x ≤ n) : aBounds n (some (.int k l)) (some (.int k' x)) = some (l.toNat, x.toNat) := by
  simp only [aBounds]; rw [if_pos (by omega), if_pos (by omega)]
theorem topdO_none {e : TEnv} : topdO e none = some none := rfl
def sub {α : Type} (l : List α) (a b : Nat) : List α := (l.drop a).take (b - a)
theorem so_slM {x : Operand} {t el z bb a b : Nat} {lo hi : Option Operand} {vl vh : Option Value} {α : Type} {g : α → TV} {l : List α} (hx : ao A x = some (.sl false el (l.map g))) (h1 : aoO A lo = some vl) (h2 : aoO A hi = some vh) (hs : slT P t = some (el, z, bb)) (hb : aBounds l.length vl vh = some (a, b)) : SO P A st (.slice t x lo hi none) (some (.sl false el ((sub l a b).map g))) st st.length :=
  ⟨fun te h => by simp [stepO, h.ao hx, h.aoO h1, h.aoO h2, topdO_none, tSlice, hs, hb, quiet, sub, List.map_take, List.map_drop], fun _ => rfl, rfl⟩
theorem so_slR {x : Operand} {t el z bb a b l k ver off len : Nat} {ex : Bool} {lo hi : Option Operand} {vl vh : Option Value} (hx : ao A x = some (.ref l k ver off len ex el)) (h1 : aoO A lo = some vl) (h2 : aoO A hi = some vh) (hs : slT P t = some (el, z, bb)) (hl : live st l k ver = true) (hn : len ≠ 0) (hb : aBounds len vl vh = some (a, b)) : SO P A st (.slice t x lo hi none) (some (.ref l k ver (off + a) (b - a) (ex && (b == len)) el)) st st.length :=
  ⟨fun te h => by simp [stepO, h.ao hx, h.aoO h1, h.aoO h2, topdO_none, tSlice, hs, hb, quiet, hl, hn], fun _ => rfl, rfl⟩
theorem so_slP {x : Operand} {t el z n a b l k : Nat} {lo hi : Option Operand} {vl vh : Option Value} {bx : Box} {c : List TV} (hx : ao A x = some (.ptr l k 0 [])) (h1 : aoO A lo = some vl) (h2 : aoO A hi = some vh) (hs : arT P t = some (n, el, z)) (hl : look st l k = some bx) (hc : bx.c = .arr el c) (hn : c.length = n) (hb : aBounds n vl vh = some (a, b)) : SO P A st (.slice t x lo hi none) (some (.ref l k 0 a (b - a) (b == n) el)) st st.length :=
  ⟨fun te h => by simp [stepO, h.ao hx, h.aoO h1, h.aoO h2, topdO_none, tSlice, hs, hb, hl, hc, hn, quiet], fun _ => rfl, rfl⟩
theorem so_slS {x : Operand} {t a b : Nat} {lo hi : Option Operand} {vl vh : Option Value} {s : List UInt8} (hx : ao A x = some (strTV s)) (h1 : aoO A lo = some vl) (h2 : aoO A hi = some vh) (hs : kindT P t = 1) (hb : aBounds s.length vl vh = some (a, b)) : SO P A st (.slice t x lo hi none) (some (strTV (sub s a b))) st st.length := by
  have e : (⟨s.toArray⟩ : ByteArray).size = s.length := by simp [ByteArray.size]
  have e2 : (⟨s.toArray⟩ : ByteArray).extract a b = ⟨(sub s a b).toArray⟩ := by
    apply ByteArray.ext
    rw [ByteArray.data_extract]
    simp [sub]
  exact ⟨fun te h => by simp [stepO, h.ao hx, strTV, h.aoO h1, h.aoO h2, topdO_none, tSlice, hs, e, hb, e2, quiet], fun _ => rfl, rfl⟩

/-! ### making and growing -/
theorem so_make {x y : Operand} {t el z bb N k : Nat} {n m : Int} {F F' : List Box} {T : Stk} {α : Type} {g : α → TV} {v : α} (hx : ao A x = some (intTV n)) (hy : ao A y = some (intTV m)) (hs : slT P t = some (el, z, bb)) (hz : zeroTV P el = some (g v)) (hc : 0 ≤ n ∧ n ≤ m ∧ (bb : Int) * m ≤ 281474976710656) (hN : T.length = N) (hk : F.length = k) (hF : Snoc F ⟨.row el ((List.replicate n.toNat v).map g), false⟩ F') :
    SO P A (F :: T) (.makeSlice t x y) (some (.ref N k (List.replicate n.toNat v).length 0 (List.replicate n.toNat v).length (n == m) el)) (F' :: T) (F :: T).length :=
  ⟨fun te h => by simp [stepO, h.ao hx, h.ao hy, intTV, hs, hz, hc, hN, hk, topLen, push, ← hF.eq], fun _ => rfl, by simp⟩
theorem elems_sl {st : Stk} {el : TypeId} {ex : Bool} {l : List TV} : elems st el (.sl ex el l) = some l := by simp [elems]
theorem elems_nil {st : Stk} {el : TypeId} {α : Type} {g : α → TV} : elems st el (.at (.slice none 0 0)) = some (([] : List α).map g) := rfl
theorem elems_row {st : Stk} {l k el ver off len : Nat} {ex sh : Bool} {α : Type} {g : α → TV} {c : List α} (hl : look st l k = some ⟨.row el (c.map g), sh⟩) (hv : ver = c.length) (hb : off + len ≤ c.length) : elems st el (.ref l k ver off len ex el) = some ((sub c off (off + len)).map g) := by
  simp [elems, hl, hv, hb, sub, List.map_take, List.map_drop]
theorem elems_all {st : Stk} {l k el ver len : Nat} {ex sh : Bool} {α : Type} {g : α → TV} {c : List α} (hl : look st l k = some ⟨.row el (c.map g), sh⟩) (hv : ver = c.length) (hb : len = c.length) : elems st el (.ref l k ver 0 len ex el) = some (c.map g) := by
  subst hv; subst hb
  have := elems_row (ex := ex) hl (off := 0) (len := c.length) (ver := c.length) rfl (by omega)
  simpa [sub] using this
theorem elems_arr {st : Stk} {l k el off len : Nat} {ex sh : Bool} {α : Type} {g : α → TV} {c : List α} (hl : look st l k = some ⟨.arr el (c.map g), sh⟩) (hb : off + len ≤ c.length) : elems st el (.ref l k 0 off len ex el) = some ((sub c off (off + len)).map g) := by
  simp [elems, hl, hb, sub, List.map_take, List.map_drop]
theorem elems_arrAll {st : Stk} {l k el len : Nat} {ex sh : Bool} {α : Type} {g : α → TV} {c : List α} (hl : look st l k = some ⟨.arr el (c.map g), sh⟩) (hb : len = c.length) : elems st el (.ref l k 0 0 len ex el) = some (c.map g) := by
  subst hb
  have := elems_arr (ex := ex) hl (off := 0) (len := c.length) (by omega)
  simpa [sub] using this
theorem addends_of {el : TypeId} {v : TV} {m : List TV} (h : elems st el v = some m) : addends st P el v = some m := by
  unfold addends
  split
  · rename_i b; simp [elems] at h
  · exact h
theorem solid_map {α : Type} {g : α → TV} (h : ∀ x, solid (g x) = true) (l : List α) : solidL (l.map g) = true := solidL_of fun v hv => by
  obtain ⟨x, _, rfl⟩ := List.mem_map.1 hv
  exact h x
/-- append to nil (or to a literal without elements) -/
theorem so_appN {x y : Operand} {t t2 el z bb N k : Nat} {F F' : List Box} {T : Stk} {α : Type} {g : α → TV} {m : List α} {w u : TV} (hx : ao A x = some w) (hw : w = .at (.slice none 0 0) ∨ w = .sl true el []) (hy : ao A y = some u) (hk2 : kindT P t2 ≠ 2 ∧ kindT P t2 ≠ 0) (hs : slT P t = some (el, z, bb)) (he : addends (F :: T) P el u = some (m.map g)) (hg : ∀ x, solid (g x) = true) (hc : ¬ (2 * m.length + 400) * bb > 281474976710656) (hN : T.length = N) (hk : F.length = k) (hF : Snoc F ⟨.row el (m.map g), false⟩ F') :
    SO P A (F :: T) (.call ⟨.builtin .append, #[x, y], #[t, t2]⟩) (some (.ref N k m.length 0 m.length false el)) (F' :: T) (F :: T).length := by
  refine ⟨fun te h => ?_, fun _ => rfl, by simp⟩
  have hsz : ¬ (281474976710656 < (2 * m.length + 400) * bb) := hc
  have : tAppend P (F :: T) t t2 w u = some (.ref N k m.length 0 m.length false el, F' :: T, (F :: T).length) := by
    unfold tAppend
    rw [if_neg (by simp [hk2]), hs]
    simp only [he, solid_map hg]
    rcases hw with rfl | rfl <;> simp [hsz, hN, hk, topLen, push, ← hF.eq]
  simp [stepO, topds, h.ao hx, h.ao hy, this]
/-- append to a slice of one's own -/
theorem so_appR {x y : Operand} {t t2 el z bb l k ver len : Nat} {ex : Bool} {α : Type} {g : α → TV} {c m : List α} {u : TV} {st' : Stk} (hx : ao A x = some (.ref l k ver 0 len ex el)) (hy : ao A y = some u) (hk2 : kindT P t2 ≠ 2 ∧ kindT P t2 ≠ 0) (hs : slT P t = some (el, z, bb)) (hl : look st l k = some ⟨.row el (c.map g), false⟩) (hv : ver = c.length) (hlen : len = c.length) (he : addends st P el u = some (m.map g)) (hg : ∀ x, solid (g x) = true) (hc : ¬ (2 * (c.length + m.length) + 400) * bb > 281474976710656) (hu : upd st l k ⟨.row el ((c ++ m).map g), false⟩ = st') :
    SO P A st (.call ⟨.builtin .append, #[x, y], #[t, t2]⟩) (some (.ref l k (c ++ m).length 0 (c ++ m).length false el)) st' l := by
  refine ⟨fun te h => ?_, fun _ => rfl, by rw [← hu]; exact length_upd _ _ _ _⟩
  have hsz : ¬ (281474976710656 < (2 * (c.length + m.length) + 400) * bb) := hc
  have hst : st.length ≠ 0 := by have := look_lt hl; omega
  have : tAppend P st t t2 (.ref l k ver 0 len ex el) u = some (.ref l k (c ++ m).length 0 (c ++ m).length false el, st', l) := by
    unfold tAppend
    rw [if_neg (by simp [hk2]), hs]
    simp only [he, solid_map hg, hl]
    subst hv; subst hlen
    simp [hsz, ← hu]
  simp [stepO, topds, h.ao hx, h.ao hy, this]
  intro e
  exact absurd (by rw [e]; rfl) hst
theorem so_min {x y : Operand} {ts : Array TypeId} {k k' : IntKind} {a b : Int} (hx : ao A x = some (.at (.int k a))) (hy : ao A y = some (.at (.int k' b))) : SO P A st (.call ⟨.builtin .min, #[x, y], ts⟩) (some (.at (.int k (min a b)))) st st.length :=
  ⟨fun te h => by simp only [stepO, topds, h.ao hx, h.ao hy, tmin2, quiet], fun _ => rfl, rfl⟩
theorem so_max {x y : Operand} {ts : Array TypeId} {k k' : IntKind} {a b : Int} (hx : ao A x = some (.at (.int k a))) (hy : ao A y = some (.at (.int k' b))) : SO P A st (.call ⟨.builtin .max, #[x, y], ts⟩) (some (.at (.int k (max a b)))) st st.length :=
  ⟨fun te h => by simp only [stepO, topds, h.ao hx, h.ao hy, tmax2, quiet], fun _ => rfl, rfl⟩
end
end Go.Tm
end

section
/- Walks: what may be told otherwise; calls; code; loops; functions. -/
set_option linter.unusedVariables false
set_option linter.unusedSimpArgs false
namespace Go.Tm
open Go.Eng

/-! ### 1. The same, told otherwise -/
/-- values: another telling of the same -/
structure CV (v v' : TV) : Prop where
  tup : isTup v' = isTup v
  agg : aggy v' = aggy v
  rc : ∀ P K cs, RC P K v cs → RC P K v' cs
theorem cvr {v : TV} : CV v v := ⟨rfl, rfl, fun _ _ _ h => h⟩
theorem CV.trans {a b c : TV} (h : CV a b) (k : CV b c) : CV a c := ⟨k.tup.trans h.tup, k.agg.trans h.agg, fun P K cs x => k.rc P K cs (h.rc P K cs x)⟩
theorem cvn {el : TypeId} {ex : Bool} : CV (.at (.slice none 0 0)) (.sl ex el []) := ⟨rfl, rfl, fun P K cs h => by cases h; exact .slnil⟩
theorem cvx {el : TypeId} {ex : Bool} {l : List TV} : CV (.sl ex el l) (.sl false el l) := ⟨rfl, rfl, fun P K cs h => by
  cases h with
  | slnil => exact .slnil
  | sl a b c d e f g => exact .sl a b c d (fun e => by simp at e) f g⟩
inductive CVL : List TV → List TV → Prop where
  | nil : CVL [] []
  | cons {a b : TV} {l r : List TV} : CV a b → CVL l r → CVL (a :: l) (b :: r)
theorem CVL.len {l r : List TV} (h : CVL l r) : r.length = l.length := by induction h <;> simp_all
theorem CVL.at {l r : List TV} (h : CVL l r) : ∀ (i : Nat) b, r[i]? = some b → ∃ a, l[i]? = some a ∧ CV a b := by
  induction h with
  | nil => intro i b h; simp at h
  | cons h _ ih =>
    intro i b hi
    cases i with
    | zero => simp at hi; subst hi; exact ⟨_, rfl, h⟩
    | succ i => simpa using ih i b (by simpa using hi)
theorem cvsl {el : TypeId} {ex : Bool} {l r : List TV} (h : CVL l r) (hs : solidL r = true) : CV (.sl ex el l) (.sl false el r) := ⟨rfl, rfl, fun P K cs hc => by
  cases hc with
  | slnil => cases h; exact .slnil
  | sl a b c d e f g =>
    rw [← h.len] at b ⊢
    exact .sl a b c d (fun e => by simp at e) hs fun i tv hi => by
      obtain ⟨u, hu, hcv⟩ := h.at i tv hi
      exact hcv.rc _ _ _ (g i u hu)⟩
theorem cvagg {t : TypeId} {l r : List TV} (h : CVL l r) : CV (.agg t l) (.agg t r) := ⟨rfl, rfl, fun P K cs hc => by
  cases hc with
  | agg ht htl hs hl hf hh =>
    exact .agg ht htl hs (by rw [h.len, hl]) hf fun i f tv z hi ht' hz => by
      obtain ⟨u, hu, hcv⟩ := h.at i tv ht'
      exact hcv.rc _ _ _ (hh i f u z hi hu hz)⟩
/-- results -/
def CO (v v' : TV) : Prop := ∀ P K w, RV P K v w → RV P K v' w
theorem co1 {v v' : TV} (ht : isTup v = false) (h : CV v v') : CO v v' := fun P K w hw => by
  have := hw.to ht
  exact .of ⟨h.rc _ _ _ this.1, by rw [h.agg]; exact this.2⟩
theorem cor {v : TV} : CO v v := fun _ _ _ h => h
theorem cot {l r : List TV} (h : CVL l r) : CO (.tup l) (.tup r) := fun P K w hw => by
  obtain ⟨vs, rfl, a, b⟩ := hw
  refine ⟨vs, rfl, by rw [h.len]; exact a, fun i t u p q => ?_⟩
  obtain ⟨x, hx, hcv⟩ := h.at i t p
  have := b i x u hx q
  exact ⟨hcv.rc _ _ _ this.1, by rw [hcv.agg]; exact this.2⟩

/-- slots and boxes -/
def WX (P : Program) (n : Nat) (A : AEnv) (st : Stk) (A' : AEnv) (st' : Stk) : Prop := st'.length = st.length ∧ ∀ te, AgN n te A → ∃ te', WK P te st te' st' ∧ AgN n te' A'
variable {P : Program} {M : Masks} {f : FuncId} {n B : Nat}
theorem wxr {A : AEnv} {st : Stk} : WX P n A st A st := ⟨rfl, fun te h => ⟨te, WK.refl _ _, h⟩⟩
theorem wxs {A E : AEnv} {st : Stk} (hs : Sub E A) : WX P n A st E st := ⟨rfl, fun te h => ⟨te, WK.refl _ _, h.1, h.2.sub hs⟩⟩
theorem WX.trans {A B C : AEnv} {s t u : Stk} (h : WX P n A s B t) (k : WX P n B t C u) : WX P n A s C u := ⟨k.1.trans h.1, fun te hA => by
  obtain ⟨t1, a, b⟩ := h.2 te hA
  obtain ⟨t2, c, d⟩ := k.2 t1 b
  exact ⟨t2, a.trans c, d⟩⟩
def mkE (n : Nat) (A : AEnv) : TEnv := (List.range n).map (ag A)
theorem mkE_get (A : AEnv) (k : Nat) : (mkE n A)[k]? = if k < n then some (ag A k) else none := by
  unfold mkE
  rw [List.getElem?_map]
  split
  · rename_i h; rw [List.getElem?_range h]; rfl
  · rename_i h; rw [List.getElem?_eq_none (by simpa using h)]; rfl
theorem AgN.mk {te : TEnv} {A : AEnv} (h : AgN n te A) : AgN n (mkE n A) A := by
  refine ⟨by simp [mkE], fun k v hk => ?_⟩
  have := getD_none (h.2 k v hk)
  have hlt : k < n := by rw [← h.1]; exact (List.getElem?_eq_some_iff.1 this).1
  rw [mkE_get, if_pos hlt, hk]; rfl
theorem wk_mk {te : TEnv} {A : AEnv} (h : AgN n te A) (st : Stk) : WK P te st (mkE n A) st := fun G s a hr hl he => by
  refine ⟨G, hr, hl, ⟨by rw [← he.len, h.1]; simp [mkE], fun j tv hj => ?_⟩, rfl, fun _ h => h, fun _ _ => rfl, fun _ _ _ _ h => ⟨h, rfl⟩⟩
  rw [mkE_get] at hj
  split at hj
  · simp at hj
    exact he.at' j tv (getD_none (h.2 j tv hj))
  · simp at hj
/-- no slot names a box of level l from the k-th on -/
def FA (l k : Nat) (A : AEnv) : Prop := ∀ i v, ag A i = some v → fitsB l k v = true
theorem fa0 {l k : Nat} : FA l k [] := fun i v h => by simp [ag] at h
theorem fac {l k i : Nat} {v : TV} {A : AEnv} (h : fitsB l k v = true) (t : FA l k A) : FA l k ((i, v) :: A) := fun j u hj => by
  simp only [ag] at hj
  split at hj
  · simp at hj; subst hj; exact h
  · exact t j u hj
theorem fbs {l k : Nat} {v : TV} (h : solid v = true) : fitsB l k v = true := fitsB_solid l k h
theorem fbr {N k j ver off len : Nat} {ex : Bool} {el : TypeId} (h : Nat.blt j k = true) : fitsB N k (.ref N j ver off len ex el) = true := by
  simp only [fitsB, decide_eq_true_eq]; right; exact Nat.blt_eq ▸ h
theorem fbp {N k j ver : Nat} {p : List Pe} (h : Nat.blt j k = true) : fitsB N k (.ptr N j ver p) = true := by
  simp only [fitsB, decide_eq_true_eq]; right; exact Nat.blt_eq ▸ h
theorem fblr {N L k j ver off len : Nat} {ex : Bool} {el : TypeId} (h : L < N) : fitsB N k (.ref L j ver off len ex el) = true := by
  simp only [fitsB, decide_eq_true_eq]; left; omega
theorem fblp {N L k j ver : Nat} {p : List Pe} (h : L < N) : fitsB N k (.ptr L j ver p) = true := by
  simp only [fitsB, decide_eq_true_eq]; left; omega
theorem fbl0 {l k : Nat} : fitsBL l k [] = true := rfl
theorem fblc {l k : Nat} {v : TV} {r : List TV} (h : fitsB l k v = true) (t : fitsBL l k r = true) : fitsBL l k (v :: r) = true := by simp [fitsBL, h, t]
theorem fba {l k : Nat} {t : TypeId} {x : List TV} (h : fitsBL l k x = true) : fitsB l k (.agg t x) = true := by simpa [fitsB] using h
theorem fbt {l k : Nat} {x : List TV} (h : fitsBL l k x = true) : fitsB l k (.tup x) = true := by simpa [fitsB] using h
theorem fbf {l k : Nat} {g : FuncId} {a b : List TV} (h : fitsBL l k a = true) (h2 : fitsBL l k b = true) : fitsB l k (.fn g a b) = true := by simp [fitsB, h, h2]
theorem ff0 {l k : Nat} : fitsF l k [] = true := rfl
theorem ffc {l k : Nat} {b : Box} {r : List Box} (h : fitsB l k b.c = true) (t : fitsF l k r = true) : fitsF l k (b :: r) = true := by simp [fitsF, h, t]
theorem wxcut {A : AEnv} {F D FD : List Box} {T : Stk} {N k : Nat} (hN : T.length = N) (hk : F.length = k) (hFD : FD = F ++ D) (hA : FA N k A) (hF : fitsF N k F = true) : WX P n A (FD :: T) A (F :: T) := by
  subst hN; subst hk; subst hFD
  refine ⟨rfl, fun te h => ⟨mkE n A, (wk_mk h _).trans (WK.cut _ F D T ?_ hF), h.mk⟩⟩
  have : ∀ (l : TEnv), (∀ v, some v ∈ l → fitsB T.length F.length v = true) → fitsE T.length F.length l = true := by
    intro l
    induction l with
    | nil => intro _; rfl
    | cons x l ih =>
      intro hx
      cases x with
      | none => exact ih fun v hv => hx v (by simp [hv])
      | some v => simp only [fitsE, Bool.and_eq_true]; exact ⟨hx v (by simp), ih fun u hu => hx u (by simp [hu])⟩
  refine this _ fun v hv => ?_
  simp only [mkE, List.mem_map] at hv
  obtain ⟨k, _, hk⟩ := hv
  exact hA k v hk
theorem AgN.set {te : TEnv} {A : AEnv} (h : AgN n te A) {i : Nat} {u : TV} (hi : ag A i = some u) (v : TV) : AgN n (te.set i (some v)) ((i, v) :: A) := by
  have hlt : i < te.length := (List.getElem?_eq_some_iff.1 (getD_none (h.2 i u hi))).1
  exact h.put (d := i) (by rw [← h.1]; exact Nat.blt_eq ▸ hlt) v
theorem wxgrow {A : AEnv} {F F' : List Box} {T : Stk} {N i k : Nat} (el : TypeId) (hi : ag A i = some (.at (.slice none 0 0))) (hN : T.length = N) (hk : F.length = k) (hF : Snoc F ⟨.row el [], false⟩ F') : WX P n A (F :: T) ((i, .ref N k 0 0 0 false el) :: A) (F' :: T) := by
  subst hN; subst hk
  rw [← hF.eq]
  exact ⟨rfl, fun te h => ⟨_, WK.grow te F T i el (getD_none (h.2 _ _ hi)), h.set hi _⟩⟩
theorem wxcv {A : AEnv} {st : Stk} {i : Nat} {v v' : TV} (hi : ag A i = some v) (ht : isTup v = false) (h : CV v v') : WX P n A st ((i, v') :: A) st :=
  ⟨rfl, fun te hA => ⟨_, fun G s a hr hl he => ⟨G, hr, hl, ⟨by simpa using he.len, fun j tv hj => by
    rw [List.getElem?_set] at hj
    split at hj
    · rename_i e
      subst e
      split at hj
      · simp at hj; subst hj
        obtain ⟨w, h1, h2⟩ := he.at' _ _ (getD_none (hA.2 _ _ hi))
        exact ⟨w, h1, co1 ht h _ _ _ h2⟩
      · simp at hj
    · exact he.at' j tv hj⟩, rfl, fun _ h => h, fun _ _ => rfl, fun _ _ _ _ h => ⟨h, rfl⟩⟩, hA.set hi v'⟩⟩
theorem length_markS (st : Stk) (l k : Nat) : (markS st l k).length = st.length := by unfold markS; split <;> simp [length_upd]
theorem length_marks : ∀ (ks : List (Nat × Nat)) (st : Stk), (marks st ks).length = st.length
  | [], st => rfl
  | q :: ks, st => by simp only [marks]; rw [length_marks ks, length_markS]
theorem mk_own {F F' : List Box} {T : Stk} {N k : Nat} {b : Box} {ks : List (Nat × Nat)} {st' : Stk} (hN : T.length = N) (hb : F[k]? = some b) (hs : SetK F k ⟨b.c, true⟩ F') (h : marks (F' :: T) ks = st') : marks (F :: T) ((N, k) :: ks) = st' := by
  simp only [marks, markS, lk_own hN hb, up_own hN hs]; exact h
theorem mk0 {st : Stk} : marks st [] = st := rfl
/-- a slot is taken as it is now -/
theorem wxsnap {A : AEnv} {st st' : Stk} {i : Nat} {v v' : TV} {ks : List (Nat × Nat)} (hi : ag A i = some v) (ht : isTup v = false) (hs : snapU st v = some (v', ks)) (hm : marks st ks = st') : WX P n A st ((i, v') :: A) st' := by
  subst hm
  refine ⟨length_marks _ _, fun te hA => ⟨_, fun G s a hr hl he => ?_, hA.set hi v'⟩⟩
  obtain ⟨w, h1, h2⟩ := he.at' _ _ (getD_none (hA.2 _ _ hi))
  obtain ⟨m, sol, ag', rr⟩ := snapU_ok hr hs (h2.to ht).1
  obtain ⟨G1, r1, g1, f1, ρ1⟩ := hr.marks m
  refine ⟨G1, r1, marks_lev hl, ⟨by simpa using he.len, fun j tv hj => ?_⟩, length_marks _ _, fun id h => (g1.le.fz id h).1, fun l hl' => g1.N l (by omega), fun l k m' hlt hv => ?_⟩
  · rw [List.getElem?_set] at hj
    split at hj
    · rename_i e
      subst e
      split at hj
      · simp at hj; subst hj
        exact ⟨w, h1, .of ⟨rr _ g1.le rfl f1, by rw [ag']; exact (h2.to ht).2⟩⟩
      · simp at hj
    · obtain ⟨u, h3, h4⟩ := he.at' j tv hj
      exact ⟨u, h3, h4.mono g1.le⟩
  · obtain ⟨n', e1, e2, e3⟩ := g1.le.vs l k m' hv
    have : vsOf (marks st ks) l k = vsOf st l k := by
      have h1 : ∀ (st : Stk) a b, vsOf (markS st a b) l k = vsOf st l k := fun st a b => by
        unfold vsOf
        unfold markS
        split
        · rename_i c hc
          by_cases e : l = a ∧ k = b
          · obtain ⟨rfl, rfl⟩ := e; rw [look_upd_self hc, hc]; rfl
          · rw [look_upd_ne _ e]
        · rfl
      have h2 : ∀ (ks : List (Nat × Nat)) (st : Stk), vsOf (marks st ks) l k = vsOf st l k := by
        intro ks
        induction ks with
        | nil => intro st; rfl
        | cons q ks ih => intro st; simp only [marks]; rw [ih, h1]
      exact h2 ks st
    exact ⟨by rw [this]; exact hv, by rw [ρ1]⟩

/-! ### 2. Calls -/
def Con (P : Program) (M : Masks) (g : FuncId) (args : List TV) (S : Stk) (B : Nat) (O : TV) (R : List Box) (S' : Stk) : Prop := WTF P M g args S fun o r s lo => o = O ∧ r = R ∧ s = S' ∧ B ≤ lo
theorem con_call {g : FuncId} {args args' : List TV} {S S' : Stk} {B : Nat} {O : TV} {R : List Box} {ts : List TypeId} {ks : List (Nat × Nat)} (hc : canonL P S ts args = some (args', ks)) (h : Con P M g args' (marks S ks) B O R S') : Con P M g args S B O R S' := WTF_canon hc h
/-- a call whose answer holds on to nothing -/
theorem con_flat {g : FuncId} {args args' : List TV} {S : Stk} {O : TV} {ts : List TypeId} {ks : List (Nat × Nat)} (hc : canonL P S ts args = some (args', ks)) (hf : flatT O = true) (h : ∀ S, Con P M g args' S S.length O [] S) : Con P M g args S S.length O [] S := by
  refine call_pure (args' := args') (r := O) (ts := ts) (ks := ks) (fun S0 => ?_) hc ?_
  · -- the bound told as an equation
    intro G s vals hr hl hv
    refine (h S0 G s vals hr hl hv).mono fun v s' ⟨G', out, R, st', lo, x, y, e1, e2, e3, e4⟩ => ⟨G', out, R, st', S0.length, ⟨x.rel, x.lev, x.len, x.le, x.N, x.next, fun id hi hlo => x.keep id hi fun hh => by omega, ?_⟩, y, e1, e2, e3, rfl⟩
    have := x.low
    rw [if_neg (by omega)] at this
    rw [if_neg (by omega)]
    exact this
  · rw [if_pos hf]; exact ⟨rfl, rfl, rfl, Nat.le_refl _⟩
theorem cn0 {st : Stk} {ts : List TypeId} : canonL P st ts [] = some ([], []) := by cases ts <;> rfl
theorem cnc {st : Stk} {t : TypeId} {ts : List TypeId} {v v' : TV} {r r' : List TV} {k ks : List (Nat × Nat)} (h : canonT P st t v = some (v', k)) (hr : canonL P st ts r = some (r', ks)) : canonL P st (t :: ts) (v :: r) = some (v' :: r', k ++ ks) := by simp [canonL, h, hr]
/-- the same -/
theorem cnt {st : Stk} {t : TypeId} {v : TV} (h : canonT P st t v = some (v, [])) : canonT P st t v = some (v, []) := h
theorem cat {st : Stk} {t : TypeId} {v : Value} (h : nilOf v ≠ some 3) : canonT P st t (.at v) = some (.at v, []) := by
  simp only [canonT]
theorem cnil {st : Stk} {t el z b : TypeId} (h : slT P t = some (el, z, b)) : canonT P st t (.at (.slice none 0 0)) = some (.sl false el [], []) := by
  simp [canonT, nilOf, h]
theorem csl {st : Stk} {t el : TypeId} {ex : Bool} {l : List TV} : canonT P st t (.sl ex el l) = some (.sl false el l, []) := by simp [canonT]
theorem cref {st : Stk} {t l k ver off len el : Nat} {ex : Bool} {c : List TV} (h : elems st el (.ref l k ver off len ex el) = some c) : canonT P st t (.ref l k ver off len ex el) = some (.sl false el c, [(l, k)]) := by simp [canonT, h]
theorem cptr {st : Stk} {t l k ver : Nat} {p : List Pe} : canonT P st t (.ptr l k ver p) = some (.ptr l k ver p, []) := by simp [canonT]
theorem cep {st : Stk} {t : TypeId} {v : TV} : canonT P st t (.ep v) = some (.ep v, []) := by simp [canonT]
theorem cfn {st : Stk} {t g : FuncId} {a b : List TV} : canonT P st t (.fn g a b) = some (.fn g a b, []) := by simp [canonT]
theorem carr {st : Stk} {t el : FuncId} {a : List TV} : canonT P st t (.arr el a) = some (.arr el a, []) := by simp [canonT]
theorem cagg {st : Stk} {t u : TypeId} {l l' : List TV} {ks : List (Nat × Nat)} (h : canonF P st u 0 l = some (l', ks)) : canonT P st t (.agg u l) = some (.agg u l', ks) := by simp [canonT, h]
theorem cf0 {st : Stk} {t i : TypeId} : canonF P st t i [] = some ([], []) := by simp [canonF]
theorem cfc {st : Stk} {t i ft : TypeId} {v v' : TV} {r r' : List TV} {k ks : List (Nat × Nat)} (hf : ftypeT P t i = some ft) (h : canonT P st ft v = some (v', k)) (hr : canonF P st t (i + 1) r = some (r', ks)) : canonF P st t i (v :: r) = some (v' :: r', k ++ ks) := by simp [canonF, hf, h, hr]
section
variable {ops : Array Oper} {l : List Oper} {Q : TQ} {A : AEnv} {st st' : Stk} {ty : TypeId} {pos : String} {af : Array Edge}
theorem rc' {dst : Option Tmp} {x : Operand} {args : Array Operand} {ts : Array TypeId} {g : FuncId} {a b vs : List TV} {B' : Nat} {O O' : TV} {R : List Box} {S' : Stk} {A' : AEnv} (hx : ao A x = some (.fn g a b)) (hl : aos A args.toList = some vs) (hc : Con P M g (a ++ vs ++ b) st B' O R S') (hB : B < st.length → B ≤ B') (hm : mergeT S' O R = some (O', st')) (hlen : st'.length = st.length) (hA : ∀ te, AgN n te A → AgN n (tput te dst (some O')) A') (h : RX P M n B ops l Q A' st') : RX P M n B ops (⟨dst, .call ⟨.value x, args, ts⟩, ty, pos, af, none⟩ :: l) Q A st := by
  refine QX.of fun hb te lo hAg hlo => ?_
  have hcal : tcallee te (⟨dst, .call ⟨.value x, args, ts⟩, ty, pos, af, none⟩ : Oper) = some (g, a ++ vs ++ b) := by
    simp only [tcallee, hAg.2.ao hx, hAg.2.aos hl]
  simp only [RT, twanted, hcal]
  refine hc.mono ?_
  rintro o r s lo' ⟨rfl, rfl, rfl, hlo'⟩
  unfold Back
  rw [hm]
  exact h.go (by rw [hlen]; exact hb) _ _ (hA te hAg) (by have := hB hb; omega)
/-- a call with an answer -/
theorem rc {d : Nat} {x : Operand} {args : Array Operand} {ts : Array TypeId} {g : FuncId} {a b vs : List TV} {B' : Nat} {O O' : TV} {R : List Box} {S' : Stk} (hx : ao A x = some (.fn g a b)) (hl : aos A args.toList = some vs) (hc : Con P M g (a ++ vs ++ b) st B' O R S') (hB : B < st.length → B ≤ B') (hm : mergeT S' O R = some (O', st')) (hlen : st'.length = st.length) (hd : Nat.blt d n = true) (h : RX P M n B ops l Q ((d, O') :: A) st') : RX P M n B ops (⟨some d, .call ⟨.value x, args, ts⟩, ty, pos, af, none⟩ :: l) Q A st :=
  rc' hx hl hc hB hm hlen (fun te hA => hA.put hd O') h
/-- a call that turns nothing -/
theorem rcp {d : Nat} {x : Operand} {args : Array Operand} {ts : Array TypeId} {g : FuncId} {a b vs : List TV} {O : TV} (hx : ao A x = some (.fn g a b)) (hl : aos A args.toList = some vs) (hc : Con P M g (a ++ vs ++ b) st st.length O [] st) (hd : Nat.blt d n = true) (h : RX P M n B ops l Q ((d, O) :: A) st) : RX P M n B ops (⟨some d, .call ⟨.value x, args, ts⟩, ty, pos, af, none⟩ :: l) Q A st :=
  rc hx hl hc (fun h => by omega) rfl rfl hd h
variable {bs : Array Nat} {i : Nat} {dn : List (Nat × Bool)}
theorem dc' {dst : Option Tmp} {x : Operand} {args : Array Operand} {ts : Array TypeId} {g : FuncId} {a b vs : List TV} {O O' : TV} {R : List Box} {S' : Stk} {A' : AEnv} (hx : ao A x = some (.fn g a b)) (hl : aos A args.toList = some vs) (hc : Con P M g (a ++ vs ++ b) st st.length O R S') (hm : mergeT S' O R = some (O', st')) (hlen : st'.length = st.length) (hk : loudOK dn bs i false = true) (hA : ∀ te, AgN n te A → AgN n (tput te dst (some O')) A') (h : DX P M n B ops bs l (i + 1) ((i, false) :: dn) Q A' st') : DX P M n B ops bs (⟨dst, .call ⟨.value x, args, ts⟩, ty, pos, af, none⟩ :: l) i dn Q A st := by
  refine QX.of fun hb te lo hAg hlo => ?_
  have hcal : tcallee te (⟨dst, .call ⟨.value x, args, ts⟩, ty, pos, af, none⟩ : Oper) = some (g, a ++ vs ++ b) := by
    simp only [tcallee, hAg.2.ao hx, hAg.2.aos hl]
  simp only [DT, twanted, hcal, still]
  refine hc.mono ?_
  rintro o r s lo' ⟨rfl, rfl, rfl, hlo'⟩
  unfold BackD
  rw [hm]
  have e : decide (lo' < st.length) = false := by simp; omega
  simp only [e]
  exact ⟨hk, h.go (by rw [hlen]; exact hb) _ _ (hA te hAg) (by omega)⟩
theorem dc {d : Nat} {x : Operand} {args : Array Operand} {ts : Array TypeId} {g : FuncId} {a b vs : List TV} {O O' : TV} {R : List Box} {S' : Stk} (hx : ao A x = some (.fn g a b)) (hl : aos A args.toList = some vs) (hc : Con P M g (a ++ vs ++ b) st st.length O R S') (hm : mergeT S' O R = some (O', st')) (hlen : st'.length = st.length) (hk : loudOK dn bs i false = true) (hd : Nat.blt d n = true) (h : DX P M n B ops bs l (i + 1) ((i, false) :: dn) Q ((d, O') :: A) st') : DX P M n B ops bs (⟨some d, .call ⟨.value x, args, ts⟩, ty, pos, af, none⟩ :: l) i dn Q A st :=
  dc' hx hl hc hm hlen hk (fun te hA => hA.put hd O') h
theorem dcp {d : Nat} {x : Operand} {args : Array Operand} {ts : Array TypeId} {g : FuncId} {a b vs : List TV} {O : TV} (hx : ao A x = some (.fn g a b)) (hl : aos A args.toList = some vs) (hc : Con P M g (a ++ vs ++ b) st st.length O [] st) (hk : loudOK dn bs i false = true) (hd : Nat.blt d n = true) (h : DX P M n B ops bs l (i + 1) ((i, false) :: dn) Q ((d, O) :: A) st) : DX P M n B ops bs (⟨some d, .call ⟨.value x, args, ts⟩, ty, pos, af, none⟩ :: l) i dn Q A st :=
  dc hx hl hc rfl rfl hk hd h
end

/-! ### 3. Code -/
theorem allB_ex_n (N : Nat) : ∃ m : Nat, ∀ d, d < N → m.testBit d = true := ⟨2 ^ N - 1, fun d h => by rw [Nat.testBit_two_pow_sub_one]; simpa using h⟩
theorem allB_ex : ∃ m : Nat, ∀ d, d < 4096 → m.testBit d = true := allB_ex_n 4096
noncomputable def allB : Nat := Classical.choose allB_ex
noncomputable def full : Masks := ⟨fun _ => allB, fun _ => allB, fun _ _ => none⟩
theorem full_keep (f : FuncId) : full.keep f = allB := rfl
theorem full_hold (f : FuncId) : full.hold f = allB := rfl
theorem allB_bit {d : Nat} (h : d < 4096) : allB.testBit d = true := Classical.choose_spec allB_ex d h
theorem forget_all (l : List Oper) (te : TEnv) (h : te.length ≤ 4096) : tforget allB l te = te := by
  unfold tforget
  induction l with
  | nil => rfl
  | cons o l ih =>
    simp only [List.foldl_cons]
    have e : ∀ (x : Option Tmp), (match x with
      | some d => if allB.testBit d = true then te else te.set d none
      | none => te) = te := by
      intro x
      cases x with
      | none => rfl
      | some d =>
        simp only
        by_cases hd : d < 4096
        · rw [if_pos (allB_bit hd)]
        · have : te.set d none = te := List.set_eq_of_length_le (by show te.length ≤ d; exact Nat.le_trans h (Nat.le_of_not_lt hd))
          rw [this]; split <;> rfl
    have := e o.dst
    generalize hg : (match o.dst with
      | some d => if allB.testBit d = true then te else te.set d none
      | none => te) = te1 at this
    subst this
    cases o with
    | mk dst op ty pos af g =>
      cases dst with
      | none => exact ih
      | some d =>
        simp only at hg ⊢
        rw [hg]
        exact ih
section
variable {Q : Ex → TQ} {A : AEnv} {st : Stk}
theorem cx_seq {a b : Code} (h : CX P M f n B a (KSeqT P M f b Q) A st) : CX P M f n B (.seq a b) Q A st := h
theorem kseq {b : Code} (h : CX P M f n B b Q A st) : QX n B (KSeqT P M f b Q .normal) A st := QX.of fun hb te lo hA hlo => ⟨te, st, WK.refl _ _, h.go hb te lo hA hlo⟩
theorem kseqW {b : Code} {A' : AEnv} {st' : Stk} (hw : WX P n A st A' st') (h : CX P M f n B b Q A' st') : QX n B (KSeqT P M f b Q .normal) A st := QX.of fun hb te lo hA hlo => by
  obtain ⟨te', h1, h2⟩ := hw.2 te hA
  exact ⟨te', st', h1, h.go (by rw [hw.1]; exact hb) te' lo h2 hlo⟩
theorem cx_reg {id : Nat} {ops : Array Oper} (hn : Nat.ble n 4096 = true) (h : RX P full n B ops ops.toList (Q .normal) A st) : CX P full f n B (.region id ops false) Q A st := QX.of fun hb te lo hA hlo => by
  simp only [CT]
  have := h.go hb te lo hA hlo
  have hlen : ∀ (l : List Oper) (te : TEnv) (st : Stk) (lo : Nat), te.length = n → RT P full ops l te st lo (Q .normal) → RT P full ops l te st lo (fun e' st' lo' => Q .normal (tforget (full.keep f) ops.toList e') st' lo') := by
    intro l
    induction l with
    | nil =>
      intro te st lo hl h
      simp only [RT] at h ⊢
      have e : tforget (full.keep f) ops.toList te = te := by rw [full_keep]; exact forget_all _ _ (by rw [hl]; exact Nat.ble_eq ▸ hn)
      rw [e]; exact h
    | cons o l ih =>
      intro te st lo hl h
      have hp : ∀ v, (tput te o.dst v).length = n := fun v => by unfold tput; split <;> simp [hl]
      simp only [RT] at h ⊢
      split at h
      · split at h
        · exact h.mono fun _ _ _ _ hb => by
            unfold Back at hb ⊢
            split at hb
            · exact ih _ _ _ (hp _) hb
            · exact hb
        · split at h
          · exact ih _ _ _ (hp _) h
          · exact h
      · exact ih _ _ _ (hp _) h
      · exact h
  exact hlen _ _ _ _ hA.1 this
theorem cx_draw {id : Nat} {ops : Array Oper} {b : Array Nat} (hn : Nat.ble n 4096 = true) (hb : Region.before ops = b) (h : DX P full n B ops b ops.toList 0 [] (Q .normal) A st) : CX P full f n B (.region id ops true) Q A st := QX.of fun hb' te lo hA hlo => by
  subst hb
  simp only [CT]
  have := h.go hb' te lo hA hlo
  have hlen : ∀ (l : List Oper) (i : Nat) (d : List (Nat × Bool)) (te : TEnv) (st : Stk) (lo : Nat), te.length = n → DT P full ops (Region.before ops) l i d te st lo (Q .normal) → DT P full ops (Region.before ops) l i d te st lo (fun e' st' lo' => Q .normal (tforget (full.keep f) ops.toList e') st' lo') := by
    intro l
    induction l with
    | nil =>
      intro i d te st lo hl h
      simp only [DT] at h ⊢
      have e : tforget (full.keep f) ops.toList te = te := by rw [full_keep]; exact forget_all _ _ (by rw [hl]; exact Nat.ble_eq ▸ hn)
      rw [e]; exact h
    | cons o l ih =>
      intro i d te st lo hl h
      have hp : ∀ v, (tput te o.dst v).length = n := fun v => by unfold tput; split <;> simp [hl]
      simp only [DT] at h ⊢
      split at h
      · split at h
        · split at h
          · exact ih _ _ _ _ _ (hp _) h
          · exact h
        · split at h
          · exact h.mono fun _ _ _ _ hb => by
              unfold BackD at hb ⊢
              split at hb
              · exact ⟨hb.1, ih _ _ _ _ _ (hp _) hb.2⟩
              · exact hb
          · split at h
            · exact ⟨h.1, ih _ _ _ _ _ (hp _) h.2⟩
            · exact h
      · exact ih _ _ _ _ _ (hp _) h
      · exact h
  exact hlen _ _ _ _ _ _ hA.1 this
theorem cx_cond {t : Nat} {a b : Code} {c : Bool} (ht : ag A t = some (boolTV c)) (hn : Nat.ble n 4096 = true) (h1 : c = true → CX P full f n B a Q A st) (h2 : c = false → CX P full f n B b Q A st) : CX P full f n B (.cond (.tmp t) a b) Q A st := QX.of fun hb te lo hA hlo => by
  have hg := hA.2 t _ ht
  have hlt : t < te.length := (List.getElem?_eq_some_iff.1 (getD_none hg)).1
  have e : tcondEnv (full.hold f) t te = te := by
    unfold tcondEnv
    rw [full_hold, if_pos (allB_bit (by rw [hA.1] at hlt; have := (Nat.ble_eq ▸ hn : n ≤ 4096); omega))]
  simp only [CT, hg, boolTV]
  cases c with
  | true => simp only [e]; exact (h1 rfl).go hb te lo hA hlo
  | false => simp only [e]; exact (h2 rfl).go hb te lo hA hlo
theorem cx_block {id : Nat} {b : Code} (h : CX P M f n B b (TBlock id Q) A st) : CX P M f n B (.block id b) Q A st := h
theorem cx_skip (h : QX n B (Q .normal) A st) : CX P M f n B .skip Q A st := h
theorem cx_label {l : _} (h : QX n B (Q .normal) A st) : CX P M f n B (.label l) Q A st := h
theorem cx_ret (h : QX n B (Q .ret) A st) : CX P M f n B .ret Q A st := h
theorem cx_exit {i : Nat} (h : QX n B (Q (.exit i)) A st) : CX P M f n B (.exit i) Q A st := h
theorem CX.sub {c : Code} {E : AEnv} (hs : Sub E A) (h : CX P M f n B c Q E st) : CX P M f n B c Q A st := QX.sub hs h

/-! ### 4. Meeting points -/
/-- the state is one of those told -/
def JQ (P : Program) (n B : Nat) {τ : Type} (E : τ → AEnv) (S : τ → Stk) (ok : τ → Prop) : TQ := fun te st lo => ∃ t, ok t ∧ ∃ te', WK P te st te' (S t) ∧ AgN n te' (E t) ∧ B ≤ lo
def JK (P : Program) (n B : Nat) {τ : Type} (E : τ → AEnv) (S : τ → Stk) (ok : τ → Prop) (Q : Ex → TQ) : Ex → TQ
  | .normal => JQ P n B E S ok
  | x => Q x
theorem CT_mono' : ∀ (c : Code) {Q R : Ex → TQ} (h : ∀ x e st lo, Q x e st lo → R x e st lo) {e : TEnv} {st : Stk} {lo : Nat}, CT P M f c e st lo Q → CT P M f c e st lo R := by
  have RTm : ∀ {ops : Array Oper} {Q R : TQ} (h : ∀ e st lo, Q e st lo → R e st lo) (l : List Oper) {e : TEnv} {st : Stk} {lo : Nat}, RT P M ops l e st lo Q → RT P M ops l e st lo R := by
    intro ops Q R h l
    induction l with
    | nil => intro e st lo hq; simp only [RT] at hq ⊢; exact h _ _ _ hq
    | cons o l ih =>
      intro e st lo hq
      simp only [RT] at hq ⊢
      split at hq
      · split at hq
        · exact hq.mono fun _ _ _ _ hb => by
            unfold Back at hb ⊢
            split at hb
            · exact ih hb
            · exact hb
        · split at hq
          · exact ih hq
          · exact hq
      · exact ih hq
      · exact hq
  have DTm : ∀ {ops : Array Oper} {b : Array Nat} {Q R : TQ} (h : ∀ e st lo, Q e st lo → R e st lo) (l : List Oper) {i : Nat} {d : List (Nat × Bool)} {e : TEnv} {st : Stk} {lo : Nat}, DT P M ops b l i d e st lo Q → DT P M ops b l i d e st lo R := by
    intro ops b Q R h l
    induction l with
    | nil => intro i d e st lo hq; simp only [DT] at hq ⊢; exact h _ _ _ hq
    | cons o l ih =>
      intro i d e st lo hq
      simp only [DT] at hq ⊢
      split at hq
      · split at hq
        · split at hq
          · exact ih hq
          · exact hq
        · split at hq
          · exact hq.mono fun _ _ _ _ hb => by
              unfold BackD at hb ⊢
              split at hb
              · exact ⟨hb.1, ih hb.2⟩
              · exact hb
          · split at hq
            · exact ⟨hq.1, ih hq.2⟩
            · exact hq
      · exact ih hq
      · exact hq
  intro c
  induction c with
  | region id ops draw =>
    intro Q R h e st lo hq
    cases draw with
    | false => simp only [CT] at hq ⊢; exact RTm (fun _ _ _ => h _ _ _ _) _ hq
    | true => simp only [CT] at hq ⊢; exact DTm (fun _ _ _ => h _ _ _ _) _ hq
  | seq a b iha ihb =>
    intro Q R h e st lo hq
    simp only [CT] at hq ⊢
    exact iha (fun x e st lo hx => by cases x with
      | normal => obtain ⟨a1, a2, a3, a4⟩ := hx; exact ⟨a1, a2, a3, ihb h a4⟩
      | ret => exact h _ _ _ _ hx
      | exit i => exact h _ _ _ _ hx) hq
  | cond c a b iha ihb =>
    intro Q R h e st lo hq
    cases c with
    | tmp t =>
      simp only [CT] at hq ⊢
      split at hq
      · exact iha h hq
      · exact ihb h hq
      · exact hq
    | _ => exact hq.elim
  | block id b ih =>
    intro Q R h e st lo hq
    simp only [CT] at hq ⊢
    exact ih (fun x e st lo hx => by cases x with
      | normal => exact h _ _ _ _ hx
      | ret => exact h _ _ _ _ hx
      | exit i =>
        simp only [TBlock] at hx ⊢
        split
        · rename_i e; rw [if_pos e] at hx; exact h _ _ _ _ hx
        · rename_i e; rw [if_neg e] at hx; exact h _ _ _ _ hx) hq
  | loop b ih =>
    intro Q R h e st lo hq
    simp only [CT] at hq ⊢
    obtain ⟨I, h1, h2⟩ := hq
    exact ⟨I, h1, fun d e st lo hi => ih (fun x e st lo hx => by cases x with
      | normal => exact hx
      | ret => exact h _ _ _ _ hx
      | exit i => exact h _ _ _ _ hx) (h2 d e st lo hi)⟩
  | skip => intro Q R h e st lo hq; simp only [CT] at hq ⊢; exact h _ _ _ _ hq
  | label l => intro Q R h e st lo hq; simp only [CT] at hq ⊢; exact h _ _ _ _ hq
  | exit id => intro Q R h e st lo hq; simp only [CT] at hq ⊢; exact h _ _ _ _ hq
  | ret => intro Q R h e st lo hq; simp only [CT] at hq ⊢; exact h _ _ _ _ hq
  | _ => intro Q R h e st lo hq; simp only [CT] at hq
/-- ways that meet ahead of b -/
theorem cx_meet {τ : Type} {a b : Code} (E : τ → AEnv) (S : τ → Stk) (ok : τ → Prop) (hlen : ∀ t, (S t).length = st.length) (h1 : CX P M f n B a (JK P n B E S ok Q) A st) (h2 : ∀ t, ok t → CX P M f n B b Q (E t) (S t)) : CX P M f n B (.seq a b) Q A st := QX.of fun hb te lo hA hlo => by
  have := h1.go hb te lo hA hlo
  simp only [CT]
  refine CT_mono' a (fun x e s l hx => ?_) this
  cases x with
  | normal =>
    obtain ⟨t, ht, te', hw, hag, hl⟩ := hx
    exact ⟨te', S t, hw, (h2 t ht).go (by rw [hlen]; exact hb) te' l hag hl⟩
  | ret => exact hx
  | exit i => exact hx
theorem kmeet {τ : Type} {E : τ → AEnv} {S : τ → Stk} {ok : τ → Prop} (t : τ) (ht : ok t) {A : AEnv} {st : Stk} (hw : WX P n A st (E t) (S t)) : QX n B (JQ P n B E S ok) A st := QX.of fun hb te lo hA hlo => by
  obtain ⟨te', h1, h2⟩ := hw.2 te hA
  exact ⟨t, ht, te', h1, h2, hlo⟩

/-! ### 5. Loops -/
inductive Stp (σ ρ : Type) where
  | next (s : σ)
  | done (r : ρ)
def iterO {σ ρ : Type} (body : σ → Option (Stp σ ρ)) : Nat → σ → Option ρ
  | 0, _ => none
  | n + 1, s => match body s with
    | some (.next s') => iterO body n s'
    | some (.done r) => some r
    | none => none
open Classical in
noncomputable def loopO {σ ρ : Type} (body : σ → Option (Stp σ ρ)) (s : σ) : Option ρ := if h : ∃ r n, iterO body n s = some r then some (Classical.choose h) else none
theorem iterO_mono {σ ρ : Type} {body : σ → Option (Stp σ ρ)} : ∀ {n m : Nat} {s : σ} {r : ρ}, iterO body n s = some r → n ≤ m → iterO body m s = some r
  | 0, m, s, r, h, _ => by simp [iterO] at h
  | n + 1, 0, s, r, h, hm => by omega
  | n + 1, m + 1, s, r, h, hm => by
    simp only [iterO] at h ⊢
    split at h
    · exact iterO_mono h (by omega)
    · exact h
    · simp at h
theorem loopO_some {σ ρ : Type} {body : σ → Option (Stp σ ρ)} {s : σ} {r : ρ} : loopO body s = some r ↔ ∃ n, iterO body n s = some r := by
  unfold loopO
  constructor
  · intro h
    split at h
    · rename_i hx
      simp at h
      obtain ⟨n, hn⟩ := Classical.choose_spec hx
      exact ⟨n, by rw [hn, h]⟩
    · simp at h
  · rintro ⟨n, hn⟩
    have hx : ∃ r n, iterO body n s = some r := ⟨r, n, hn⟩
    rw [dif_pos hx]
    obtain ⟨m, hm⟩ := Classical.choose_spec hx
    have h1 := iterO_mono hn (Nat.le_max_left n m)
    have h2 := iterO_mono hm (Nat.le_max_right n m)
    rw [h1] at h2
    simpa using h2.symm
theorem loopO_eq {σ ρ : Type} (body : σ → Option (Stp σ ρ)) (s : σ) : loopO body s = match body s with
    | some (.next s') => loopO body s'
    | some (.done r) => some r
    | none => none := by
  have key : ∀ r, loopO body s = some r ↔ (match body s with
    | some (.next s') => loopO body s'
    | some (.done r) => some r
    | none => none) = some r := by
    intro r
    rw [loopO_some]
    cases hb : body s with
    | none =>
      simp only
      constructor
      · rintro ⟨n, hn⟩
        cases n with
        | zero => simp [iterO] at hn
        | succ n => simp [iterO, hb] at hn
      · intro h; simp at h
    | some y =>
      cases y with
      | next s' =>
        simp only
        rw [loopO_some]
        constructor
        · rintro ⟨n, hn⟩
          cases n with
          | zero => simp [iterO] at hn
          | succ n => simp only [iterO, hb] at hn; exact ⟨n, hn⟩
        · rintro ⟨n, hn⟩; exact ⟨n + 1, by simp only [iterO, hb]; exact hn⟩
      | done x =>
        simp only
        constructor
        · rintro ⟨n, hn⟩
          cases n with
          | zero => simp [iterO] at hn
          | succ n => simpa only [iterO, hb] using hn
        · intro h; exact ⟨1, by simp only [iterO, hb]; exact h⟩
  cases h1 : loopO body s with
  | some r => exact ((key r).1 h1).symm
  | none =>
    cases h2 : (match body s with
    | some (.next s') => loopO body s'
    | some (.done r) => some r
    | none => none) with
    | none => rfl
    | some r => rw [(key r).2 h2] at h1; simp at h1
/-- what stands behind a round that gives y -/
def LQ (P : Program) (n B : Nat) {σ ρ : Type} (E : σ → AEnv) (S : σ → Stk) (Q : Ex → TQ) (y : Stp σ ρ) : Ex → TQ
  | .normal => fun te st lo => ∃ s, y = .next s ∧ ∃ te', WK P te st te' (S s) ∧ AgN n te' (E s) ∧ B ≤ lo
  | .ret => fun te st lo => (∃ z, y = .done z) ∧ Q .ret te st lo
  | .exit i => fun te st lo => (∃ z, y = .done z) ∧ Q (.exit i) te st lo
theorem cx_loop {σ ρ : Type} {c : Code} (body : σ → Option (Stp σ ρ)) (E : σ → AEnv) (S : σ → Stk) {s0 : σ} {x : ρ} (hx : loopO body s0 = some x) (hlen : ∀ s, (S s).length = st.length) (hw : WX P n A st (E s0) (S s0))
    (hr : ∀ s y, body s = some y → (∀ z, y = .done z → z = x) → CX P M f n B c (LQ P n B E S Q y) (E s) (S s)) : CX P M f n B (.loop c) Q A st := QX.of fun hb te lo hA hlo => by
  obtain ⟨d, hd⟩ := loopO_some.1 hx
  obtain ⟨te', h1, h2⟩ := hw.2 te hA
  simp only [CT]
  refine ⟨fun d te st' lo => ∃ s, iterO body d s = some x ∧ st' = S s ∧ AgN n te (E s) ∧ B ≤ lo, ⟨d, te', S s0, h1, s0, hd, rfl, h2, hlo⟩, ?_⟩
  rintro d te st' lo ⟨s, hs, rfl, hag, hl⟩
  cases d with
  | zero => simp [iterO] at hs
  | succ d =>
    cases hbs : body s with
    | none => simp [iterO, hbs] at hs
    | some y =>
      have hy : ∀ z, y = .done z → z = x := by
        rintro z rfl
        simpa [iterO, hbs] using hs
      have := (hr s y hbs hy).go (by rw [hlen]; exact hb) te lo hag hl
      refine CT_mono' c (fun ex e s2 l hq => ?_) this
      cases ex with
      | normal =>
        obtain ⟨s', rfl, te2, w, a2, b2⟩ := hq
        simp only [iterO, hbs] at hs
        exact ⟨d, te2, S s', by omega, w, s', hs, rfl, a2, b2⟩
      | ret => exact hq.2
      | exit i => exact hq.2
theorem lnext {σ ρ : Type} {E : σ → AEnv} {S : σ → Stk} {y : Stp σ ρ} {s : σ} (hy : y = .next s) (hw : WX P n A st (E s) (S s)) : QX n B (LQ P n B E S Q y .normal) A st := QX.of fun hb te lo hA hlo => by
  obtain ⟨te', h1, h2⟩ := hw.2 te hA
  exact ⟨s, hy, te', h1, h2, hlo⟩
theorem ldone {σ ρ : Type} {E : σ → AEnv} {S : σ → Stk} {y : Stp σ ρ} {z : ρ} {i : Nat} (hy : y = .done z) (h : QX n B (Q (.exit i)) A st) : QX n B (LQ P n B E S Q y (.exit i)) A st := QX.of fun hb te lo hA hlo => ⟨⟨z, hy⟩, h.go hb te lo hA hlo⟩
theorem lret {σ ρ : Type} {E : σ → AEnv} {S : σ → Stk} {y : Stp σ ρ} {z : ρ} (hy : y = .done z) (h : QX n B (Q .ret) A st) : QX n B (LQ P n B E S Q y .ret) A st := QX.of fun hb te lo hA hlo => ⟨⟨z, hy⟩, h.go hb te lo hA hlo⟩
end

/-! ### 6. Functions -/
/-- the end of a function -/
def KF (P : Program) (rs : List ResultVar) (O : TV) (R : List Box) (S' : Stk) (B : Nat) : Ex → TQ := fun x e0 st0 lo => (x = .normal ∨ x = .ret) ∧ ∃ m e st out out' R1 S1, WK P e0 st0 e st ∧ (∃ raws, resT P e st rs = some raws ∧ retT m st raws = some (out, R1, S1)) ∧ (∀ K v, RV P K out v → RV P K out' v) ∧ (out' = O ∧ R1 = R ∧ S1 = S' ∧ B ≤ lo)
def enumA : Nat → List TV → AEnv
  | _, [] => []
  | i, v :: r => (i, v) :: enumA (i + 1) r
theorem enumA_get (l : List TV) : ∀ (i k : Nat), ag (enumA i l) k = if i ≤ k then l[k - i]? else none := by
  induction l with
  | nil => intro i k; simp [enumA, ag]
  | cons a l ih =>
    intro i k
    simp only [enumA, ag]
    split
    · rename_i e
      have := Nat.eq_of_beq_eq_true e
      subst this
      simp
    · rename_i e
      have hne : i ≠ k := fun h => by subst h; simp at e
      rw [ih]
      by_cases h : i + 1 ≤ k
      · rw [if_pos h, if_pos (by omega)]
        rw [show k - i = (k - (i + 1)) + 1 by omega]; rfl
      · rw [if_neg h, if_neg (by omega)]
theorem con_of {g : FuncId} {fn : Func} {k : Code} {args : List TV} {S S' : Stk} {O : TV} {R : List Box} {A : AEnv} (hf : P.funcs[g]? = some fn) (hb : fn.body = some k) (hn : (fn.name == "runtime.NumGoroutine" || decide (args.length > fn.ntmps)) = false) (hB : B ≤ S.length) (hA : enumA 0 args = A) (h : CX P full g fn.ntmps B k (KF P fn.results.toList O R S' B) A ([] :: S)) : Con P full g args S B O R S' := by
  subst hA
  refine WTF_of (fun _ => rfl) hf hb hn ?_
  have hn' : args.length ≤ fn.ntmps := by
    simp only [Bool.or_eq_false_iff, decide_eq_false_iff_not] at hn
    omega
  refine h.go (by simp; omega) _ S.length ⟨by simp [pad_eq]; omega, fun j v hj => ?_⟩ hB
  rw [enumA_get, if_pos (Nat.zero_le _)] at hj
  have hlt := (List.getElem?_eq_some_iff.1 hj).1
  simp at hlt hj
  rw [List.getElem?_append_left (by simpa using hlt), List.getElem?_map]
  simp [hj]
/-- what is returned -/
inductive ResA (P : Program) (A : AEnv) (st : Stk) : List ResultVar → List TV → Prop where
  | nil : ResA P A st [] []
  | tmp {t : Nat} {v : TV} {rs : List ResultVar} {l : List TV} : ag A t = some v → ResA P A st rs l → ResA P A st (.tmp t :: rs) (v :: l)
  | cell {a t l k ver : Nat} {p : List Pe} {b : Box} {v : TV} {rs : List ResultVar} {r : List TV} : ag A a = some (.ptr l k ver p) → look st l k = some b → ver = vers b.c → getP b.c p = some v → fits P t v = true → ResA P A st rs r → ResA P A st (.cell a t :: rs) (v :: r)
theorem ResA.ok {A : AEnv} {st : Stk} {te : TEnv} (hA : Agr te A) {rs : List ResultVar} {l : List TV} (h : ResA P A st rs l) : resT P te st rs = some l := by
  induction h with
  | nil => rfl
  | tmp h _ ih => simp only [resT, resT1, hA _ _ h, ih]
  | cell h1 h2 h3 h4 h5 _ ih => simp only [resT, resT1, hA _ _ h1, h2, ih]; rw [if_pos h3]; simp only [h4, h5, if_true]
theorem qx_ret {x : Ex} {rs : List ResultVar} {O out : TV} {R : List Box} {S' : Stk} {A : AEnv} {st : Stk} {raws : List TV} (hx : x = .normal ∨ x = .ret) (m : List Nat) (hr : ResA P A st rs raws) (ht : retT m st raws = some (out, R, S')) (ho : CO out O) : QX n B (KF P rs O R S' B x) A st := QX.of fun hb te lo hA hlo =>
  ⟨hx, m, te, st, out, O, R, S', WK.refl _ _, ⟨raws, hr.ok hA.2, ht⟩, fun K v hv => ho _ K v hv, rfl, rfl, rfl, hlo⟩
theorem qx_retW {x : Ex} {rs : List ResultVar} {O out : TV} {R : List Box} {S' : Stk} {A A' : AEnv} {st st' : Stk} {raws : List TV} (hx : x = .normal ∨ x = .ret) (hw : WX P n A st A' st') (m : List Nat) (hr : ResA P A' st' rs raws) (ht : retT m st' raws = some (out, R, S')) (ho : CO out O) : QX n B (KF P rs O R S' B x) A st := QX.of fun hb te lo hA hlo => by
  obtain ⟨te', h1, h2⟩ := hw.2 te hA
  exact ⟨hx, m, te', st', out, O, R, S', h1, ⟨raws, hr.ok h2.2, ht⟩, fun K v hv => ho _ K v hv, rfl, rfl, rfl, hlo⟩
theorem solid_tup {v : TV} (h : solid v = true) : isTup v = false := by cases v <;> first | rfl | simp [solid] at h
/-- nothing of one's own is handed over -/
theorem ret0 {F F' : List Box} {T T' : Stk} {raws outs : List TV} {ks : List (Nat × Nat)} (hs : snapL (F :: T) raws = some (outs, ks)) (hm : marks (F :: T) ks = F' :: T') (hsol : solidL outs = true) : retT [] (F :: T) raws = some (ttup outs, [], T') := by
  have h1 : renTL (keepR T'.length []) outs = some outs := ren_solidL' hsol
  have h2 : outs.all (fun v => !isTup v) = true := by
    rw [List.all_eq_true]
    intro v hv
    rw [solid_tup (solidL_mem hsol v hv)]; rfl
  simp only [retT, hs, hm, keepT, h1, pickB, renBoxes, noDup, h2]
  simp
theorem ret0s {F : List Box} {T : Stk} {raws : List TV} (hsol : solidL raws = true) : retT [] (F :: T) raws = some (ttup raws, [], T) :=
  ret0 (snapL_solid hsol) rfl hsol
end Go.Tm
end

section
/- Walks: boxes of the callers; small words that printed texts use. -/
set_option linter.unusedVariables false
set_option linter.unusedSimpArgs false
namespace Go.Tm
open Go.Eng

/-! ### 1. Boxes of the callers -/
abbrev LB := Nat × Nat × Box
def lows (S : Stk) : List LB → Stk
  | [] => S
  | (l, k, b) :: r => upd (lows S r) l k b
/-- they lie there, each for itself -/
def LowOK (S : Stk) : List LB → Prop
  | [] => True
  | (l, k, b) :: r => (∃ c, look S l k = some c) ∧ (∀ q ∈ r, ¬ (q.1 = l ∧ q.2.1 = k)) ∧ LowOK S r
theorem length_lows (S : Stk) : ∀ bs : List LB, (lows S bs).length = S.length
  | [] => rfl
  | (l, k, b) :: r => by simp only [lows, length_upd, length_lows S r]
theorem look_lows_ne {S : Stk} {l k : Nat} : ∀ {bs : List LB}, (∀ q ∈ bs, ¬ (q.1 = l ∧ q.2.1 = k)) → look (lows S bs) l k = look S l k
  | [], _ => rfl
  | (l', k', b) :: r, h => by
    simp only [lows]
    rw [look_upd_ne _ (fun e => h (l', k', b) (by simp) ⟨e.1.symm, e.2.symm⟩)]
    exact look_lows_ne fun q hq => h q (by simp [hq])
theorem look_lows {S : Stk} {i l k : Nat} {b : Box} : ∀ {bs : List LB}, LowOK S bs → bs[i]? = some (l, k, b) → look (lows S bs) l k = some b
  | [], _, h => by simp at h
  | (l', k', b') :: r, h, hi => by
    obtain ⟨⟨c, hc⟩, h2, h3⟩ := h
    cases i with
    | zero =>
      simp at hi
      obtain ⟨rfl, rfl, rfl⟩ := hi
      simp only [lows]
      exact look_upd_self (by rw [look_lows_ne h2]; exact hc) b'
    | succ i =>
      have hi' : r[i]? = some (l, k, b) := by simpa using hi
      have hm : (l, k, b) ∈ r := List.mem_of_getElem? hi'
      have hne := h2 _ hm
      simp only [lows]
      rw [look_upd_ne _ hne]
      exact look_lows h3 hi'
theorem upd_upd' {st : Stk} {l k : Nat} {b : Box} (h : look st l k = some b) (x y : Box) : upd (upd st l k x) l k y = upd st l k y := by
  induction st with
  | nil => rfl
  | cons F S ih =>
    unfold look at h
    split at h
    · rename_i e
      simp only [upd]
      rw [if_pos e, if_pos e]
      simp only [upd]
      rw [if_pos e, List.set_set]
    · rename_i e
      simp only [upd]
      rw [if_neg e, if_neg e]
      simp only [upd, length_upd]
      rw [if_neg e, ih h]
theorem upd_comm {st : Stk} {l k l' k' : Nat} (h : ¬ (l' = l ∧ k' = k)) (x y : Box) : upd (upd st l k x) l' k' y = upd (upd st l' k' y) l k x := by
  induction st with
  | nil => rfl
  | cons F S ih =>
    by_cases e : l = S.length
    · by_cases e' : l' = S.length
      · subst e; subst e'
        have hk : k ≠ k' := fun hh => h ⟨rfl, hh.symm⟩
        simp only [upd, if_true]
        rw [List.set_comm _ _ hk]
      · simp only [upd]
        rw [if_pos e, if_neg e']
        simp only [upd, length_upd]
        rw [if_neg e', if_pos e]
    · by_cases e' : l' = S.length
      · simp only [upd]
        rw [if_neg e, if_pos e']
        simp only [upd, length_upd]
        rw [if_pos e', if_neg e]
      · simp only [upd]
        rw [if_neg e, if_neg e']
        simp only [upd, length_upd]
        rw [if_neg e, if_neg e', ih]
theorem upd_lows {S : Stk} {i l k : Nat} {b b' : Box} : ∀ {bs bs' : List LB}, LowOK S bs → bs[i]? = some (l, k, b) → SetK bs i (l, k, b') bs' → upd (lows S bs) l k b' = lows S bs'
  | [], bs', _, h, _ => by simp at h
  | (l', k', c) :: r, bs', h, hi, hs => by
    obtain ⟨⟨c0, hc⟩, h2, h3⟩ := h
    cases hs with
    | zero =>
      simp at hi
      obtain ⟨rfl, rfl, rfl⟩ := hi
      simp only [lows]
      exact upd_upd' (b := c0) (by rw [look_lows_ne h2]; exact hc) _ _
    | succ hs =>
      rename_i r' i
      have hi' : r[i]? = some (l, k, b) := by simpa using hi
      have hne := h2 _ (List.mem_of_getElem? hi')
      simp only [lows]
      rw [upd_comm hne, upd_lows h3 hi' hs]
theorem LowOK.set {S : Stk} {i l k : Nat} {b b' : Box} : ∀ {bs bs' : List LB}, LowOK S bs → bs[i]? = some (l, k, b) → SetK bs i (l, k, b') bs' → LowOK S bs'
  | [], bs', _, h, _ => by simp at h
  | (l', k', c) :: r, bs', h, hi, hs => by
    obtain ⟨⟨c0, hc⟩, h2, h3⟩ := h
    cases hs with
    | zero =>
      simp at hi
      obtain ⟨rfl, rfl, rfl⟩ := hi
      exact ⟨⟨c0, hc⟩, h2, h3⟩
    | succ hs =>
      rename_i r' i
      have hi' : r[i]? = some (l, k, b) := by simpa using hi
      refine ⟨⟨c0, hc⟩, fun q hq => ?_, LowOK.set h3 hi' hs⟩
      have he := hs.eq
      subst he
      rcases List.mem_or_eq_of_mem_set hq with hq | hq
      · exact h2 q hq
      · subst hq; exact h2 (l, k, b) (List.mem_of_getElem? hi')
/-- what a function with pointers is told of them -/
def LowIn (S : Stk) : List LB → Prop
  | [] => True
  | (l, k, b) :: r => look S l k = some b ∧ (∀ q ∈ r, ¬ (q.1 = l ∧ q.2.1 = k)) ∧ LowIn S r
theorem LowIn.ok {S : Stk} : ∀ {bs : List LB}, LowIn S bs → LowOK S bs
  | [], _ => trivial
  | (l, k, b) :: r, h => ⟨⟨b, h.1⟩, h.2.1, LowIn.ok h.2.2⟩
theorem upd_same' {st : Stk} {l k : Nat} {b : Box} (h : look st l k = some b) : upd st l k b = st := by
  induction st with
  | nil => rfl
  | cons F S ih =>
    unfold look at h
    simp only [upd]
    split at h
    · rename_i e
      rw [if_pos e]
      congr 1
      obtain ⟨h1, h2⟩ := List.getElem?_eq_some_iff.1 h
      rw [← h2]; exact List.set_getElem_self h1
    · rename_i e; rw [if_neg e, ih h]
theorem LowIn.eq {S : Stk} : ∀ {bs : List LB}, LowIn S bs → lows S bs = S
  | [], _ => rfl
  | (l, k, b) :: r, h => by simp only [lows]; rw [LowIn.eq h.2.2, upd_same' h.1]
theorem low_lt {S : Stk} {i l k : Nat} {b : Box} {bs : List LB} (h : LowOK S bs) (hi : bs[i]? = some (l, k, b)) : l < S.length := by
  have := look_lt (look_lows h hi)
  rwa [length_lows] at this
theorem LowOK.keys {S : Stk} : ∀ {bs cs : List LB}, LowOK S bs → bs.map (fun q => (q.1, q.2.1)) = cs.map (fun q => (q.1, q.2.1)) → LowOK S cs
  | [], [], _, _ => trivial
  | [], _ :: _, _, h => by simp at h
  | _ :: _, [], _, h => by simp at h
  | (l, k, b) :: r, (l', k', b') :: r', h, e => by
    simp only [List.map_cons, List.cons.injEq, Prod.mk.injEq] at e
    obtain ⟨⟨rfl, rfl⟩, e⟩ := e
    obtain ⟨h1, h2, h3⟩ := h
    refine ⟨h1, fun q hq => ?_, LowOK.keys h3 e⟩
    have : (q.1, q.2.1) ∈ r.map (fun q => (q.1, q.2.1)) := by rw [e]; exact List.mem_map.2 ⟨q, hq, rfl⟩
    obtain ⟨p, hp, he⟩ := List.mem_map.1 this
    simp at he
    have := h2 p hp
    rwa [he.1, he.2] at this
/-- looking and writing through one's own frame -/
theorem lk_lows {F : List Box} {S : Stk} {i l k : Nat} {b : Box} {bs : List LB} (h : LowOK S bs) (hi : bs[i]? = some (l, k, b)) : look (F :: lows S bs) l k = some b := lk_low (look_lows h hi)
theorem up_lows {F : List Box} {S : Stk} {i l k : Nat} {b b' : Box} {bs bs' : List LB} (h : LowOK S bs) (hi : bs[i]? = some (l, k, b)) (hs : SetK bs i (l, k, b') bs') : upd (F :: lows S bs) l k b' = F :: lows S bs' :=
  up_low (by rw [length_lows]; exact low_lt h hi) (upd_lows h hi hs)

/-! ### 2. What a call with pointers is told, and leaves -/
theorem li0 {S : Stk} : LowIn S [] := trivial
theorem lic {S : Stk} {l k : Nat} {b : Box} {r : List LB} (h : look S l k = some b) (hn : ∀ q ∈ r, ¬ (q.1 = l ∧ q.2.1 = k)) (t : LowIn S r) : LowIn S ((l, k, b) :: r) := ⟨h, hn, t⟩
theorem nq0 {l k : Nat} : ∀ q ∈ ([] : List LB), ¬ (q.1 = l ∧ q.2.1 = k) := fun q h => by simp at h
theorem nqc {l k l' k' : Nat} {b : Box} {r : List LB} (h : l' ≠ l ∨ k' ≠ k) (t : ∀ q ∈ r, ¬ (q.1 = l ∧ q.2.1 = k)) : ∀ q ∈ ((l', k', b) :: r : List LB), ¬ (q.1 = l ∧ q.2.1 = k) := fun q hq => by
  rcases List.mem_cons.1 hq with rfl | hq
  · simp only; omega
  · exact t q hq
inductive Lows : Stk → List LB → Stk → Prop where
  | nil {S : Stk} : Lows S [] S
  | cons {S T U : Stk} {l k : Nat} {b : Box} {r : List LB} : Lows S r T → upd T l k b = U → Lows S ((l, k, b) :: r) U
theorem Lows.eq {S T : Stk} {bs : List LB} (h : Lows S bs T) : lows S bs = T := by
  induction h with
  | nil => rfl
  | cons _ h2 ih => simp only [lows, ih, h2]

/-! ### 3. Words of printed texts -/
def chk {α : Type} (p : Prop) [Decidable p] (m : Option α) : Option α := if p then m else none
def bnd {α β : Type} (m : Option α) (k : α → Option β) : Option β := match m with
  | some x => k x
  | none => none
theorem chk_inv {α : Type} {p : Prop} [Decidable p] {m : Option α} {r : α} (h : chk p m = some r) : p ∧ m = some r := by
  unfold chk at h
  split at h
  · rename_i hp; exact ⟨hp, h⟩
  · simp at h
theorem bnd_inv {α β : Type} {m : Option α} {k : α → Option β} {r : β} (h : bnd m k = some r) : ∃ x, m = some x ∧ k x = some r := by
  cases m with
  | none => simp [bnd] at h
  | some x => exact ⟨x, rfl, h⟩
theorem chk_pos {α : Type} {p : Prop} [Decidable p] {m : Option α} (h : p) : chk p m = m := if_pos h
theorem bnd_some {α β : Type} {x : α} {k : α → Option β} : bnd (some x) k = k x := rfl
theorem some_inj {α : Type} {a b : α} (h : some a = some b) : a = b := by simpa using h
theorem ite_t {α : Type} {c : Bool} {a b r : α} (h : (if c = true then a else b) = r) (hc : c = true) : a = r := by rw [if_pos hc] at h; exact h
theorem ite_f {α : Type} {c : Bool} {a b r : α} (h : (if c = true then a else b) = r) (hc : c = false) : b = r := by rw [if_neg (by simp [hc])] at h; exact h
def u8w (n : Int) : UInt8 := UInt8.ofNat (n % 256).toNat
theorem u8w_eq (n : Int) : IntKind.u8.wrap n = ((u8w n).toNat : Int) := by
  have h0 := Int.emod_nonneg n (show (256 : Int) ≠ 0 by omega)
  have h1 := Int.emod_lt_of_pos n (show (0 : Int) < 256 by omega)
  have e : (u8w n).toNat = (n % 256).toNat := by
    unfold u8w
    rw [UInt8.toNat_ofNat']
    omega
  rw [e]
  unfold IntKind.wrap
  simp [IntKind.bits, IntKind.signed]
  omega
theorem so_u8 {P : Program} {A : AEnv} {st st' : Stk} {op : Op} {n : Int} {w : Nat} (h : SO P A st op (some (.at (.int .u8 (IntKind.u8.wrap n)))) st' w) : SO P A st op (some (byteTV (u8w n))) st' w := by
  rw [u8w_eq] at h; exact h
/-- a value of another spelling -/
theorem so_to {P : Program} {A : AEnv} {st st' : Stk} {op : Op} {v v' : TV} {w : Nat} (h : SO P A st op (some v) st' w) (e : v = v') : SO P A st op (some v') st' w := by subst e; exact h
def oth : TV → Bool
  | .agg _ _ | .arr _ _ | .row _ _ | .tup _ => false
  | _ => true
theorem fits_oth {P : Program} {t : TypeId} (h : (isAggT P t == some false && sizeT P t == some 1) = true) {v : TV} (hv : oth v = true) : fits P t v = true := by
  cases v <;> first | exact h | simp [oth] at hv
theorem fits_str {P : Program} {t : TypeId} (h : (match P.underlying t with | some (.struct _) => true | _ => false) = true) {l : List TV} : fits P t (.agg t l) = true := by
  simp only [fits, BEq.rfl, Bool.true_and]; exact h
theorem so_bslice0 {P : Program} {A : AEnv} {st : Stk} {t el z b : Nat} {zero : TV} (hs : slT P t = some (el, z, b)) (hz : zeroTV P el = some zero) : SO P A st (.buildSlice t 0 #[]) (some (.sl true el [])) st st.length :=
  so_bslice (ks := []) (l := []) (l' := []) rfl hs hz rfl rfl rfl (by omega) (by simp) rfl
end Go.Tm
end

section
/- Walks: words for printed proofs. -/
set_option linter.unusedVariables false
set_option linter.unusedSimpArgs false
namespace Go.Tm
open Go.Eng
section
variable {P : Program} {M : Masks} {f : FuncId} {n B : Nat} {Q : Ex → TQ} {A : AEnv} {st : Stk}
theorem ks_r {b : Code} (h : QX n B (Q .ret) A st) : QX n B (KSeqT P M f b Q .ret) A st := h
theorem ks_x {b : Code} {i : Nat} (h : QX n B (Q (.exit i)) A st) : QX n B (KSeqT P M f b Q (.exit i)) A st := h
theorem kb_n {id : Nat} (h : QX n B (Q .normal) A st) : QX n B (TBlock id Q .normal) A st := h
theorem kb_r {id : Nat} (h : QX n B (Q .ret) A st) : QX n B (TBlock id Q .ret) A st := h
theorem kb_e {id : Nat} (h : QX n B (Q .normal) A st) : QX n B (TBlock id Q (.exit id)) A st := by
  have e : TBlock id Q (.exit id) = Q .normal := by simp [TBlock]
  rw [e]; exact h
theorem kb_x {id i : Nat} (hi : Nat.beq i id = false) (h : QX n B (Q (.exit i)) A st) : QX n B (TBlock id Q (.exit i)) A st := by
  have hne : i ≠ id := fun e => by subst e; simp at hi
  have e : TBlock id Q (.exit i) = Q (.exit i) := by simp [TBlock, hne]
  rw [e]; exact h
theorem jk_r {τ : Type} {E : τ → AEnv} {S : τ → Stk} {ok : τ → Prop} (h : QX n B (Q .ret) A st) : QX n B (JK P n B E S ok Q .ret) A st := h
theorem jk_x {τ : Type} {E : τ → AEnv} {S : τ → Stk} {ok : τ → Prop} {i : Nat} (h : QX n B (Q (.exit i)) A st) : QX n B (JK P n B E S ok Q (.exit i)) A st := h
theorem jk_n {τ : Type} {E : τ → AEnv} {S : τ → Stk} {ok : τ → Prop} (t : τ) (ht : ok t) (hw : WX P n A st (E t) (S t)) : QX n B (JK P n B E S ok Q .normal) A st := kmeet t ht hw
end
section
variable {P : Program} {n : Nat} {A : AEnv} {st : Stk}
theorem wxeq {i : Nat} {v v' : TV} (hi : ag A i = some v) (e : v = v') : WX P n A st ((i, v') :: A) st := by
  subst e
  exact wxs (subc hi (subr A))
theorem con_of' {g : FuncId} {fn : Func} {k : Code} {B : Nat} {args : List TV} {S S' : Stk} {O : TV} {R : List Box} {A : AEnv} {rs : List ResultVar} (hf : P.funcs[g]? = some fn) (hb : fn.body = some k) (hn : (fn.name == "runtime.NumGoroutine" || decide (args.length > fn.ntmps)) = false) (hnt : fn.ntmps = n) (hrs : fn.results.toList = rs) (hB : B ≤ S.length) (hA : enumA 0 args = A) (h : CX P full g n B k (KF P rs O R S' B) A ([] :: S)) : Con P full g args S B O R S' := by
  subst hnt; subst hrs
  exact con_of hf hb hn hB hA h
end
/-! ### as it is now -/
section
variable {st : Stk}
theorem su_ref {l k ver off len el : Nat} {ex : Bool} {c : List TV} (h : elems st el (.ref l k ver off len ex el) = some c) : snapU st (.ref l k ver off len ex el) = some (.sl false el c, [(l, k)]) := by simp [snapU, h]
theorem su_at {v : Value} : snapU st (.at v) = some (.at v, []) := by simp [snapU]
theorem su_sl {ex : Bool} {el : TypeId} {l : List TV} : snapU st (.sl ex el l) = some (.sl ex el l, []) := by simp [snapU]
theorem su_arr {el : TypeId} {l : List TV} : snapU st (.arr el l) = some (.arr el l, []) := by simp [snapU]
theorem su_ep {v : TV} : snapU st (.ep v) = some (.ep v, []) := by simp [snapU]
theorem su_agg {t : TypeId} {l l' : List TV} {ks : List (Nat × Nat)} (h : snapUL st l = some (l', ks)) : snapU st (.agg t l) = some (.agg t l', ks) := by simp [snapU, h]
theorem sul0 : snapUL st [] = some ([], []) := by simp [snapUL]
theorem sulc {v v' : TV} {l l' : List TV} {k ks : List (Nat × Nat)} (h : snapU st v = some (v', k)) (t : snapUL st l = some (l', ks)) : snapUL st (v :: l) = some (v' :: l', k ++ ks) := by simp [snapUL, h, t]
theorem snapL_of {l l' : List TV} {ks : List (Nat × Nat)} (h : snapUL st l = some (l', ks)) (hs : solidL l = false) : snapL st l = some (l', ks) := by simp [snapL, h, hs]
theorem snap_of {v v' : TV} {ks : List (Nat × Nat)} (h : snapU st v = some (v', ks)) (hs : solid v = false) : snap st v = some (v', ks) := by simp [snap, h, hs]
theorem sol0 : solidL [] = true := rfl
theorem solc {v : TV} {l : List TV} (h : solid v = true) (t : solidL l = true) : solidL (v :: l) = true := by simp [solidL, h, t]
theorem sola {t : TypeId} {l : List TV} (h : solidL l = true) : solid (.agg t l) = true := by simpa [solid] using h
theorem fl_mem0 {P : Program} {el : TypeId} : ∀ v ∈ ([] : List TV), fits P el v = true ∧ solid v = true := fun v h => by simp at h
theorem fl_memc {P : Program} {el : TypeId} {a : TV} {l : List TV} (h1 : fits P el a = true) (h2 : solid a = true) (t : ∀ v ∈ l, fits P el v = true ∧ solid v = true) : ∀ v ∈ a :: l, fits P el v = true ∧ solid v = true := fun v h => by
  rcases List.mem_cons.1 h with rfl | h
  · exact ⟨h1, h2⟩
  · exact t v h
end
end Go.Tm
namespace Go.Tm
open Go.Eng
theorem idx_map {α β : Type} {g : α → β} {l : List α} {j : Int} {x : α} (h : idx l j = some x) : idx (l.map g) j = some (g x) := by
  unfold idx at h ⊢
  split at h
  · rename_i h0; rw [if_pos h0]; exact map_at' h
  · simp at h
where
  map_at' {α β : Type} {g : α → β} {l : List α} {i : Nat} {x : α} (h : l[i]? = some x) : (l.map g)[i]? = some (g x) := by rw [List.getElem?_map, h]; rfl
theorem wrapNat {n : Nat} (h : n < 256) : IntKind.i64.wrap (n : Int) = n := wrap64 (by omega) (by omega)
section
variable {P : Program} {A : AEnv} {st : Stk}
theorem so_b2i {s d : TypeId} {x : Operand} {n : UInt8} (hx : ao A x = some (byteTV n)) (h1 : kindT P s = 2) (h2 : intT P d = some .i64) : SO P A st (.convert s d x) (some (intTV (n.toNat : Int))) st st.length := by
  have := so_cint (st := st) (s := s) (d := d) (k := .u8) (n := (n.toNat : Int)) hx h1 h2
  rw [wrapNat n.toNat_lt] at this
  exact this
theorem so_makeE {x y : Operand} {t el z bb N k : Nat} {n : Int} {F F' : List Box} {T : Stk} {α : Type} {g : α → TV} {v : α} (hx : ao A x = some (intTV n)) (hy : ao A y = some (intTV n)) (hs : slT P t = some (el, z, bb)) (hz : zeroTV P el = some (g v)) (hc : 0 ≤ n ∧ n ≤ n ∧ (bb : Int) * n ≤ 281474976710656) (hN : T.length = N) (hk : F.length = k) (hF : Snoc F ⟨.row el ((List.replicate n.toNat v).map g), false⟩ F') :
    SO P A (F :: T) (.makeSlice t x y) (some (.ref N k (List.replicate n.toNat v).length 0 (List.replicate n.toNat v).length true el)) (F' :: T) (F :: T).length := by
  have := so_make (A := A) hx hy hs hz hc hN hk hF
  simpa using this
end
theorem con_lows {P : Program} {M : Masks} {g : FuncId} {args : List TV} {S T : Stk} {B : Nat} {O : TV} {R : List Box} {bs : List LB} (hc : Con P M g args S B O R (lows S bs)) (hl : Lows S bs T) : Con P M g args S B O R T := by
  rw [hl.eq] at hc; exact hc
theorem cx_lows {P : Program} {M : Masks} {f : FuncId} {n B : Nat} {c : Code} {Q : Ex → TQ} {A : AEnv} {S : Stk} {bs : List LB} (hL : LowIn S bs) (h : CX P M f n B c Q A ([] :: lows S bs)) : CX P M f n B c Q A ([] :: S) := by
  rw [hL.eq] at h; exact h
inductive COL : List TV → List TV → Prop where
  | nil : COL [] []
  | cons {a b : TV} {l r : List TV} : CO a b → COL l r → COL (a :: l) (b :: r)
theorem COL.rvl {P : Program} {K : Cfg} {l r : List TV} (h : COL l r) : ∀ {vs : List Value}, RVL P K l vs → RVL P K r vs := by
  induction h with
  | nil => intro vs hv; exact hv
  | cons h1 _ ih =>
    intro vs hv
    obtain ⟨w, ws, rfl, hw, hws⟩ := hv.inv
    exact .cons (h1 _ _ _ hw) (ih hws)
theorem con_cv {P : Program} {M : Masks} {g : FuncId} {args args' : List TV} {S S' : Stk} {B : Nat} {O : TV} {R : List Box} (h : COL args args') (hc : Con P M g args' S B O R S') : Con P M g args S B O R S' :=
  fun G s vals hr hl hv => hc G s vals hr hl (h.rvl hv)
/-- a box's content, told otherwise -/
theorem wxbox {P : Program} {n : Nat} {A : AEnv} {F F' : List Box} {T : Stk} {k : Nat} {b : Box} {c : TV} (hb : F[k]? = some b) (hv : CV b.c c) (hver : vers c = vers b.c) (hlev : ∀ m, levB m b.c = true → levB m c = true) (hnr : ∀ el, b.c ≠ .row el []) (hs : SetK F k ⟨c, b.sh⟩ F') : WX P n A (F :: T) A (F' :: T) := by
  have hF := hs.eq
  subst hF
  have hlk : ∀ l j b', look ((F.set k ⟨c, b.sh⟩) :: T) l j = some b' → (∃ b0, look (F :: T) l j = some b0 ∧ CV b0.c b'.c ∧ b'.sh = b0.sh ∧ vers b'.c = vers b0.c ∧ (∀ m, levB m b0.c = true → levB m b'.c = true) ∧ (b'.c = b0.c ∨ ∀ el, b0.c ≠ .row el [])) := by
    intro l j b' h
    simp only [look] at h ⊢
    split at h
    · rename_i e
      rw [if_pos e]
      rw [List.getElem?_set] at h
      split at h
      · rename_i e2
        subst e2
        split at h
        · simp at h; subst h
          exact ⟨b, hb, hv, rfl, hver, hlev, .inr hnr⟩
        · simp at h
      · exact ⟨b', h, cvr, rfl, rfl, fun _ h => h, .inl rfl⟩
    · rename_i e
      rw [if_neg e]
      exact ⟨b', h, cvr, rfl, rfl, fun _ h => h, .inl rfl⟩
  have hkl : ∀ l j b0, look (F :: T) l j = some b0 → ∃ b', look ((F.set k ⟨c, b.sh⟩) :: T) l j = some b' ∧ vers b'.c = vers b0.c := by
    intro l j b0 h
    simp only [look] at h ⊢
    split at h
    · rename_i e
      rw [if_pos e]
      rw [List.getElem?_set]
      split
      · rename_i e2
        subst e2
        have hlt := (List.getElem?_eq_some_iff.1 hb).1
        rw [if_pos hlt]
        rw [h] at hb; simp at hb; subst hb
        exact ⟨_, rfl, hver⟩
      · exact ⟨b0, h, rfl⟩
    · rename_i e
      rw [if_neg e]
      exact ⟨b0, h, rfl⟩
  have hvs : vsOf ((F.set k ⟨c, b.sh⟩) :: T) = vsOf (F :: T) := by
    funext l j
    unfold vsOf
    cases h0 : look (F :: T) l j with
    | none =>
      cases h1 : look ((F.set k ⟨c, b.sh⟩) :: T) l j with
      | none => rfl
      | some b' => obtain ⟨b0, h2, _⟩ := hlk l j b' h1; rw [h0] at h2; simp at h2
    | some b0 =>
      obtain ⟨b', h1, h2⟩ := hkl l j b0 h0
      rw [h1]; simp [h2]
  refine ⟨rfl, fun te hA => ⟨te, fun G s a hr hl he => ?_, hA⟩⟩
  have hcfg : cfg G ((F.set k ⟨c, b.sh⟩) :: T) s = cfg G (F :: T) s := by unfold cfg; rw [hvs]
  refine ⟨G, ⟨hr.fz, fun l j b' hb' => ?_, fun l j l' j' b1 b2 id h1 h2 => ?_, hr.N⟩, fun l j b' hb' => ?_, by rw [hcfg]; exact he, rfl, fun _ h => h, fun _ _ => rfl, fun l j m hlt hm => ⟨by rw [hvs]; exact hm, rfl⟩⟩
  · obtain ⟨b0, h0, h1, h2, h3, h4, h5⟩ := hlk l j b' hb'
    have := hr.box l j b0 h0
    unfold BoxOK at this ⊢
    rw [hcfg, h2]
    rcases this with h | ⟨id, cs, a1, a2, a3, a4, a5, a6⟩
    · left
      rcases h5 with h5 | h5
      · rw [h5]; exact h
      · obtain ⟨el, h6, _⟩ := h
        exact absurd h6 (h5 el)
    · exact .inr ⟨id, cs, a1, a2, a3, a4, a5, h1.rc _ _ _ a6⟩
  · obtain ⟨b0, h0, _⟩ := hlk l j b1 h1
    obtain ⟨b0', h0', _⟩ := hlk l' j' b2 h2
    exact hr.inj l j l' j' b0 b0' id h0 h0'
  · obtain ⟨b0, h0, h1, h2, h3, h4, h5⟩ := hlk l j b' hb'
    exact h4 _ (hl l j b0 h0)
end Go.Tm
end

section
/- Walks: boxes that a function hands over. -/
set_option linter.unusedVariables false
set_option linter.unusedSimpArgs false
namespace Go.Tm
open Go.Eng
theorem rt0 {r : Nat → Nat → Option (Nat × Nat)} : renTL r [] = some [] := rfl
theorem rtc {r : Nat → Nat → Option (Nat × Nat)} {v v' : TV} {l l' : List TV} (h : renTV r v = some v') (t : renTL r l = some l') : renTL r (v :: l) = some (v' :: l') := by simp [renTL, h, t]
theorem rns {r : Nat → Nat → Option (Nat × Nat)} {v : TV} (h : solid v = true) : renTV r v = some v := ren_solid h
theorem rna {r : Nat → Nat → Option (Nat × Nat)} {t : TypeId} {l l' : List TV} (h : renTL r l = some l') : renTV r (.agg t l) = some (.agg t l') := by simp [renTV, h]
theorem rnt {r : Nat → Nat → Option (Nat × Nat)} {l l' : List TV} (h : renTL r l = some l') : renTV r (.tup l) = some (.tup l') := by simp [renTV, h]
theorem rnk {T : Stk} {L k i ver off len el : Nat} {ex : Bool} {m : List Nat} (hN : T.length = L) (h : idxIn m k = some i) : renTV (keepR T.length m) (.ref L k ver off len ex el) = some (.ref L i ver off len ex el) := by
  subst hN
  simp only [renTV, keepR]
  simp [h]
theorem rnkp {T : Stk} {L k i ver : Nat} {p : List Pe} {m : List Nat} (hN : T.length = L) (h : idxIn m k = some i) : renTV (keepR T.length m) (.ptr L k ver p) = some (.ptr L i ver p) := by
  subst hN
  simp only [renTV, keepR]
  simp [h]
theorem rnh {F : List Box} {T : Stk} {N d k i ver off len el : Nat} {ex : Bool} (hN : T.length = N) (hd : F.length = d) (hk : d + i = k) : renTV (shiftR (T.length + 1) T.length F.length) (.ref (F :: T).length i ver off len ex el) = some (.ref N k ver off len ex el) := by
  subst hN; subst hd; subst hk
  simp only [renTV, shiftR, List.length_cons]
  simp
theorem rnhp {F : List Box} {T : Stk} {N d k i ver : Nat} {p : List Pe} (hN : T.length = N) (hd : F.length = d) (hk : d + i = k) : renTV (shiftR (T.length + 1) T.length F.length) (.ptr (F :: T).length i ver p) = some (.ptr N k ver p) := by
  subst hN; subst hd; subst hk
  simp only [renTV, shiftR, List.length_cons]
  simp
theorem rb0 {r : Nat → Nat → Option (Nat × Nat)} : renBoxes r [] = some [] := rfl
theorem rbc {r : Nat → Nat → Option (Nat × Nat)} {c c' : TV} {sh : Bool} {l l' : List Box} (h : renTV r c = some c') (t : renBoxes r l = some l') : renBoxes r (⟨c, sh⟩ :: l) = some (⟨c', sh⟩ :: l') := by simp [renBoxes, renBox, h, t]
theorem rnrow {r : Nat → Nat → Option (Nat × Nat)} {el : TypeId} {l : List TV} : renTV r (.row el l) = some (.row el l) := rfl
theorem retM {F : List Box} {T : Stk} {raws o : List TV} {m : List Nat} {R0 R : List Box} (hm : m ≠ []) (h1 : renTL (keepR T.length m) raws = some o) (h2 : pickB F m = some R0) (h3 : renBoxes (keepR T.length m) R0 = some R) (h4 : noDup m = true) (h5 : raws.all (fun v => !isTup v) = true) : retT m (F :: T) raws = some (ttup o, R, T) := by
  cases m with
  | nil => exact absurd rfl hm
  | cons a m => simp only [retT, keepT, h1, h2, h3, h4, h5]; simp
inductive AppL {α : Type} : List α → List α → List α → Prop where
  | nil {r : List α} : AppL [] r r
  | cons {a : α} {l r x : List α} : AppL l r x → AppL (a :: l) r (a :: x)
theorem AppL.eq {α : Type} {l r x : List α} (h : AppL l r x) : l ++ r = x := by induction h <;> simp_all
theorem mgR {F FR : List Box} {T : Stk} {out o : TV} {R R' : List Box} (hR : R ≠ []) (h1 : renTV (shiftR (T.length + 1) T.length F.length) out = some o) (h2 : renBoxes (shiftR (T.length + 1) T.length F.length) R = some R') (h3 : AppL F R' FR) : mergeT (F :: T) out R = some (o, FR :: T) := by
  rw [← h3.eq]
  cases R with
  | nil => exact absurd rfl hR
  | cons a R => simp only [mergeT, h1, h2]
theorem coeq {v v' : TV} (h : v = v') : CO v v' := by subst h; exact cor
theorem cveq {v v' : TV} (h : v = v') : CV v v' := by subst h; exact cvr
theorem cvrx_rc {P : Program} {K : Cfg} {cs : List Value} {l k ver off len el : Nat} {ex : Bool} (h : RC P K (.ref l k ver off len ex el) cs) : RC P K (.ref l k ver off len false el) cs := by
  cases h with
  | ref hv hle h hc =>
    refine .ref hv hle (fun e => ?_) hc
    rcases h e with ⟨id, c, z, a1, a2, a3, a4, a5⟩ | h
    · exact .inl ⟨id, c, z, a1, a2, a3, (fun e => nomatch e), a5⟩
    · exact .inr h
theorem cvrx {l k ver off len el : Nat} {ex : Bool} : CV (.ref l k ver off len ex el) (.ref l k ver off len false el) := ⟨rfl, rfl, fun P K cs h => cvrx_rc h⟩
theorem con_callM {P : Program} {M : Masks} {g : FuncId} {args args' : List TV} {S S1 S' : Stk} {B : Nat} {O : TV} {R : List Box} {ts : List TypeId} {ks : List (Nat × Nat)} (hc : canonL P S ts args = some (args', ks)) (hm : marks S ks = S1) (h : Con P M g args' S1 B O R S') : Con P M g args S B O R S' := by
  subst hm; exact con_call hc h
end Go.Tm
namespace Go.Tm
open Go.Eng
theorem spM {el : TypeId} {α : Type} {g : α → TV} {l : List α} {i : Nat} {x x' : α} {p : List Pe} {val u' : TV} (hx : l[i]? = some x) (h : setP (g x) p val = some u') (hu : u' = g x') : setP (.row el (l.map g)) (.idx el i :: p) val = some (.row el ((l.set i x').map g)) := by
  subst hu
  exact spr (map_at hx) h (map_set' _ _ _)
theorem spY {el : TypeId} {α : Type} {m : Nat} {g : α → TV} {v : Vector α m} {i : Nat} {x x' : α} {p : List Pe} {val u' : TV} (hx : v.toList[i]? = some x) (h : setP (g x) p val = some u') (hu : u' = g x') : setP (.arr el (v.toList.map g)) (.idx el i :: p) val = some (.arr el ((v.setIfInBounds i x').toList.map g)) := by
  subst hu
  exact spa (map_at hx) h (by rw [Vector.toList_setIfInBounds]; exact map_set' _ _ _)
end Go.Tm
namespace Go.Tm
open Go.Eng
theorem idx_bnd {α : Type} {l : List α} {j : Int} {x : α} {n : Nat} (h : idx l j = some x) (e : l.length = n) : 0 ≤ j ∧ j < (n : Int) := by
  subst e
  have := idx_some h
  exact ⟨this.1, this.2.2⟩
end Go.Tm
namespace Go.Tm
open Go.Eng
theorem aef_nil {P : Program} {eq : TypeId → Value → Value → Option Bool} {xs ys : Array Value} : aEqFields P eq xs ys [] = some true := rfl
theorem aef_cons {P : Program} {eq : TypeId → Value → Value → Option Bool} {xs ys : Array Value} {f : Field} {r : List Field} {a b : Value} {p q : Bool} (hn : f.name ≠ "_") (ha : aEqN.aPart P f.type xs f.offset = some a) (hb : aEqN.aPart P f.type ys f.offset = some b) (he : eq f.type a b = some p) (hr : aEqFields P eq xs ys r = some q) : aEqFields P eq xs ys (f :: r) = some (p && q) := by
  simp only [aEqFields, ha, hb, he, hr]
  rw [if_neg hn]
  cases p <;> rfl
theorem ba_beq (a b : List UInt8) : ((⟨a.toArray⟩ : ByteArray) == ⟨b.toArray⟩) = decide (a = b) := by
  have h : ((⟨a.toArray⟩ : ByteArray) == ⟨b.toArray⟩) = (a.toArray == b.toArray) := rfl
  rw [h]
  by_cases e : a = b <;> simp [e]
theorem part_of {P : Program} {t : TypeId} {cs : Array Value} {off : Nat} {v : Value} (h : isAggT P t = some false) (hv : cs[off]? = some v) : aEqN.aPart P t cs off = some v := by simp [aEqN.aPart, h, hv]
theorem part_agg {P : Program} {t n : TypeId} {cs : Array Value} {off : Nat} {ds : Array Value} (h : isAggT P t = some true) (hs : sizeT P t = some n) (hv : cs.extract off (off + n) = ds) : aEqN.aPart P t cs off = some (.agg ds) := by simp [aEqN.aPart, h, hs, hv]
theorem aeq_struct {P : Program} {t d : Nat} {fs : Array Field} {xs ys : Array Value} {r : Bool} (hu : P.underlying t = some (.struct fs)) (hh : P.stoodInHeld t = false) (h : aEqFields P (aEqN P d) xs ys fs.toList = some r) : aEqN P (d + 1) t (.agg xs) (.agg ys) = some r := by
  unfold aEqN
  simp only [hu, hh]
  exact h
theorem abin_agg {P : Program} {t : Nat} {xs ys : Array Value} {r : Bool} (hg : P.eqGuardType P.depth t = false) (h : aEqN P Op.maxDepth t (.agg xs) (.agg ys) = some r) : aBin P .eql t (.agg xs) (.agg ys) = some (.bool r) ∧ aBin P .neq t (.agg xs) (.agg ys) = some (.bool (!r)) := by
  simp [aBin, aEq, hg, h]
end Go.Tm
namespace Go.Tm
open Go.Eng
theorem so_arr {P : Program} {A : AEnv} {st : Stk} {t el n z : Nat} {ps : Array (Nat × Operand)} {l z0 : List TV} (hl : aparts A ps.toList = some (enumL 0 l)) (hz : zeroTV P t = some (.arr el z0)) (ha : arT P t = some (n, el, z)) (hn : z0.length = l.length) (hf : ∀ v ∈ l, fits P el v = true ∧ solid v = true) : SO P A st (.build t ps) (some (.arr el l)) st st.length := by
  have hb : buildA P el z0 (enumL 0 l) = some l := by
    have := buildA_enum (P := P) (l := l) hf [] z0 hn
    simpa using this
  exact ⟨fun te h => by simp [stepO, h.aparts hl, hz, ha, hb, quiet], fun _ => rfl, rfl⟩
end Go.Tm
end

section
/- Plain tools for lifted functions: loops, numbers. -/
set_option linter.unusedVariables false
set_option linter.unusedSimpArgs false
namespace Go.Tm
open Go.Eng
/-- a loop whose states are known -/
theorem loop_count {σ ρ : Type} {body : σ → Option (Stp σ ρ)} (f : Nat → σ) (n : Nat) {r : ρ} (h1 : ∀ k, k < n → body (f k) = some (.next (f (k + 1)))) (h2 : body (f n) = some (.done r)) : loopO body (f 0) = some r := by
  have key : ∀ d k, n - k = d → k ≤ n → loopO body (f k) = some r := by
    intro d
    induction d with
    | zero =>
      intro k hk hle
      have : k = n := by omega
      subst this
      rw [loopO_eq, h2]
    | succ d ih =>
      intro k hk hle
      rw [loopO_eq, h1 k (by omega)]
      exact ih (k + 1) (by omega) (by omega)
  exact key _ 0 rfl (Nat.zero_le _)
/-- a loop with an invariant and a measure -/
theorem loop_inv {σ ρ : Type} {body : σ → Option (Stp σ ρ)} (I : σ → Prop) (m : σ → Nat) {Q : ρ → Prop} (h : ∀ s, I s → (∃ s', body s = some (.next s') ∧ I s' ∧ m s' < m s) ∨ ∃ r, body s = some (.done r) ∧ Q r) {s : σ} (hs : I s) : ∃ r, loopO body s = some r ∧ Q r := by
  have key : ∀ d s, m s ≤ d → I s → ∃ r, loopO body s = some r ∧ Q r := by
    intro d
    induction d with
    | zero =>
      intro s hm hi
      rcases h s hi with ⟨s', _, _, h3⟩ | ⟨r, h1, h2⟩
      · omega
      · exact ⟨r, by rw [loopO_eq, h1], h2⟩
    | succ d ih =>
      intro s hm hi
      rcases h s hi with ⟨s', h1, h2, h3⟩ | ⟨r, h1, h2⟩
      · rw [loopO_eq, h1]; exact ih s' (by omega) h2
      · exact ⟨r, by rw [loopO_eq, h1], h2⟩
  exact key _ s (Nat.le_refl _) hs
theorem w64 {n : Int} (h1 : -9223372036854775808 ≤ n) (h2 : n < 9223372036854775808) : IntKind.wrap .i64 n = n := wrap64 (by omega) (by omega)
theorem idx_k {α : Type} {l : List α} {k : Nat} (h : k < l.length) : idx l (k : Int) = some l[k] := by rw [idx_nat]; exact List.getElem?_eq_getElem h
theorem idx_of {α : Type} {l : List α} {j : Int} {k : Nat} {x : α} (hj : j = (k : Int)) (h : l[k]? = some x) : idx l j = some x := by subst hj; rw [idx_nat]; exact h
end Go.Tm
end

section
set_option linter.unusedVariables false
set_option linter.unusedSimpArgs false
set_option maxRecDepth 100000
set_option maxHeartbeats 4000000
namespace Go.Tm.L
open Go.Eng Go.Tm
def e22 (l : List UInt8) : TV := .sl false 5 (l.map byteTV)
structure S37 where
  From : Int
  To : Int
  deriving DecidableEq, Inhabited
def e37 (x : S37) : TV := .agg 37 [intTV x.From, intTV x.To]
def e24 (l : List S37) : TV := .sl false 37 (l.map e37)
def e51 (l : List (List S37)) : TV := .sl false 24 (l.map e24)
def e42 (v : Vector Bool 10000) : TV := .arr 4 (v.toList.map boolTV)
def e52 (v : Vector Int 10001) : TV := .arr 3 (v.toList.map intTV)
structure S50 where
  f_list : List UInt8
  f_at : Int
  deriving DecidableEq, Inhabited
def e50 (x : S50) : TV := .agg 50 [e22 x.f_list, intTV x.f_at]
def e31 (v : Vector (List S37) 2) : TV := .arr 24 (v.toList.map e24)
def e32 (l : List (Vector (List S37) 2)) : TV := .sl false 31 (l.map e31)
def e47 (l : List Bool) : TV := .sl false 4 (l.map boolTV)
theorem so_boolTV (x : Bool) : solid (boolTV x) = true := rfl
theorem so_intTV (x : Int) : solid (intTV x) = true := rfl
theorem so_byteTV (x : UInt8) : solid (byteTV x) = true := rfl
theorem so_strTV (x : List UInt8) : solid (strTV x) = true := rfl
theorem so_intK (k : IntKind) (x : Int) : solid (intK k x) = true := rfl
theorem so_e22 (l : List UInt8) : solid (e22 l) = true := rfl
theorem so_e37 (x : S37) : solid (e37 x) = true := by simp [e37, solid, solidL, so_intTV, so_intTV]
theorem so_e24 (l : List S37) : solid (e24 l) = true := rfl
theorem so_e51 (l : List (List S37)) : solid (e51 l) = true := rfl
theorem so_e42 (v : Vector Bool 10000) : solid (e42 v) = true := rfl
theorem so_e52 (v : Vector Int 10001) : solid (e52 v) = true := rfl
theorem so_e50 (x : S50) : solid (e50 x) = true := by simp [e50, solid, solidL, so_e22, so_intTV]
theorem so_e31 (v : Vector (List S37) 2) : solid (e31 v) = true := rfl
theorem so_e32 (l : List (Vector (List S37) 2)) : solid (e32 l) = true := rfl
theorem so_e47 (l : List Bool) : solid (e47 l) = true := rfl
theorem k_3 : kindT Proofs.Try.prog 3 = 2 := by kernel_rfl
theorem fo_3 {v : TV} (h : oth v = true) : fits Proofs.Try.prog 3 v = true := fits_oth (by kernel_rfl) h
theorem it_3 : intT Proofs.Try.prog 3 = some .i64 := by kernel_rfl
theorem zero_3 : zeroTV Proofs.Try.prog 3 = some (.at (.int .i64 0)) := by kernel_rfl
theorem k_4 : kindT Proofs.Try.prog 4 = 8 := by kernel_rfl
theorem fo_4 {v : TV} (h : oth v = true) : fits Proofs.Try.prog 4 v = true := fits_oth (by kernel_rfl) h
theorem zero_4 : zeroTV Proofs.Try.prog 4 = some (boolTV false) := by kernel_rfl
theorem k_5 : kindT Proofs.Try.prog 5 = 2 := by kernel_rfl
theorem fo_5 {v : TV} (h : oth v = true) : fits Proofs.Try.prog 5 v = true := fits_oth (by kernel_rfl) h
theorem it_5 : intT Proofs.Try.prog 5 = some .u8 := by kernel_rfl
theorem zero_5 : zeroTV Proofs.Try.prog 5 = some (.at (.int .u8 0)) := by kernel_rfl
theorem k_22 : kindT Proofs.Try.prog 22 = 3 := by kernel_rfl
theorem fo_22 {v : TV} (h : oth v = true) : fits Proofs.Try.prog 22 v = true := fits_oth (by kernel_rfl) h
theorem sl_22 : slT Proofs.Try.prog 22 = some (5, 1, 1) := by kernel_rfl
theorem zero_22 : zeroTV Proofs.Try.prog 22 = some (.at (.slice none 0 0)) := by kernel_rfl
theorem k_24 : kindT Proofs.Try.prog 24 = 3 := by kernel_rfl
theorem fo_24 {v : TV} (h : oth v = true) : fits Proofs.Try.prog 24 v = true := fits_oth (by kernel_rfl) h
theorem sl_24 : slT Proofs.Try.prog 24 = some (37, 2, 16) := by kernel_rfl
theorem zero_24 : zeroTV Proofs.Try.prog 24 = some (.at (.slice none 0 0)) := by kernel_rfl
theorem k_31 : kindT Proofs.Try.prog 31 = 4 := by kernel_rfl
theorem ar_31 : arT Proofs.Try.prog 31 = some (2, 24, 1) := by kernel_rfl
theorem fo_31 {v : Vector (List S37) 2} : fits Proofs.Try.prog 31 (e31 v) = true := by
  rw [e31, fits_arr (n := 2) (z := 1) (by kernel_rfl) (by kernel_rfl) (by kernel_rfl)]; simp
theorem zero_31 : zeroTV Proofs.Try.prog 31 = some (.arr 24 (List.replicate 2 (.at (.slice none 0 0)))) := by kernel_rfl
theorem fz_31 : fits Proofs.Try.prog 31 (.arr 24 (List.replicate 2 (.at (.slice none 0 0)))) = true := by kernel_rfl
theorem k_32 : kindT Proofs.Try.prog 32 = 3 := by kernel_rfl
theorem fo_32 {v : TV} (h : oth v = true) : fits Proofs.Try.prog 32 v = true := fits_oth (by kernel_rfl) h
theorem sl_32 : slT Proofs.Try.prog 32 = some (31, 2, 48) := by kernel_rfl
theorem zero_32 : zeroTV Proofs.Try.prog 32 = some (.at (.slice none 0 0)) := by kernel_rfl
theorem k_37 : kindT Proofs.Try.prog 37 = 6 := by kernel_rfl
theorem fo_37 {l : List TV} : fits Proofs.Try.prog 37 (.agg 37 l) = true := fits_str (by kernel_rfl)
theorem sz_37 : sizedT Proofs.Try.prog 37 = true := by kernel_rfl
theorem ft_37_0 : ftypeT Proofs.Try.prog 37 0 = some 3 := by kernel_rfl
theorem fok_37_0 : fieldOK Proofs.Try.prog 37 0 = true := by kernel_rfl
theorem ft_37_1 : ftypeT Proofs.Try.prog 37 1 = some 3 := by kernel_rfl
theorem fok_37_1 : fieldOK Proofs.Try.prog 37 1 = true := by kernel_rfl
theorem zero_37 : zeroTV Proofs.Try.prog 37 = some (.agg 37 [(.at (.int .i64 0)), (.at (.int .i64 0))]) := by kernel_rfl
theorem k_42 : kindT Proofs.Try.prog 42 = 4 := by kernel_rfl
theorem ar_42 : arT Proofs.Try.prog 42 = some (10000, 4, 1) := by kernel_rfl
theorem fo_42 {v : Vector Bool 10000} : fits Proofs.Try.prog 42 (e42 v) = true := by
  rw [e42, fits_arr (n := 10000) (z := 1) (by kernel_rfl) (by kernel_rfl) (by kernel_rfl)]; simp
theorem zero_42 : zeroTV Proofs.Try.prog 42 = some (e42 (Vector.replicate 10000 false)) := by
  have h : ∀ n, TV.arr 4 ((Vector.replicate n false).toList.map boolTV) = .arr 4 (List.replicate n (.at (.bool false))) := fun n => by rw [Vector.toList_replicate, List.map_replicate]; rfl
  have h2 : e42 (Vector.replicate 10000 false) = .arr 4 (List.replicate 10000 (.at (.bool false))) := h 10000
  rw [h2]
  exact zeroArr (d := .bool) (by kernel_rfl) (by kernel_rfl) (by kernel_rfl) (by kernel_rfl) (by kernel_rfl) ⟨fun _ h => (by cases h), fun _ _ h => (by cases h)⟩ rfl (by omega)
theorem k_47 : kindT Proofs.Try.prog 47 = 3 := by kernel_rfl
theorem fo_47 {v : TV} (h : oth v = true) : fits Proofs.Try.prog 47 v = true := fits_oth (by kernel_rfl) h
theorem sl_47 : slT Proofs.Try.prog 47 = some (4, 1, 1) := by kernel_rfl
theorem zero_47 : zeroTV Proofs.Try.prog 47 = some (.at (.slice none 0 0)) := by kernel_rfl
theorem k_50 : kindT Proofs.Try.prog 50 = 6 := by kernel_rfl
theorem fo_50 {l : List TV} : fits Proofs.Try.prog 50 (.agg 50 l) = true := fits_str (by kernel_rfl)
theorem sz_50 : sizedT Proofs.Try.prog 50 = true := by kernel_rfl
theorem ft_50_0 : ftypeT Proofs.Try.prog 50 0 = some 22 := by kernel_rfl
theorem fok_50_0 : fieldOK Proofs.Try.prog 50 0 = true := by kernel_rfl
theorem ft_50_1 : ftypeT Proofs.Try.prog 50 1 = some 3 := by kernel_rfl
theorem fok_50_1 : fieldOK Proofs.Try.prog 50 1 = true := by kernel_rfl
theorem zero_50 : zeroTV Proofs.Try.prog 50 = some (.agg 50 [(.at (.slice none 0 0)), (.at (.int .i64 0))]) := by kernel_rfl
theorem k_51 : kindT Proofs.Try.prog 51 = 3 := by kernel_rfl
theorem fo_51 {v : TV} (h : oth v = true) : fits Proofs.Try.prog 51 v = true := fits_oth (by kernel_rfl) h
theorem sl_51 : slT Proofs.Try.prog 51 = some (24, 1, 24) := by kernel_rfl
theorem zero_51 : zeroTV Proofs.Try.prog 51 = some (.at (.slice none 0 0)) := by kernel_rfl
theorem k_52 : kindT Proofs.Try.prog 52 = 4 := by kernel_rfl
theorem ar_52 : arT Proofs.Try.prog 52 = some (10001, 3, 1) := by kernel_rfl
theorem fo_52 {v : Vector Int 10001} : fits Proofs.Try.prog 52 (e52 v) = true := by
  rw [e52, fits_arr (n := 10001) (z := 1) (by kernel_rfl) (by kernel_rfl) (by kernel_rfl)]; simp
theorem zero_52 : zeroTV Proofs.Try.prog 52 = some (e52 (Vector.replicate 10001 0)) := by
  have h : ∀ n, TV.arr 3 ((Vector.replicate n 0).toList.map intTV) = .arr 3 (List.replicate n (.at (.int .i64 0))) := fun n => by rw [Vector.toList_replicate, List.map_replicate]; rfl
  have h2 : e52 (Vector.replicate 10001 0) = .arr 3 (List.replicate 10001 (.at (.int .i64 0))) := h 10001
  rw [h2]
  exact zeroArr (d := .int .i64) (by kernel_rfl) (by kernel_rfl) (by kernel_rfl) (by kernel_rfl) (by kernel_rfl) ⟨fun _ h => (by cases h), fun _ _ h => (by cases h)⟩ rfl (by omega)
theorem ia_3 : isAggT Proofs.Try.prog 3 = some false := by kernel_rfl
theorem eqn_3 (d : Nat) (a b : Int) : aEqN Proofs.Try.prog (d + 1) 3 (.int .i64 a) (.int .i64 b) = some (a == b) := by simp [aEqN, Proofs.Try.underlying3]
theorem ia_37 : isAggT Proofs.Try.prog 37 = some true := by kernel_rfl
theorem sizeT_37 : sizeT Proofs.Try.prog 37 = some 2 := by kernel_rfl
theorem eqh_37 : Proofs.Try.prog.stoodInHeld 37 = false := by kernel_rfl
theorem eqg_37 : Proofs.Try.prog.eqGuardType Proofs.Try.prog.depth 37 = false := by kernel_rfl
theorem til_37 : tiledT Proofs.Try.prog 37 = true := by kernel_rfl
theorem eqn_37 (d : Nat) (a b : S37) : aEqN Proofs.Try.prog (d + 2) 37 (.agg #[.int .i64 a.From, .int .i64 a.To]) (.agg #[.int .i64 b.From, .int .i64 b.To]) = some ((a.From == b.From) && ((a.To == b.To) && true)) := aeq_struct Proofs.Try.underlying37 eqh_37 (aef_cons (by decide) (part_of ia_3 rfl) (part_of ia_3 rfl) (eqn_3 _ _ _) (aef_cons (by decide) (part_of ia_3 rfl) (part_of ia_3 rfl) (eqn_3 _ _ _) aef_nil))
theorem aggeq_37_eql {A : AEnv} {st : Stk} {x y : Operand} {t2 : TypeId} {a b : S37} (hx : ao A x = some (e37 a)) (hy : ao A y = some (e37 b)) : SO Proofs.Try.prog A st (.binOp .eql 37 x y t2) (some (boolTV ((a.From == b.From) && ((a.To == b.To) && true)))) st st.length := by
  have h1 : flatC Proofs.Try.prog (e37 a) = some [.int .i64 a.From, .int .i64 a.To] := by simp [flatC, flatCL, e37, intTV, til_37]
  have h2 : flatC Proofs.Try.prog (e37 b) = some [.int .i64 b.From, .int .i64 b.To] := by simp [flatC, flatCL, e37, intTV, til_37]
  exact so_agg rfl rfl hx hy h1 h2 (abin_agg eqg_37 (eqn_37 9998 a b)).1 rfl
theorem aggeq_37_neq {A : AEnv} {st : Stk} {x y : Operand} {t2 : TypeId} {a b : S37} (hx : ao A x = some (e37 a)) (hy : ao A y = some (e37 b)) : SO Proofs.Try.prog A st (.binOp .neq 37 x y t2) (some (boolTV (!((a.From == b.From) && ((a.To == b.To) && true))))) st st.length := by
  have h1 : flatC Proofs.Try.prog (e37 a) = some [.int .i64 a.From, .int .i64 a.To] := by simp [flatC, flatCL, e37, intTV, til_37]
  have h2 : flatC Proofs.Try.prog (e37 b) = some [.int .i64 b.From, .int .i64 b.To] := by simp [flatC, flatCL, e37, intTV, til_37]
  exact so_agg rfl rfl hx hy h1 h2 (abin_agg eqg_37 (eqn_37 9998 a b)).2 rfl
end Go.Tm.L
end

