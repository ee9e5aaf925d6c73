/- Part 6 of a proof in parts; the last part, YthhmonkjedemgaaGpart, proves this: At every input within the bounds that the given rows TrafficAlgebraSaid and TrafficSetsSaid name, the laws TrafficAlgebra and TrafficSets of the package flagstonelaw14 return true and leave their arguments as they were. There is no further condition. -/
import Derived.Test.YthhmonkjedemgaaDpart
import Derived.Test.YthhmonkjedemgaaEpart
import Derived.Test.YthhmonkjedemgaaBpart

section
/- Plain words for sets of buckets: sums, runs, counts. -/
set_option linter.unusedVariables false
set_option linter.unusedSimpArgs false
set_option maxRecDepth 100000
namespace Go.Tm.L
open Go.Eng Go.Tm

def hasS (s : S37) (b : Nat) : Bool := decide (s.From ≤ (b : Int) ∧ (b : Int) < s.To)
def hasL (L : List S37) (b : Nat) : Bool := L.any (hasS · b)

/-! ### sums -/
def adj (d : List Int) (i : Nat) (x : Int) : List Int := d.set i (d[i]?.getD 0 + x)
theorem sum_set (d : List Int) : ∀ (i k : Nat) (v : Int), i < d.length → ((d.set i v).take k).sum = (d.take k).sum + (if i < k then v - d[i]?.getD 0 else 0) := by
  induction d with
  | nil => intro i k v h; simp at h
  | cons a d ih =>
    intro i k v h
    cases k with
    | zero => simp
    | succ k =>
      cases i with
      | zero => simp; omega
      | succ i =>
        simp only [List.set_cons_succ, List.take_succ_cons, List.sum_cons, List.getElem?_cons_succ]
        rw [ih i k v (by simpa using h)]
        split <;> split <;> omega
theorem sum_adj (d : List Int) (i k : Nat) (x : Int) (h : i < d.length) : ((adj d i x).take k).sum = (d.take k).sum + (if i < k then x else 0) := by
  unfold adj
  rw [sum_set d i k _ h]
  split <;> omega
def bump (d : List Int) (s : S37) : List Int :=
  if max s.From 0 < min s.To 10000 then adj (adj d (max s.From 0).toNat 1) (min s.To 10000).toNat (-1) else d
theorem length_bump (d : List Int) (s : S37) : (bump d s).length = d.length := by unfold bump adj; split <;> simp
theorem bump_sum (d : List Int) (s : S37) (hd : d.length = 10001) (b : Nat) (hb : b < 10000) : ((bump d s).take (b + 1)).sum = (d.take (b + 1)).sum + (if hasS s b then 1 else 0) := by
  unfold bump hasS
  split
  · rename_i h
    rw [sum_adj _ _ _ _ (by simp [adj]; omega), sum_adj _ _ _ _ (by omega)]
    simp only [decide_eq_true_eq]
    split <;> split <;> split <;> omega
  · rename_i h
    simp only [decide_eq_true_eq]
    rw [if_neg (by omega)]
    omega
def cnt (L : List S37) (b : Nat) : Int := ((L.filter (hasS · b)).length : Nat)
theorem fold_sum (L : List S37) : ∀ (d : List Int), d.length = 10001 → ∀ b, b < 10000 → ((L.foldl bump d).take (b + 1)).sum = (d.take (b + 1)).sum + cnt L b := by
  induction L with
  | nil => intro d _ b _; simp [cnt]
  | cons s L ih =>
    intro d hd b hb
    rw [List.foldl_cons, ih _ (by rw [length_bump, hd]) b hb, bump_sum d s hd b hb]
    unfold cnt
    rw [List.filter_cons]
    split <;> simp <;> omega
theorem cnt_pos (L : List S37) (b : Nat) : decide (cnt L b > 0) = hasL L b := by
  unfold cnt hasL
  rw [Bool.eq_iff_iff]
  simp only [decide_eq_true_eq, List.any_eq_true]
  constructor
  · intro h
    have : (L.filter (hasS · b)) ≠ [] := by intro e; rw [e] at h; simp at h
    obtain ⟨x, hx⟩ := List.exists_mem_of_ne_nil _ this
    exact ⟨x, (List.mem_filter.1 hx).1, (List.mem_filter.1 hx).2⟩
  · rintro ⟨x, hx, h⟩
    have : 0 < (L.filter (hasS · b)).length := List.length_pos_of_mem (List.mem_filter.2 ⟨hx, h⟩)
    omega
theorem cnt_le (L : List S37) (b : Nat) : 0 ≤ cnt L b ∧ cnt L b ≤ L.length := by
  unfold cnt
  have := List.length_filter_le (hasS · b) L
  omega
/-- entries stay small -/
def Small (d : List Int) (n : Nat) : Prop := ∀ (i : Nat) x, d[i]? = some x → -(n : Int) ≤ x ∧ x ≤ n
theorem Small.adj {d : List Int} {n : Nat} (h : Small d n) {i : Nat} {x : Int} (hx : -1 ≤ x ∧ x ≤ 1) : Small (adj d i x) (n + 1) := by
  intro j y hy
  unfold L.adj at hy
  rw [List.getElem?_set] at hy
  split at hy
  · split at hy
    · simp at hy
      subst hy
      rename_i hlt
      have := h i d[i] (by simp [hlt])
      simp [hlt]
      omega
    · simp at hy
  · have := h j y hy
    omega
theorem Small.mono {d : List Int} {n m : Nat} (h : Small d n) (hm : n ≤ m) : Small d m := fun i x hx => by have := h i x hx; omega
theorem Small.bump {d : List Int} {n : Nat} (h : Small d n) (s : S37) : Small (L.bump d s) (n + 2) := by
  unfold L.bump
  split
  · exact (h.adj (by omega)).adj (by omega)
  · exact h.mono (by omega)
theorem Small.fold (L0 : List S37) : ∀ {d : List Int} {n : Nat}, Small d n → Small (L0.foldl L.bump d) (n + 2 * L0.length) := by
  induction L0 with
  | nil => intro d n h; simpa using h
  | cons s L0 ih =>
    intro d n h
    rw [List.foldl_cons]
    exact (ih (h.bump s)).mono (by simp; omega)
theorem sum_take_succ (d : List Int) (b : Nat) : (d.take (b + 1)).sum = (d.take b).sum + d[b]?.getD 0 := by
  rw [List.take_add_one]
  cases h : d[b]? with
  | none => simp
  | some x => simp

theorem sum_zeros (k n : Nat) : ((List.replicate n (0 : Int)).take k).sum = 0 := by
  rw [List.take_replicate]
  induction min k n with
  | zero => rfl
  | succ m ih => rw [List.replicate_succ, List.sum_cons, ih]; rfl
/-! ### of -/
def bumpV (v : Vector Int 10001) (s : S37) : Vector Int 10001 :=
  if max s.From 0 < min s.To 10000 then
    let a := (max s.From 0).toNat
    let b := (min s.To 10000).toNat
    (v.setIfInBounds a (v.toList[a]?.getD 0 + 1)).setIfInBounds b ((v.setIfInBounds a (v.toList[a]?.getD 0 + 1)).toList[b]?.getD 0 + -1)
  else v
theorem bumpV_list (v : Vector Int 10001) (s : S37) : (bumpV v s).toList = bump v.toList s := by
  unfold bumpV bump
  split
  · simp [adj, Vector.toList_setIfInBounds]
  · rfl
theorem foldV_list (L : List S37) : ∀ v : Vector Int 10001, (L.foldl bumpV v).toList = L.foldl bump v.toList := by
  induction L with
  | nil => intro v; rfl
  | cons s L ih => intro v; rw [List.foldl_cons, List.foldl_cons, ih, bumpV_list]
theorem vget {α : Type} {n k : Nat} (v : Vector α n) (h : k < n) : ∃ x, v.toList[k]? = some x := ⟨v.toList[k]'(by simpa using h), List.getElem?_eq_getElem _⟩
theorem b25_13 (l : List S37) (k : Nat) (v : Vector Int 10001) (n : Nat) (hk : k < l.length) (hl : l.length ≤ 2 ^ 40) (hs : Small v.toList n) (hn : n ≤ 2 ^ 50) : B25_13 l k v = some (.next (((k + 1 : Nat) : Int), bumpV v l[k])) := by
  unfold B25_13
  rw [if_pos (by simp; omega), idx_k hk]
  simp only [bnd_some]
  have hw : IntKind.wrap .i64 ((k : Int) + 1) = ((k + 1 : Nat) : Int) := by rw [w64 (by omega) (by omega)]; omega
  unfold bumpV
  by_cases hc : max l[k].From 0 < min l[k].To 10000
  · rw [if_pos (by simpa using hc), if_pos hc]
    have ha : ((max l[k].From 0).toNat : Int) = max l[k].From 0 := by omega
    have hb : ((min l[k].To 10000).toNat : Int) = min l[k].To 10000 := by omega
    obtain ⟨x, hx⟩ := vget v (k := (max l[k].From 0).toNat) (by omega)
    have ix : idx v.toList (max l[k].From 0) = some x := idx_of ha.symm hx
    have sx := hs _ _ hx
    have w1 : IntKind.wrap .i64 (x + 1) = x + 1 := w64 (by omega) (by omega)
    rw [ix]
    simp only [bnd_some, w1]
    obtain ⟨y, hy⟩ := vget (v.setIfInBounds (max l[k].From 0).toNat (x + 1)) (k := (min l[k].To 10000).toNat) (by omega)
    have iy := idx_of (l := (v.setIfInBounds (max l[k].From 0).toNat (x + 1)).toList) hb.symm hy
    have sy : -(n : Int) - 1 ≤ y ∧ y ≤ n + 1 := by
      rw [Vector.toList_setIfInBounds, List.getElem?_set] at hy
      split at hy
      · split at hy
        · simp at hy; omega
        · simp at hy
      · have := hs _ _ hy; omega
    have w2 : IntKind.wrap .i64 (y - 1) = y - 1 := w64 (by omega) (by omega)
    rw [iy]
    simp only [bnd_some, w2, hw, hx, hy, Option.getD_some]
    rfl
  · rw [if_neg (by simpa using hc), if_neg hc]
    simp only [bnd_some, hw]
theorem take_fold {α β : Type} (g : β → α → β) (l : List α) (b : β) {k : Nat} (h : k < l.length) : (l.take (k + 1)).foldl g b = g ((l.take k).foldl g b) l[k] := by
  rw [List.take_succ_eq_append_getElem h, List.foldl_append]; rfl
theorem l25_13 (l : List S37) (v : Vector Int 10001) (n : Nat) (hl : l.length ≤ 2 ^ 40) (hs : Small v.toList n) (hn : n ≤ 2 ^ 45) : loopO (fun s : Int × Vector Int 10001 => B25_13 l s.1 s.2) (0, v) = some (l.foldl bumpV v) := by
  refine loop_count (f := fun k => ((k : Int), (l.take k).foldl bumpV v)) l.length (fun k hk => ?_) ?_
  · simp only
    have sm : Small ((l.take k).foldl bumpV v).toList (n + 2 * (l.take k).length) := by rw [foldV_list]; exact hs.fold _
    have hlen : (l.take k).length ≤ l.length := by rw [List.length_take]; omega
    rw [b25_13 l k _ _ hk hl sm (by omega), take_fold _ _ _ hk]
  · simp only [List.take_length]
    unfold B25_13
    rw [if_neg (by simp)]
theorem l25_14 (Ls : List (List S37)) (hl : Ls.length ≤ 2 ^ 40) (hn : Ls.flatten.length ≤ 2 ^ 40) : loopO (fun s : Int × Vector Int 10001 => B25_14 Ls s.1 s.2) (0, Vector.replicate 10001 0) = some (Ls.flatten.foldl bumpV (Vector.replicate 10001 0)) := by
  have s0 : Small (Vector.replicate 10001 (0 : Int)).toList 0 := by
    intro i x hx
    rw [Vector.toList_replicate, List.getElem?_replicate] at hx
    split at hx <;> simp at hx
    omega
  have hpart : ∀ k, (Ls.take k).flatten.length ≤ Ls.flatten.length := fun k => by
    conv => rhs; rw [← List.take_append_drop k Ls, List.flatten_append, List.length_append]
    omega
  refine loop_count (f := fun k => ((k : Int), (Ls.take k).flatten.foldl bumpV (Vector.replicate 10001 0))) Ls.length (fun k hk => ?_) ?_
  · simp only
    unfold B25_14
    rw [if_pos (by simp; omega), idx_k hk]
    simp only [bnd_some]
    have sm : Small ((Ls.take k).flatten.foldl bumpV (Vector.replicate 10001 0)).toList (0 + 2 * (Ls.take k).flatten.length) := by rw [foldV_list]; exact s0.fold _
    have h1 := hpart k
    have h2 := hpart (k + 1)
    rw [List.take_succ_eq_append_getElem hk, List.flatten_append, List.length_append, List.flatten_singleton] at h2
    rw [l25_13 _ _ _ (by omega) sm (by omega)]
    simp only [bnd_some]
    rw [w64 (by omega) (by omega), List.take_succ_eq_append_getElem hk, List.flatten_append, List.foldl_append]
    simp
  · simp only [List.take_length]
    unfold B25_14
    rw [if_neg (by simp)]
def tabN (N : Nat) (f : Nat → Bool) : Vector Bool N := Vector.ofFn fun i => f i.val
theorem tabN_get {N : Nat} (f : Nat → Bool) {k : Nat} (h : k < N) : (tabN N f).toList[k]? = some (f k) := by
  unfold tabN
  have : k < (Vector.ofFn fun i : Fin N => f i.val).toList.length := by simpa using h
  rw [List.getElem?_eq_getElem this]
  simp
theorem tabN_zero (N : Nat) (g : Nat → Bool) : tabN N (fun i => decide (i < 0) && g i) = Vector.replicate N false := by
  apply Vector.ext; intro i hi; simp [tabN]
theorem tabN_set (N k : Nat) (g : Nat → Bool) : (tabN N fun i => decide (i < k) && g i).setIfInBounds k (g k) = tabN N fun i => decide (i < k + 1) && g i := by
  apply Vector.ext
  intro i hi
  simp only [tabN]
  rw [Vector.getElem_setIfInBounds]
  simp only [Vector.getElem_ofFn]
  split
  · rename_i e; subst e; simp
  · rename_i e
    have : decide (i < k + 1) = decide (i < k) := by simp; omega
    rw [this]
theorem tabN_full (N : Nat) (g : Nat → Bool) : tabN N (fun i => decide (i < N) && g i) = tabN N g := by
  apply Vector.ext
  intro i hi
  simp [tabN, hi]
def tabV (f : Nat → Bool) : Vector Bool 10000 := tabN 10000 f
theorem tabV_get (f : Nat → Bool) {k : Nat} (h : k < 10000) : (tabV f).toList[k]? = some (f k) := tabN_get f h
theorem F25_eq (Ls : List (List S37)) (hl : Ls.length ≤ 2 ^ 40) (hn : Ls.flatten.length ≤ 2 ^ 40) : F25 Ls = some (tabV (hasL Ls.flatten)) := by
  unfold F25
  rw [l25_14 Ls hl hn]
  simp only [bnd_some]
  generalize hD : Ls.flatten.foldl bumpV (Vector.replicate 10001 0) = D
  have hsum : ∀ b, b < 10000 → (D.toList.take (b + 1)).sum = cnt Ls.flatten b := by
    intro b hb
    rw [← hD, foldV_list, fold_sum _ _ (Vector.length_toList) b hb]
    have : ∀ k n, ((List.replicate n (0 : Int)).take k).sum = 0 := sum_zeros
    rw [Vector.toList_replicate, this]
    omega
  have hsum0 : ∀ b, b ≤ 10000 → 0 ≤ (D.toList.take b).sum ∧ (D.toList.take b).sum ≤ 2 ^ 40 := by
    intro b hb
    cases b with
    | zero => simp
    | succ b => rw [hsum b (by omega)]; have := cnt_le Ls.flatten b; omega
  have key : loopO (fun s : Int × Int × Vector Bool 10000 => B25_16 D s.1 s.2.1 s.2.2) (0, 0, Vector.replicate 10000 false) = some (tabV (hasL Ls.flatten)) := by
    have e0 : ((D.toList.take 0).sum, ((0 : Nat) : Int), tabV fun i => decide (i < 0) && hasL Ls.flatten i) = ((0 : Int), (0 : Int), Vector.replicate 10000 false) := by rw [tabV, tabN_zero]; rfl
    rw [← e0]
    refine loop_count (body := fun s : Int × Int × Vector Bool 10000 => B25_16 D s.1 s.2.1 s.2.2) (f := fun k => ((D.toList.take k).sum, (k : Int), tabV fun i => decide (i < k) && hasL Ls.flatten i)) 10000 (r := tabV (hasL Ls.flatten)) (fun k hk => ?_) ?_
    · simp only
      unfold B25_16
      rw [if_pos (by simp; omega)]
      obtain ⟨x, hx⟩ := vget D (k := k) (by omega)
      rw [idx_nat, hx]
      simp only [bnd_some]
      rw [idx_nat, tabV_get _ hk]
      simp only [bnd_some]
      have e1 := sum_take_succ D.toList k
      rw [hx] at e1
      simp only [Option.getD_some] at e1
      have e2 := hsum0 (k + 1) (by omega)
      rw [← e1, w64 (by omega) (by omega), w64 (by omega) (by omega), hsum k hk, cnt_pos, Int.toNat_natCast, tabV, tabN_set]
      rfl
    · simp only
      unfold B25_16
      rw [if_neg (by simp), tabV, tabN_full]
      rfl
  rw [key]
  rfl
end Go.Tm.L
end

section
/- Plain words for sets of buckets: runs of buckets as spans. -/
set_option linter.unusedVariables false
set_option linter.unusedSimpArgs false
set_option maxRecDepth 100000
namespace Go.Tm.L
open Go.Eng Go.Tm

def glue (acc : List S37) (k : Nat) : List S37 := match acc[acc.length - 1]? with
  | some s => if s.To = (k : Int) then acc.set (acc.length - 1) ⟨s.From, ((k + 1 : Nat) : Int)⟩ else acc ++ [⟨k, ((k + 1 : Nat) : Int)⟩]
  | none => acc ++ [⟨k, ((k + 1 : Nat) : Int)⟩]
def runs (p : Nat → Bool) : Nat → List S37
  | 0 => []
  | k + 1 => if p k then glue (runs p k) k else runs p k
theorem glue_len (acc : List S37) (k : Nat) : (glue acc k).length ≤ acc.length + 1 := by
  unfold glue
  split
  · split <;> simp
  · simp
theorem runs_len (p : Nat → Bool) : ∀ k, (runs p k).length ≤ k
  | 0 => by simp [runs]
  | k + 1 => by
    have := runs_len p k
    simp only [runs]
    split
    · have := glue_len (runs p k) k; omega
    · omega
theorem runs_congr {p q : Nat → Bool} : ∀ n, (∀ b, b < n → p b = q b) → runs p n = runs q n
  | 0, _ => rfl
  | n + 1, h => by simp only [runs, h n (by omega), runs_congr n (fun b hb => h b (by omega))]
theorem runs_mem (p : Nat → Bool) : ∀ n s, s ∈ runs p n → s.From < s.To ∧ 0 ≤ s.From ∧ s.To ≤ n
  | 0, s, h => by simp [runs] at h
  | n + 1, s, h => by
    simp only [runs] at h
    split at h
    · unfold glue at h
      split at h
      · rename_i t ht
        have ht' := runs_mem p n t (List.mem_of_getElem? ht)
        split at h
        · rcases List.mem_or_eq_of_mem_set h with h | h
          · have := runs_mem p n s h; omega
          · subst h; simp only; omega
        · rcases List.mem_append.1 h with h | h
          · have := runs_mem p n s h; omega
          · simp at h; subst h; simp only; omega
      · rcases List.mem_append.1 h with h | h
        · have := runs_mem p n s h; omega
        · simp at h; subst h; simp only; omega
    · have := runs_mem p n s h; omega
/-- the last run ends here exactly if the bucket before is in -/
theorem runs_last (p : Nat → Bool) : ∀ n s, (runs p n)[(runs p n).length - 1]? = some s → (s.To = (n : Int) ↔ (0 < n ∧ p (n - 1) = true))
  | 0, s, h => by simp [runs] at h
  | n + 1, s, h => by
    simp only [runs] at h
    cases hp : p n with
    | true =>
      simp only [hp, if_true] at h
      have : s.To = ((n + 1 : Nat) : Int) := by
        unfold glue at h
        split at h
        · rename_i t ht
          split at h
          · have hlt := (List.getElem?_eq_some_iff.1 ht).1
            simp [hlt] at h
            rw [← h]; simp
          · simp at h
            rw [← h]; simp
        · simp at h
          rw [← h]; simp
      simp [this, hp]
    | false =>
      simp only [hp] at h
      have hm := runs_mem p n s (List.mem_of_getElem? h)
      simp [hp]
      omega
theorem runs_prev (p : Nat → Bool) {n : Nat} (h0 : 0 < n) (hp : p (n - 1) = true) : 0 < (runs p n).length := by
  obtain ⟨m, rfl⟩ : ∃ m, n = m + 1 := ⟨n - 1, by omega⟩
  simp only [Nat.add_sub_cancel] at hp
  simp only [runs, hp, if_true]
  unfold glue
  split
  · rename_i t ht
    have hlt := (List.getElem?_eq_some_iff.1 ht).1
    split <;> simp <;> omega
  · simp
/-- the buckets of the runs -/
theorem hasL_append (a b : List S37) (n : Nat) : hasL (a ++ b) n = (hasL a n || hasL b n) := by simp [hasL]
theorem hasL_set_last (acc : List S37) (k : Nat) {s : S37} (hs : acc[acc.length - 1]? = some s) (ht : s.To = (k : Int)) (hf : s.From ≤ (k : Int)) (b : Nat) : hasL (acc.set (acc.length - 1) ⟨s.From, ((k + 1 : Nat) : Int)⟩) b = (hasL acc b || decide (b = k)) := by
  have hlt := (List.getElem?_eq_some_iff.1 hs).1
  have hne : acc ≠ [] := by rintro rfl; simp at hlt
  obtain ⟨pre, x, rfl⟩ : ∃ pre x, acc = pre ++ [x] := ⟨acc.dropLast, acc.getLast hne, (List.dropLast_concat_getLast hne).symm⟩
  simp at hs
  subst hs
  simp only [List.length_append, List.length_singleton, Nat.add_sub_cancel, List.set_append_right _ _ (Nat.le_refl _), Nat.sub_self, List.set_cons_zero, hasL_append]
  simp only [hasL, List.any_cons, List.any_nil, Bool.or_false, hasS]
  rw [Bool.or_assoc]
  congr 1
  rw [Bool.eq_iff_iff]
  simp
  omega
theorem runs_has (p : Nat → Bool) : ∀ n b, hasL (runs p n) b = (decide (b < n) && p b)
  | 0, b => by simp [runs, hasL]
  | n + 1, b => by
    have ih := runs_has p n b
    simp only [runs]
    cases hp : p n with
    | true =>
      simp only [if_true]
      have e : (decide (b < n + 1) && p b) = ((decide (b < n) && p b) || decide (b = n)) := by
        by_cases h : b = n
        · subst h; simp [hp]
        · have : decide (b < n + 1) = decide (b < n) := by simp; omega
          simp [h, this]
      rw [e, ← ih]
      have app : hasL (runs p n ++ [⟨(n : Int), ((n + 1 : Nat) : Int)⟩]) b = (hasL (runs p n) b || decide (b = n)) := by
        rw [hasL_append]
        congr 1
        simp only [hasL, List.any_cons, List.any_nil, Bool.or_false, hasS]
        rw [Bool.eq_iff_iff]
        simp
        omega
      unfold glue
      split
      · rename_i s hs
        split
        · rename_i ht
          exact hasL_set_last _ _ hs ht (by have := runs_mem p n s (List.mem_of_getElem? hs); omega) b
        · exact app
      · exact app
    | false =>
      simp only [Bool.false_eq_true, if_false]
      rw [ih]
      by_cases h : b = n
      · subst h; simp [hp]
      · have : decide (b < n + 1) = decide (b < n) := by simp; omega
        rw [this]

/-! ### spans of the program -/
theorem last_idx {acc : List S37} (h : 0 < acc.length) (hl : acc.length ≤ 2 ^ 40) : IntKind.wrap .i64 ((acc.length : Int) - 1) = ((acc.length - 1 : Nat) : Int) := by
  rw [w64 (by omega) (by omega)]; omega
theorem glue_step (acc : List S37) (k : Nat) (hk : k < 10000) (hl : acc.length ≤ k) : (bnd (α := Bool) (if (decide ((acc.length : Int) > 0)) then (bnd (idx acc (IntKind.wrap .i64 ((acc.length : Int) - 1))) fun w22 => some (w22.To == (k : Int))) else (some false)) fun t20 => if t20 then (bnd (idx acc (IntKind.wrap .i64 ((acc.length : Int) - 1))) fun w25 => some (acc.set ((IntKind.wrap .i64 ((acc.length : Int) - 1)).toNat) ({ w25 with To := (IntKind.wrap .i64 ((k : Int) + 1)) }))) else (chk (¬ (2 * (acc.length + [(⟨(k : Int), (IntKind.wrap .i64 ((k : Int) + 1))⟩ : S37)].length) + 400) * 16 > 281474976710656) <| some (acc ++ [(⟨(k : Int), (IntKind.wrap .i64 ((k : Int) + 1))⟩ : S37)]))) = some (glue acc k) := by
  have w1 : IntKind.wrap .i64 ((k : Int) + 1) = ((k + 1 : Nat) : Int) := by rw [w64 (by omega) (by omega)]; omega
  have hc : ¬ (2 * (acc.length + [(⟨(k : Int), ((k + 1 : Nat) : Int)⟩ : S37)].length) + 400) * 16 > 281474976710656 := by simp; omega
  rw [w1]
  unfold glue
  by_cases h0 : 0 < acc.length
  · rw [if_pos (by simp; omega), last_idx h0 (by omega), idx_nat]
    have hlt : acc.length - 1 < acc.length := by omega
    rw [List.getElem?_eq_getElem hlt]
    simp only [bnd_some]
    by_cases ht : acc[acc.length - 1].To = (k : Int)
    · rw [if_pos (by simpa using ht), if_pos ht]
      simp
    · rw [if_neg (by simpa using ht), if_neg ht, chk_pos hc]
  · have hn : acc = [] := List.eq_nil_of_length_eq_zero (by omega)
    subst hn
    rw [if_neg (by simp)]
    simp only [bnd_some]
    rw [if_neg (by simp), chk_pos (by simp)]
    rfl
theorem glue_step2 (acc : List S37) (m : Int) (k : Nat) (hk : k < 10000) (hl : acc.length ≤ k) : (bnd (α := Bool) (if (decide ((acc.length : Int) > 0)) then (bnd (idx acc (IntKind.wrap .i64 ((acc.length : Int) - 1))) fun w22 => some (w22.To == (k : Int))) else (some false)) fun t20 => if t20 then (bnd (idx acc (IntKind.wrap .i64 ((acc.length : Int) - 1))) fun w25 => some ((acc.set ((IntKind.wrap .i64 ((acc.length : Int) - 1)).toNat) ({ w25 with To := (IntKind.wrap .i64 ((k : Int) + 1)) })), m)) else (chk (¬ (2 * (acc.length + [(⟨(k : Int), (IntKind.wrap .i64 ((k : Int) + 1))⟩ : S37)].length) + 400) * 16 > 281474976710656) <| some ((acc ++ [(⟨(k : Int), (IntKind.wrap .i64 ((k : Int) + 1))⟩ : S37)]), m))) = some (glue acc k, m) := by
  have w1 : IntKind.wrap .i64 ((k : Int) + 1) = ((k + 1 : Nat) : Int) := by rw [w64 (by omega) (by omega)]; omega
  have hc : ¬ (2 * (acc.length + [(⟨(k : Int), ((k + 1 : Nat) : Int)⟩ : S37)].length) + 400) * 16 > 281474976710656 := by simp; omega
  rw [w1]
  unfold glue
  by_cases h0 : 0 < acc.length
  · rw [if_pos (by simp; omega), last_idx h0 (by omega), idx_nat]
    have hlt : acc.length - 1 < acc.length := by omega
    rw [List.getElem?_eq_getElem hlt]
    simp only [bnd_some]
    by_cases ht : acc[acc.length - 1].To = (k : Int)
    · rw [if_pos (by simpa using ht), if_pos ht]
      simp
    · rw [if_neg (by simpa using ht), if_neg ht, chk_pos hc]
  · have hn : acc = [] := List.eq_nil_of_length_eq_zero (by omega)
    subst hn
    rw [if_neg (by simp)]
    simp only [bnd_some]
    rw [if_neg (by simp), chk_pos (by simp)]
    rfl
theorem wk1 {k : Nat} (h : k < 10000) : IntKind.wrap .i64 ((k : Int) + 1) = ((k + 1 : Nat) : Int) := by rw [w64 (by omega) (by omega)]; omega
theorem F26_eq (p : Nat → Bool) : F26 (tabV p) = some (runs p 10000) := by
  unfold F26
  have key : loopO (fun s : Int × List S37 => B26_2 (tabV p) s.1 s.2) (0, []) = some (runs p 10000) := by
    refine loop_count (body := fun s : Int × List S37 => B26_2 (tabV p) s.1 s.2) (f := fun k => ((k : Int), runs p k)) 10000 (fun k hk => ?_) ?_
    · simp only
      unfold B26_2 F27
      rw [if_pos (by simp; omega), idx_nat, tabV_get _ hk]
      simp only [bnd_some]
      rw [glue_step _ k hk (runs_len p k), wk1 hk]
      simp only [runs]
      cases p k <;> simp [bnd_some]
    · simp only
      unfold B26_2
      rw [if_neg (by simp)]
  rw [key]; rfl
theorem F26_1_eq (p q : Nat → Bool) : F26_1 (tabV p) (tabV q) = some (runs (fun i => p i && q i) 10000) := by
  unfold F26_1
  have key : loopO (fun s : Int × List S37 => B26_1_2 (tabV p) (tabV q) s.1 s.2) (0, []) = some (runs (fun i => p i && q i) 10000) := by
    refine loop_count (body := fun s : Int × List S37 => B26_1_2 (tabV p) (tabV q) s.1 s.2) (f := fun k => ((k : Int), runs (fun i => p i && q i) k)) 10000 (fun k hk => ?_) ?_
    · simp only
      unfold B26_1_2 F28
      rw [if_pos (by simp; omega), idx_nat, tabV_get _ hk, idx_nat, tabV_get _ hk]
      simp only [bnd_some]
      rw [glue_step _ k hk (runs_len _ k), wk1 hk]
      simp only [runs]
      rcases Bool.eq_false_or_eq_true (p k) with hp | hp <;> rcases Bool.eq_false_or_eq_true (q k) with hq | hq <;> simp [bnd_some, hp, hq]
    · simp only
      unfold B26_1_2
      rw [if_neg (by simp)]
  rw [key]; rfl
theorem F26_2_eq (p q : Nat → Bool) : F26_2 (tabV p) (tabV q) = some (runs (fun i => p i && !q i) 10000) := by
  unfold F26_2
  have key : loopO (fun s : Int × List S37 => B26_2_2 (tabV p) (tabV q) s.1 s.2) (0, []) = some (runs (fun i => p i && !q i) 10000) := by
    refine loop_count (body := fun s : Int × List S37 => B26_2_2 (tabV p) (tabV q) s.1 s.2) (f := fun k => ((k : Int), runs (fun i => p i && !q i) k)) 10000 (fun k hk => ?_) ?_
    · simp only
      unfold B26_2_2 F29
      rw [if_pos (by simp; omega), idx_nat, tabV_get _ hk, idx_nat, tabV_get _ hk]
      simp only [bnd_some]
      rw [glue_step _ k hk (runs_len _ k), wk1 hk]
      simp only [runs]
      rcases Bool.eq_false_or_eq_true (p k) with hp | hp <;> rcases Bool.eq_false_or_eq_true (q k) with hq | hq <;> simp [bnd_some, hp, hq]
    · simp only
      unfold B26_2_2
      rw [if_neg (by simp)]
  rw [key]; rfl
def left (f : Nat → Bool) (n : Int) : Nat → Int
  | 0 => n
  | b + 1 => if f b && decide (0 < left f n b) then left f n b - 1 else left f n b
theorem left_le (f : Nat → Bool) (n : Int) : ∀ b, left f n b ≤ n ∧ min n 0 ≤ left f n b
  | 0 => by simp only [left]; omega
  | b + 1 => by
    have := left_le f n b
    simp only [left]
    split
    · rename_i h; simp at h; omega
    · omega
theorem F26_3_eq (p : Nat → Bool) (n : Int) (h1 : -2 ^ 63 ≤ n) (h2 : n < 2 ^ 63) : F26_3 (tabV p) n = some (runs (fun i => p i && decide (0 < left p n i)) 10000, left p n 10000) := by
  unfold F26_3
  have key : loopO (fun s : Int × List S37 × Int => B26_3_2 (tabV p) s.1 s.2.1 s.2.2) (0, [], n) = some (runs (fun i => p i && decide (0 < left p n i)) 10000, left p n 10000) := by
    refine loop_count (body := fun s : Int × List S37 × Int => B26_3_2 (tabV p) s.1 s.2.1 s.2.2) (f := fun k => ((k : Int), runs (fun i => p i && decide (0 < left p n i)) k, left p n k)) 10000 (fun k hk => ?_) ?_
    · simp only
      unfold B26_3_2 F32
      rw [if_pos (by simp; omega), idx_nat, tabV_get _ hk]
      simp only [bnd_some]
      have hl := left_le p n k
      have hr := runs_len (fun i => p i && decide (0 < left p n i)) k
      have gs := glue_step2 (runs (fun i => p i && decide (0 < left p n i)) k) (left p n k - 1) k hk hr
      rw [wk1 hk] at gs ⊢
      simp only [runs, left]
      rcases Bool.eq_false_or_eq_true (p k) with hp | hp
      · by_cases hn : 0 < left p n k
        · have w : IntKind.wrap .i64 (left p n k - 1) = left p n k - 1 := w64 (by omega) (by omega)
          have hn' : ¬ left p n k ≤ 0 := by omega
          simp only [hp, hn, hn', w, bnd_some, Bool.not_true, Bool.false_eq_true, if_false, decide_false, decide_true, Bool.and_true, if_true]
          rw [gs]
          simp [bnd_some]
        · have hn' : left p n k ≤ 0 := by omega
          simp [bnd_some, hp, hn, hn']
      · simp [bnd_some, hp]
    · simp only
      unfold B26_3_2
      rw [if_neg (by simp)]
  rw [key]; rfl
end Go.Tm.L
end

section
/- Sets of buckets: what each function answers. -/
set_option linter.unusedVariables false
set_option linter.unusedSimpArgs false
set_option maxRecDepth 100000
namespace Go.Tm.L
open Go.Eng Go.Tm

def small (l : List S37) : Prop := l.length ≤ 2 ^ 38
theorem of1 {a : List S37} (h : small a) : F25 [a] = some (tabV (hasL a)) := by
  have := F25_eq [a] (by simp) (by simp; unfold small at h; omega)
  simpa using this
theorem of2 {a b : List S37} (h : small a) (h2 : small b) : F25 [a, b] = some (tabV fun i => hasL a i || hasL b i) := by
  unfold small at h h2
  have := F25_eq [a, b] (by simp) (by simp; omega)
  simp only [List.flatten_cons, List.flatten_nil, List.append_nil] at this
  rw [this]
  congr 2
  funext i
  exact hasL_append a b i
theorem F7_eq {a b : List S37} (h : small a) (h2 : small b) : F7 a b = some (runs (fun i => hasL a i || hasL b i) 10000) := by
  unfold F7
  rw [of2 h h2]
  simp only [bnd_some, F26_eq]
theorem F12_eq {a : List S37} (h : small a) : F12 a = some (runs (hasL a) 10000) := by
  unfold F12
  rw [F7_eq h (by simp [small])]
  simp only [bnd_some]
  rw [runs_congr (q := hasL a) 10000 (fun b _ => by simp [hasL])]
theorem F8_eq {a b : List S37} (h : small a) (h2 : small b) : F8 a b = some (runs (fun i => hasL a i && hasL b i) 10000) := by
  unfold F8
  rw [of1 h, of1 h2]
  simp only [bnd_some, F26_1_eq]
theorem F9_eq {a b : List S37} (h : small a) (h2 : small b) : F9 a b = some (runs (fun i => hasL a i && !hasL b i) 10000) := by
  unfold F9
  rw [of1 h, of1 h2]
  simp only [bnd_some, F26_2_eq]
def size (f : Nat → Bool) : Nat → Nat
  | 0 => 0
  | b + 1 => size f b + if f b then 1 else 0
theorem size_le (f : Nat → Bool) : ∀ n, size f n ≤ n
  | 0 => Nat.le_refl _
  | n + 1 => by have := size_le f n; simp only [size]; split <;> omega
theorem size_congr {f g : Nat → Bool} : ∀ n, (∀ b, b < n → f b = g b) → size f n = size g n
  | 0, _ => rfl
  | n + 1, h => by simp only [size, h n (by omega), size_congr n (fun b hb => h b (by omega))]
theorem wsz {f : Nat → Bool} {k : Nat} (hk : k < 10000) : IntKind.wrap .i64 ((size f k : Int) + 1) = ((size f k + 1 : Nat) : Int) := by
  have := size_le f k
  rw [w64 (by omega) (by omega)]; omega
theorem F10_eq {a : List S37} (h : small a) : F10 a = some ((size (hasL a) 10000 : Nat) : Int) := by
  unfold F10
  rw [of1 h]
  simp only [bnd_some]
  have key : loopO (fun s : Int × Int => B10_2 (tabV (hasL a)) s.1 s.2) (0, 0) = some ((size (hasL a) 10000 : Nat) : Int) := by
    refine loop_count (body := fun s : Int × Int => B10_2 (tabV (hasL a)) s.1 s.2) (f := fun k => (((size (hasL a) k : Nat) : Int), (k : Int))) 10000 (fun k hk => ?_) ?_
    · simp only
      unfold B10_2
      rw [if_pos (by simp; omega), idx_nat, tabV_get _ hk]
      simp only [bnd_some]
      rw [wk1 hk, wsz hk]
      simp only [size]
      rcases Bool.eq_false_or_eq_true (hasL a k) with hp | hp <;> simp [bnd_some, hp]
    · simp only
      unfold B10_2
      rw [if_neg (by simp)]
  rw [key]; rfl
theorem F19_eq {a : List S37} {n : Int} (h : small a) (h1 : -2 ^ 63 ≤ n) (h2 : n < 2 ^ 63) : F19 a n = some (runs (fun i => hasL a i && decide (0 < left (hasL a) n i)) 10000) := by
  unfold F19
  rw [of1 h]
  simp only [bnd_some, F26_3_eq _ n h1 h2]

/-! ### the reference -/
def tabL (f : Nat → Bool) : List Bool := (List.range 10000).map f
theorem tabL_len (f : Nat → Bool) : (tabL f).length = 10000 := by simp [tabL]
theorem tabL_get (f : Nat → Bool) {j : Nat} (h : j < 10000) : (tabL f)[j]? = some (f j) := by simp [tabL, h]
theorem tabL_congr {f g : Nat → Bool} (h : ∀ b, b < 10000 → f b = g b) : tabL f = tabL g := by
  unfold tabL
  refine List.map_congr_left fun b hb => h b (by simpa using hb)
theorem tabL_set (f : Nat → Bool) (j : Nat) (v : Bool) : (tabL f).set j v = tabL fun b => if b = j then v else f b := by
  apply List.ext_getElem?
  intro i
  rw [List.getElem?_set]
  by_cases hi : i < 10000
  · rw [tabL_get _ hi, tabL_len]
    split
    · rename_i e; subst e; rw [if_pos hi, tabL_get _ hi, if_pos rfl]
    · rename_i e; rw [tabL_get _ hi, if_neg (fun h => e h.symm)]
  · have h1 : (tabL f)[i]? = none := List.getElem?_eq_none (by rw [tabL_len]; omega)
    have h2 : (tabL fun b => if b = j then v else f b)[i]? = none := List.getElem?_eq_none (by rw [tabL_len]; omega)
    rw [h1, h2, tabL_len]
    split <;> simp <;> omega
theorem tabL_replicate : List.replicate 10000 false = tabL fun _ => false := by
  apply List.ext_getElem?
  intro i
  rw [List.getElem?_replicate]
  split
  · rename_i h; rw [tabL_get _ h]
  · rename_i h; rw [List.getElem?_eq_none (by rw [tabL_len]; omega)]
def inRun (s : S37) (f : Nat → Bool) (b : Int) : Nat → Bool := fun j => f j || decide (max s.From 0 ≤ (j : Int) ∧ (j : Int) < b)
theorem l31_13 (l : List S37) (i : Nat) (hi : i < l.length) (f : Nat → Bool) : loopO (fun s : Int × List Bool => B31_13 l i s.1 s.2) (max l[i].From 0, tabL f) = some (tabL fun j => f j || hasS l[i] j) := by
  have h := loop_inv (body := fun s : Int × List Bool => B31_13 l i s.1 s.2) (I := fun s => max l[i].From 0 ≤ s.1 ∧ (s.1 = max l[i].From 0 ∨ s.1 ≤ min l[i].To 10000) ∧ s.2 = tabL (inRun l[i] f s.1)) (m := fun s => (10000 - s.1).toNat) (Q := fun r => r = tabL fun j => f j || hasS l[i] j) ?_ (s := (max l[i].From 0, tabL f)) ?_
  · obtain ⟨r, h1, rfl⟩ := h; exact h1
  · rintro ⟨b, L⟩ ⟨h1, h2, h3⟩
    simp only at h1 h2 h3
    subst h3
    unfold B31_13
    by_cases hb : b < min l[i].To 10000
    · left
      have hbn : ((b.toNat : Nat) : Int) = b := by omega
      refine ⟨(b + 1, tabL (inRun l[i] f (b + 1))), ?_, ⟨by simp only; omega, .inr (by simp only; omega), rfl⟩, by simp only; omega⟩
      simp only [idx_k hi, bnd_some]
      rw [if_pos (by simpa using hb), idx_of hbn.symm (tabL_get _ (by omega))]
      simp only [bnd_some]
      rw [w64 (by omega) (by omega), tabL_set]
      congr 3
      refine tabL_congr fun j _ => ?_
      unfold inRun
      by_cases e : j = b.toNat
      · subst e
        simp
        right; omega
      · rw [if_neg e]
        congr 1
        rw [Bool.eq_iff_iff]
        simp
        omega
    · right
      refine ⟨_, by simp only [idx_k hi, bnd_some]; rw [if_neg (by simpa using hb)], ?_⟩
      refine tabL_congr fun j hj => ?_
      unfold inRun hasS
      congr 1
      rw [Bool.eq_iff_iff]
      simp
      omega
  · refine ⟨Int.le_refl _, .inl rfl, ?_⟩
    refine tabL_congr fun j _ => ?_
    unfold inRun
    have : decide (max l[i].From 0 ≤ (j : Int) ∧ (j : Int) < max l[i].From 0) = false := decide_eq_false (by omega)
    simp only [this, Bool.or_false]
theorem hasL_take (l : List S37) {k : Nat} (h : k < l.length) (j : Nat) : hasL (l.take (k + 1)) j = (hasL (l.take k) j || hasS l[k] j) := by
  rw [List.take_succ_eq_append_getElem h, hasL_append]
  simp [hasL]
theorem F31_eq {l : List S37} (hl : small l) : F31 l = some (tabL (hasL l)) := by
  unfold small at hl
  unfold F31
  rw [tabL_replicate]
  have key : loopO (fun s : Int × List Bool => B31_14 l s.1 s.2) (0, tabL fun _ => false) = some (tabL (hasL l)) := by
    refine loop_count (body := fun s : Int × List Bool => B31_14 l s.1 s.2) (f := fun k => ((k : Int), tabL (hasL (l.take k)))) l.length (fun k hk => ?_) ?_
    · simp only
      unfold B31_14
      rw [if_pos (by simp; omega), idx_k hk]
      simp only [bnd_some]
      rw [l31_13 l k hk]
      simp only [bnd_some]
      rw [w64 (by omega) (by omega)]
      congr 3
      exact tabL_congr fun j _ => (hasL_take l hk j).symm
    · simp only [List.take_length]
      unfold B31_14
      rw [if_neg (by simp)]
  rw [key]; rfl
theorem F30_eq (p : Nat → Bool) : F30 (tabL p) = some (runs p 10000) := by
  unfold F30
  have key : loopO (fun s : Int × List S37 => B30_2 (tabL p) s.1 s.2) (0, []) = some (runs p 10000) := by
    refine loop_count (body := fun s : Int × List S37 => B30_2 (tabL p) s.1 s.2) (f := fun k => ((k : Int), runs p k)) 10000 (fun k hk => ?_) ?_
    · simp only
      unfold B30_2
      rw [if_pos (by rw [tabL_len]; simp; omega), idx_nat, tabL_get _ hk]
      simp only [bnd_some]
      rw [wk1 hk]
      simp only [runs]
      rcases Bool.eq_false_or_eq_true (p k) with hp | hp
      · simp only [hp, Bool.not_true, Bool.false_eq_true, if_false, if_true]
        have hrl := runs_len p k
        have hcap : ¬ (2 * ((runs p k).length + [(⟨(k : Int), ((k + 1 : Nat) : Int)⟩ : S37)].length) + 400) * 16 > 281474976710656 := by simp; omega
        by_cases h0 : 0 < k
        · have w1 : IntKind.wrap .i64 ((k : Int) - 1) = ((k - 1 : Nat) : Int) := by rw [w64 (by omega) (by omega)]; omega
          rw [if_pos (by simp; omega), w1, idx_nat, tabL_get _ (by omega)]
          simp only [bnd_some]
          rcases Bool.eq_false_or_eq_true (p (k - 1)) with hq | hq
          · have hpos := runs_prev p h0 hq
            rw [if_pos hq, last_idx hpos (by omega), idx_nat]
            have hlt : (runs p k).length - 1 < (runs p k).length := by omega
            have hg := List.getElem?_eq_getElem hlt
            have hlast := (runs_last p k _ hg).2 ⟨h0, hq⟩
            rw [hg]
            simp only [bnd_some]
            unfold glue
            rw [hg]
            simp only
            rw [if_pos hlast]
            simp
          · rw [if_neg (by simp [hq]), chk_pos hcap]
            simp only [bnd_some]
            unfold glue
            cases hg : (runs p k)[(runs p k).length - 1]? with
            | none => rfl
            | some s =>
              have hn : ¬ s.To = (k : Int) := fun e => by have := ((runs_last p k _ hg).1 e).2; rw [hq] at this; simp at this
              simp only
              rw [if_neg hn]
        · have : k = 0 := by omega
          subst this
          rw [if_neg (by simp)]
          simp only [bnd_some]
          rw [if_neg (by simp), chk_pos hcap]
          rfl
      · simp [hp, bnd_some]
    · simp only
      unfold B30_2
      rw [if_neg (by rw [tabL_len]; simp)]
  rw [key]; rfl
theorem F14_eq {a : List S37} (h : small a) : F14 a = some (runs (hasL a) 10000) := by
  unfold F14
  rw [F31_eq h]
  simp only [bnd_some, F30_eq]
theorem F15_eq {a b : List S37} (h : small a) (h2 : small b) : F15 a b = some (runs (fun i => hasL a i || hasL b i) 10000) := by
  unfold F15
  rw [F31_eq h, F31_eq h2]
  simp only [bnd_some]
  have key : loopO (fun s : Int × List Bool => B15_2 (tabL (hasL b)) s.1 s.2) (0, tabL (hasL a)) = some (tabL fun i => hasL a i || hasL b i) := by
    have e0 : tabL (hasL a) = tabL fun i => if i < 0 then hasL a i || hasL b i else hasL a i := rfl
    rw [e0]
    refine loop_count (body := fun s : Int × List Bool => B15_2 (tabL (hasL b)) s.1 s.2) (f := fun k => ((k : Int), tabL fun i => if i < k then hasL a i || hasL b i else hasL a i)) 10000 (fun k hk => ?_) ?_
    · simp only
      unfold B15_2
      rw [if_pos (by rw [tabL_len]; simp; omega), idx_nat, tabL_get _ hk, idx_nat, tabL_get _ hk]
      simp only [bnd_some, Nat.lt_irrefl, if_false, Int.toNat_natCast, tabL_set]
      rw [wk1 hk]
      have e : ∀ v, v = (hasL a k || hasL b k) → (tabL fun i => if i = k then v else if i < k then hasL a i || hasL b i else hasL a i) = tabL fun i => if i < k + 1 then hasL a i || hasL b i else hasL a i := by
        rintro v rfl
        refine tabL_congr fun j _ => ?_
        by_cases h1 : j = k
        · subst h1; simp
        · rw [if_neg h1]
          by_cases h2 : j < k
          · rw [if_pos h2, if_pos (by omega)]
          · rw [if_neg h2, if_neg (by omega)]
      rcases Bool.eq_false_or_eq_true (hasL a k) with hp | hp
      · rw [if_pos hp, e true (by simp [hp])]; rfl
      · rw [if_neg (by simp [hp]), e (hasL b k) (by simp [hp])]; rfl
    · simp only
      unfold B15_2
      rw [if_neg (by rw [tabL_len]; simp), tabL_congr (g := fun i => hasL a i || hasL b i) fun j hj => by rw [if_pos hj]]
  rw [key]
  simp only [bnd_some, F30_eq]
theorem F16_eq {a b : List S37} (h : small a) (h2 : small b) : F16 a b = some (runs (fun i => hasL a i && !hasL b i) 10000) := by
  unfold F16
  rw [F31_eq h, F31_eq h2]
  simp only [bnd_some]
  have key : loopO (fun s : Int × List Bool => B16_2 (tabL (hasL b)) s.1 s.2) (0, tabL (hasL a)) = some (tabL fun i => hasL a i && !hasL b i) := by
    have e0 : tabL (hasL a) = tabL fun i => if i < 0 then hasL a i && !hasL b i else hasL a i := rfl
    rw [e0]
    refine loop_count (body := fun s : Int × List Bool => B16_2 (tabL (hasL b)) s.1 s.2) (f := fun k => ((k : Int), tabL fun i => if i < k then hasL a i && !hasL b i else hasL a i)) 10000 (fun k hk => ?_) ?_
    · simp only
      unfold B16_2
      rw [if_pos (by rw [tabL_len]; simp; omega), idx_nat, tabL_get _ hk, idx_nat, tabL_get _ hk]
      simp only [bnd_some, Nat.lt_irrefl, if_false, Int.toNat_natCast, tabL_set]
      rw [wk1 hk]
      have e : ∀ v, v = (hasL a k && !hasL b k) → (tabL fun i => if i = k then v else if i < k then hasL a i && !hasL b i else hasL a i) = tabL fun i => if i < k + 1 then hasL a i && !hasL b i else hasL a i := by
        rintro v rfl
        refine tabL_congr fun j _ => ?_
        by_cases h1 : j = k
        · subst h1; simp
        · rw [if_neg h1]
          by_cases h2 : j < k
          · rw [if_pos h2, if_pos (by omega)]
          · rw [if_neg h2, if_neg (by omega)]
      rcases Bool.eq_false_or_eq_true (hasL a k) with hp | hp
      · rw [if_pos hp, e (!hasL b k) (by simp [hp])]; rfl
      · rw [if_neg (by simp [hp]), e false (by simp [hp])]; rfl
    · simp only
      unfold B16_2
      rw [if_neg (by rw [tabL_len]; simp), tabL_congr (g := fun i => hasL a i && !hasL b i) fun j hj => by rw [if_pos hj]]
  rw [key]
  simp only [bnd_some, F30_eq]
theorem F17_eq {a b : List S37} (h : small a) (h2 : small b) : F17 a b = some (runs (fun i => hasL a i && hasL b i) 10000) := by
  unfold F17
  rw [F31_eq h, F31_eq h2]
  simp only [bnd_some]
  have key : loopO (fun s : Int × List Bool => B17_2 (tabL (hasL b)) s.1 s.2) (0, tabL (hasL a)) = some (tabL fun i => hasL a i && hasL b i) := by
    have e0 : tabL (hasL a) = tabL fun i => if i < 0 then hasL a i && hasL b i else hasL a i := rfl
    rw [e0]
    refine loop_count (body := fun s : Int × List Bool => B17_2 (tabL (hasL b)) s.1 s.2) (f := fun k => ((k : Int), tabL fun i => if i < k then hasL a i && hasL b i else hasL a i)) 10000 (fun k hk => ?_) ?_
    · simp only
      unfold B17_2
      rw [if_pos (by rw [tabL_len]; simp; omega), idx_nat, tabL_get _ hk, idx_nat, tabL_get _ hk]
      simp only [bnd_some, Nat.lt_irrefl, if_false, Int.toNat_natCast, tabL_set]
      rw [wk1 hk]
      have e : ∀ v, v = (hasL a k && hasL b k) → (tabL fun i => if i = k then v else if i < k then hasL a i && hasL b i else hasL a i) = tabL fun i => if i < k + 1 then hasL a i && hasL b i else hasL a i := by
        rintro v rfl
        refine tabL_congr fun j _ => ?_
        by_cases h1 : j = k
        · subst h1; simp
        · rw [if_neg h1]
          by_cases h2 : j < k
          · rw [if_pos h2, if_pos (by omega)]
          · rw [if_neg h2, if_neg (by omega)]
      rcases Bool.eq_false_or_eq_true (hasL a k) with hp | hp
      · rw [if_pos hp, e (hasL b k) (by simp [hp])]; rfl
      · rw [if_neg (by simp [hp]), e false (by simp [hp])]; rfl
    · simp only
      unfold B17_2
      rw [if_neg (by rw [tabL_len]; simp), tabL_congr (g := fun i => hasL a i && hasL b i) fun j hj => by rw [if_pos hj]]
  rw [key]
  simp only [bnd_some, F30_eq]
theorem F18_eq {a : List S37} (h : small a) : F18 a = some ((size (hasL a) 10000 : Nat) : Int) := by
  unfold F18
  rw [F31_eq h]
  simp only [bnd_some]
  have key : loopO (fun s : Int × Int => B18_2 (tabL (hasL a)) s.1 s.2) (0, 0) = some ((size (hasL a) 10000 : Nat) : Int) := by
    refine loop_count (body := fun s : Int × Int => B18_2 (tabL (hasL a)) s.1 s.2) (f := fun k => (((size (hasL a) k : Nat) : Int), (k : Int))) 10000 (fun k hk => ?_) ?_
    · simp only
      unfold B18_2
      rw [if_pos (by rw [tabL_len]; simp; omega), idx_nat, tabL_get _ hk]
      simp only [bnd_some]
      rw [wk1 hk, wsz hk]
      simp only [size]
      rcases Bool.eq_false_or_eq_true (hasL a k) with hp | hp <;> simp [bnd_some, hp]
    · simp only
      unfold B18_2
      rw [if_neg (by rw [tabL_len]; simp)]
  rw [key]; rfl
theorem F20_eq {a : List S37} {n : Int} (h : small a) (h1 : -2 ^ 63 ≤ n) (h2 : n < 2 ^ 63) : F20 a n = some (runs (fun i => hasL a i && decide (0 < left (hasL a) n i)) 10000) := by
  unfold F20
  rw [F31_eq h]
  simp only [bnd_some]
  have key : loopO (fun s : Int × Int × List Bool => B20_2 s.1 s.2.1 s.2.2) (n, 0, tabL (hasL a)) = some (tabL fun i => hasL a i && decide (0 < left (hasL a) n i)) := by
    have e0 : tabL (hasL a) = tabL fun i => if i < 0 then hasL a i && decide (0 < left (hasL a) n i) else hasL a i := rfl
    rw [e0]
    refine loop_count (body := fun s : Int × Int × List Bool => B20_2 s.1 s.2.1 s.2.2) (f := fun k => (left (hasL a) n k, (k : Int), tabL fun i => if i < k then hasL a i && decide (0 < left (hasL a) n i) else hasL a i)) 10000 (fun k hk => ?_) ?_
    · simp only
      unfold B20_2
      have hl := left_le (hasL a) n k
      rw [if_pos (by rw [tabL_len]; simp; omega), idx_nat, tabL_get _ hk]
      simp only [bnd_some, Nat.lt_irrefl, if_false, Int.toNat_natCast, tabL_set]
      rw [wk1 hk]
      have e : ∀ v, v = (hasL a k && decide (0 < left (hasL a) n k)) → (tabL fun i => if i = k then v else if i < k then hasL a i && decide (0 < left (hasL a) n i) else hasL a i) = tabL fun i => if i < k + 1 then hasL a i && decide (0 < left (hasL a) n i) else hasL a i := by
        rintro v rfl
        refine tabL_congr fun j _ => ?_
        by_cases h1 : j = k
        · subst h1; simp
        · rw [if_neg h1]
          by_cases h2 : j < k
          · rw [if_pos h2, if_pos (by omega)]
          · rw [if_neg h2, if_neg (by omega)]
      have e2 : (hasL a k && decide (0 < left (hasL a) n k)) = hasL a k → (tabL fun i => if i < k then hasL a i && decide (0 < left (hasL a) n i) else hasL a i) = tabL fun i => if i < k + 1 then hasL a i && decide (0 < left (hasL a) n i) else hasL a i := by
        intro he
        refine tabL_congr fun j _ => ?_
        by_cases h1 : j = k
        · subst h1; simp [he]
        · by_cases h2 : j < k
          · rw [if_pos h2, if_pos (by omega)]
          · rw [if_neg h2, if_neg (by omega)]
      rcases Bool.eq_false_or_eq_true (hasL a k) with hp | hp
      · by_cases hn : 0 < left (hasL a) n k
        · have w : IntKind.wrap .i64 (left (hasL a) n k - 1) = left (hasL a) n k - 1 := w64 (by omega) (by omega)
          have hn' : ¬ left (hasL a) n k ≤ 0 := by omega
          rw [e2 (by simp [hp, hn])]
          simp [hp, hn, hn', w, bnd_some, left]
        · have hn' : left (hasL a) n k ≤ 0 := by omega
          rw [e false (by simp [hp, hn])]
          simp [hp, hn, hn', bnd_some, left]
      · rw [e2 (by simp [hp])]
        simp [hp, bnd_some, left]
    · simp only
      unfold B20_2
      rw [if_neg (by rw [tabL_len]; simp), tabL_congr (g := fun i => hasL a i && decide (0 < left (hasL a) n i)) fun j hj => by rw [if_pos hj]]
  rw [key]
  simp only [bnd_some, F30_eq]
theorem F11_eq {a b : List S37} (ha : a.length ≤ 2 ^ 40) : F11 a b = some (decide (a = b)) := by
  unfold F11
  by_cases hl : a.length = b.length
  · rw [if_neg (by simp [hl])]
    have h := loop_inv (body := fun s : Int => B11_2 a b s) (I := fun s => ∃ k : Nat, s = (k : Int) ∧ k ≤ a.length ∧ a.take k = b.take k) (m := fun s => (a.length - s).toNat) (Q := fun r => r = if a = b then .inr () else .inl false) ?_ (s := 0) ⟨0, rfl, Nat.zero_le _, by simp⟩
    · obtain ⟨r, h1, rfl⟩ := h
      rw [h1]
      by_cases e : a = b <;> simp [e, bnd_some]
    · rintro s ⟨k, rfl, hk, ht⟩
      by_cases hk2 : k < a.length
      · have hkb : k < b.length := by omega
        by_cases he : a[k] = b[k]
        · left
          refine ⟨((k + 1 : Nat) : Int), ?_, ⟨k + 1, rfl, by omega, ?_⟩, by omega⟩
          · unfold B11_2
            rw [if_pos (by simp; omega), idx_k hk2, idx_k hkb]
            simp only [bnd_some]
            rw [he, if_neg (by simp), w64 (by omega) (by omega)]
            rfl
          · rw [List.take_succ_eq_append_getElem hk2, List.take_succ_eq_append_getElem hkb, ht, he]
        · right
          refine ⟨.inl false, ?_, ?_⟩
          · unfold B11_2
            rw [if_pos (by simp; omega), idx_k hk2, idx_k hkb]
            simp only [bnd_some]
            rw [if_pos]
            simp
            by_cases h1 : a[k].From = b[k].From
            · right
              intro h2
              apply he
              cases hx : a[k]; cases hy : b[k]
              simp [hx, hy] at h1 h2
              simp [h1, h2]
            · exact .inl h1
          · rw [if_neg]
            rintro rfl
            exact he rfl
      · right
        refine ⟨.inr (), ?_, ?_⟩
        · unfold B11_2
          rw [if_neg (by simp; omega)]
        · rw [if_pos]
          rw [List.take_of_length_le (by omega), List.take_of_length_le (by omega)] at ht
          exact ht
  · rw [if_pos (by simp; omega)]
    have : a ≠ b := fun e => hl (by rw [e])
    simp [this]
end Go.Tm.L
end

section
/- Sets of buckets: the draws, the two laws. -/
set_option linter.unusedVariables false
set_option linter.unusedSimpArgs false
set_option maxRecDepth 100000
namespace Go.Tm.L
open Go.Eng Go.Tm

/-! ### the draws -/
def nextA (c : S50) : Int := if c.f_at < c.f_list.length then c.f_at + 1 else c.f_at
def Ok (c : S50) : Prop := 0 ≤ c.f_at ∧ c.f_at ≤ c.f_list.length ∧ c.f_list.length ≤ 2 ^ 40
theorem tmod_bd {a m : Int} (ha : 0 ≤ a) (hm : 0 < m) : 0 ≤ a.tmod m ∧ a.tmod m < m ∧ a.tmod m ≤ a := by
  rw [Int.tmod_eq_emod_of_nonneg ha]
  have h1 := Int.emod_nonneg a (show m ≠ 0 by omega)
  have h2 := Int.emod_lt_of_pos a hm
  have h3 := Int.mul_ediv_add_emod a m
  have h4 : 0 ≤ m * (a / m) := Int.mul_nonneg (by omega) (Int.ediv_nonneg ha (by omega))
  omega
theorem F24_eq {n : Int} {c : S50} (hn : 0 < n) (hc : Ok c) : ∃ v, F24 n c = some (v, ⟨c.f_list, nextA c⟩) ∧ 0 ≤ v ∧ v < n ∧ v < 256 := by
  obtain ⟨h0, h1, h2⟩ := hc
  unfold F24 F22 nextA
  simp only [bnd_some]
  by_cases hl : c.f_at < c.f_list.length
  · obtain ⟨k, hk⟩ : ∃ k : Nat, c.f_at = (k : Int) := ⟨c.f_at.toNat, by omega⟩
    have hkl : k < c.f_list.length := by omega
    have w1 : IntKind.wrap .i64 (c.f_at + 1) = c.f_at + 1 := w64 (by omega) (by omega)
    have w2 : IntKind.wrap .i64 (c.f_at + 1 - 1) = (k : Int) := by rw [w64 (by omega) (by omega)]; omega
    simp only [hl, decide_true, Bool.not_true, Bool.false_eq_true, if_false, if_true, w1, w2]
    rw [idx_k hkl]
    simp only [bnd_some]
    rw [chk_pos (by omega)]
    have hb := c.f_list[k].toNat_lt
    have := tmod_bd (a := (c.f_list[k].toNat : Int)) (m := n) (by omega) hn
    exact ⟨_, rfl, this.1, this.2.1, by omega⟩
  · simp only [hl, decide_false, Bool.not_false, if_true, if_false]
    exact ⟨0, rfl, by omega, hn, by omega⟩
theorem Ok.next {c : S50} (h : Ok c) : Ok ⟨c.f_list, nextA c⟩ := by
  obtain ⟨h0, h1, h2⟩ := h
  unfold Ok nextA
  simp only
  split <;> omega
theorem nextA_le {c : S50} (h : Ok c) : c.f_at ≤ nextA c ∧ (c.f_at < c.f_list.length → c.f_at + 1 ≤ nextA c) := by
  unfold nextA
  split <;> omega
theorem F23_eq {n : Int} {c : S50} (hn : 0 < n) (hc : Ok c) : ∃ v c', F23 n c = some (v, c') ∧ 0 ≤ v ∧ v < n ∧ c'.f_list = c.f_list ∧ Ok c' ∧ c.f_at ≤ c'.f_at ∧ (c.f_at < c.f_list.length → c.f_at + 1 ≤ c'.f_at) := by
  unfold F23
  obtain ⟨v, e1, v1, v2, _⟩ := F24_eq (n := 256) (by omega) hc
  obtain ⟨u, e2, u1, u2, _⟩ := F24_eq (n := 256) (by omega) hc.next
  rw [e1]
  simp only [bnd_some]
  rw [e2]
  simp only [bnd_some]
  rw [chk_pos (by omega), w64 (n := 256 * v) (by omega) (by omega), w64 (by omega) (by omega)]
  have := tmod_bd (a := 256 * v + u) (m := n) (by omega) hn
  have h1 := nextA_le hc
  have h2 := nextA_le hc.next
  exact ⟨_, _, rfl, this.1, this.2.1, rfl, hc.next.next, by simp only at h2 ⊢; omega, fun h => by have := h1.2 h; simp only at h2 ⊢; omega⟩
theorem F21_eq (l : List UInt8) : ∃ m, F21 l 50 = some ⟨m, 0⟩ ∧ m.length ≤ 50 := by
  unfold F21
  by_cases h : (l.length : Int) > 50
  · rw [if_pos (by simpa using h), chk_pos (by omega)]
    exact ⟨_, rfl, by simp [sub]; omega⟩
  · rw [if_neg (by simpa using h)]
    exact ⟨_, rfl, by omega⟩
theorem F6_eq (l : List UInt8) : ∃ L, F6 l = some L ∧ small L := by
  unfold F6
  obtain ⟨m, e, hm⟩ := F21_eq l
  rw [e]
  simp only [bnd_some]
  have h := loop_inv (body := fun s : Int × S50 × List S37 => B6_2 s.1 s.2.1 s.2.2) (I := fun s => s.2.1.f_list = m ∧ Ok s.2.1 ∧ (s.2.2.length : Int) ≤ s.2.1.f_at ∧ -(10 * s.2.1.f_at) ≤ s.1 ∧ s.1 ≤ 10000 + 1000 * s.2.1.f_at) (m := fun s => (m.length - s.2.1.f_at).toNat) (Q := fun r => small r.2) ?_ (s := (0, ⟨m, 0⟩, [])) ⟨rfl, ⟨Int.le_refl _, by simp only; omega, by simp only; omega⟩, by simp, by simp, by simp⟩
  · obtain ⟨r, h1, h2⟩ := h
    rw [h1]
    exact ⟨_, rfl, h2⟩
  · rintro ⟨y, c, L⟩ ⟨h1, h2, h3, h4, h5⟩
    simp only at h1 h2 h3 h4 h5
    obtain ⟨k0, k1, k2⟩ := id h2
    unfold B6_2 F22
    simp only [bnd_some]
    by_cases hl : c.f_at < c.f_list.length
    · left
      rw [if_pos (by simpa using hl)]
      obtain ⟨v, c1, e1, v1, v2, l1, o1, a1, b1⟩ := F23_eq (n := 10000) (c := c) (by omega) h2
      obtain ⟨u, e2, u1, u2, _⟩ := F24_eq (n := 3) (c := c1) (by omega) o1
      have n1 := nextA_le o1
      rw [e1]
      simp only [bnd_some]
      rw [e2]
      simp only [bnd_some]
      have b2 := b1 hl
      rw [h1] at l1
      have fin : ∀ fr : Int, -(10 * c.f_at) ≤ fr → fr ≤ 10000 + 1000 * c.f_at → ∃ s', (bnd (F23 900 ⟨c1.f_list, nextA c1⟩) fun r25 => chk (¬ (2 * (L.length + [(⟨fr, (IntKind.wrap .i64 ((IntKind.wrap .i64 (fr + r25.1)) - 5))⟩ : S37)].length) + 400) * 16 > 281474976710656) <| some (.next ((IntKind.wrap .i64 ((IntKind.wrap .i64 (fr + r25.1)) - 5)), r25.2, (L ++ [(⟨fr, (IntKind.wrap .i64 ((IntKind.wrap .i64 (fr + r25.1)) - 5))⟩ : S37)])))) = some (Stp.next (ρ := S50 × List S37) s') ∧ (s'.2.1.f_list = m ∧ Ok s'.2.1 ∧ (s'.2.2.length : Int) ≤ s'.2.1.f_at ∧ -(10 * s'.2.1.f_at) ≤ s'.1 ∧ s'.1 ≤ 10000 + 1000 * s'.2.1.f_at) ∧ (m.length - s'.2.1.f_at).toNat < (m.length - c.f_at).toNat := by
        intro fr f1 f2
        obtain ⟨w, c2, e3, w1, w2, l2, o2, a2, _⟩ := F23_eq (n := 900) (c := ⟨c1.f_list, nextA c1⟩) (by omega) o1.next
        have o2' := o2
        obtain ⟨p0, p1, p2⟩ := o2'
        simp only at l2 a2
        rw [e3]
        simp only [bnd_some]
        rw [h1] at hl k1
        have q1 : IntKind.wrap .i64 (fr + w) = fr + w := w64 (by omega) (by omega)
        have q2 : IntKind.wrap .i64 (fr + w - 5) = fr + w - 5 := w64 (by omega) (by omega)
        rw [q1, q2, chk_pos (by simp; omega)]
        refine ⟨_, rfl, ⟨by simp only; rw [l2]; exact l1, o2, ?_, ?_, ?_⟩, ?_⟩
        · simp; omega
        · simp only; omega
        · simp only; omega
        · simp only; rw [l2, l1] at p1; omega
      by_cases hu : u = 1
      · rw [if_pos (by simpa using hu)]
        exact fin y h4 h5
      · rw [if_neg (by simpa using hu)]
        exact fin v (by omega) (by omega)
    · right
      rw [if_neg (by simpa using hl)]
      refine ⟨_, rfl, ?_⟩
      unfold small
      simp only
      rw [h1] at k1
      omega

/-! ### the example -/
theorem runs9 : ∀ n, runs (fun i => decide (i < 9)) (9 + n) = [⟨0, 9⟩]
  | 0 => by rfl
  | n + 1 => by
    rw [show 9 + (n + 1) = (9 + n) + 1 by omega]
    simp only [runs]
    rw [if_neg (by simp), runs9 n]
theorem size9 : ∀ n, size (fun i => decide (i < 9)) (9 + n) = 9
  | 0 => by rfl
  | n + 1 => by
    rw [show 9 + (n + 1) = (9 + n) + 1 by omega]
    simp only [size]
    rw [if_neg (by simp), size9 n]
theorem runs_size (p : Nat → Bool) : size (hasL (runs p 10000)) 10000 = size p 10000 :=
  size_congr 10000 fun b hb => by rw [runs_has]; simp [hb]
theorem small_runs (p : Nat → Bool) : small (runs p 10000) := by
  have := runs_len p 10000
  unfold small; omega
theorem F5_eq : F5 = some true := by
  unfold F5
  rw [F12_eq (by simp [small])]
  simp only [bnd_some]
  have e : runs (hasL [⟨5, 9⟩, ⟨0, 5⟩, ⟨7, 7⟩]) 10000 = [⟨0, 9⟩] := by
    rw [runs_congr (q := fun i => decide (i < 9)) 10000 fun b _ => ?_]
    · exact runs9 9991
    · simp only [hasL, List.any_cons, List.any_nil, Bool.or_false, hasS]
      rw [Bool.eq_iff_iff]
      simp
      omega
  have e2 : size (hasL [⟨0, 9⟩]) 10000 = 9 := by
    rw [size_congr (g := fun i => decide (i < 9)) 10000 fun b _ => ?_]
    · exact size9 9991
    · simp only [hasL, List.any_cons, List.any_nil, Bool.or_false, hasS]
      rw [Bool.eq_iff_iff]
      simp
      omega
  rw [e, F10_eq (by simp [small]), e2]
  rfl

/-! ### TrafficSets -/
theorem F13_eq (x : Int) (h1 : -2 ^ 63 ≤ x) (h2 : x < 2 ^ 63) : ∃ m, F13 x 10000 = some m ∧ 0 ≤ m ∧ m < 10000 := by
  unfold F13
  rw [chk_pos (by omega)]
  have hlt : -10000 < x.tmod 10000 ∧ x.tmod 10000 < 10000 := by
    have := Int.tmod_lt_of_pos x (show (0 : Int) < 10000 by omega)
    have h3 : -10000 < x.tmod 10000 := by
      rw [Int.tmod_eq_emod]
      have := Int.emod_nonneg x (show (10000 : Int) ≠ 0 by omega)
      have := Int.emod_lt_of_pos x (show (0 : Int) < 10000 by omega)
      split <;> omega
    omega
  by_cases h : x.tmod 10000 < 0
  · rw [if_pos (by simpa using h), w64 (by omega) (by omega)]
    exact ⟨_, rfl, by omega, by omega⟩
  · rw [if_neg (by simpa using h)]
    exact ⟨_, rfl, by omega, by omega⟩
theorem F11_self (a : List S37) (h : a.length ≤ 2 ^ 40) : F11 a a = some true := by rw [F11_eq h]; simp
theorem rl (p : Nat → Bool) : (runs p 10000).length ≤ 2 ^ 40 := by have := runs_len p 10000; omega
theorem sets_round (x2 x3 r12 r14 r16 : List S37) (n : Int) (h1 : -2 ^ 63 ≤ n) (h2 : n < 2 ^ 63) (s2 : small x2) (s3 : small x3) (s12 : small r12) (s14 : small r14) (s16 : small r16) (k : Nat) (hk : k < 3) : B4_2 x2 x3 n r12 r14 r16 (k : Int) = some (.next ((k + 1 : Nat) : Int)) := by
  unfold B4_2
  rw [if_pos (by simp; omega)]
  have hk' : k < [((Vector.mk (n := 2) #[r12, r14] rfl) : Vector (List S37) 2), (Vector.mk (n := 2) #[x2, x3] rfl), (Vector.mk (n := 2) #[r16, x2] rfl)].length := hk
  rw [idx_k hk']
  simp only [bnd_some]
  obtain ⟨a, b, hv, ha, hb⟩ : ∃ a b, ([((Vector.mk (n := 2) #[r12, r14] rfl) : Vector (List S37) 2), (Vector.mk (n := 2) #[x2, x3] rfl), (Vector.mk (n := 2) #[r16, x2] rfl)][k]'hk').toList = [a, b] ∧ small a ∧ small b := by
    match k, hk with
    | 0, _ => exact ⟨_, _, rfl, s12, s14⟩
    | 1, _ => exact ⟨_, _, rfl, s2, s3⟩
    | 2, _ => exact ⟨_, _, rfl, s16, s2⟩
  rw [hv, show idx [a, b] 0 = some a from rfl, show idx [a, b] 1 = some b from rfl]
  simp only [bnd_some]
  obtain ⟨m, em, m1, m2⟩ := F13_eq n h1 h2
  rw [em, F12_eq ha, F14_eq ha]
  simp only [bnd_some, F11_self _ (rl _)]
  rw [F7_eq ha hb, F15_eq ha hb]
  simp only [bnd_some, F11_self _ (rl _)]
  rw [F9_eq ha hb, F16_eq ha hb]
  simp only [bnd_some, F11_self _ (rl _)]
  rw [F8_eq ha hb, F17_eq ha hb]
  simp only [bnd_some, F11_self _ (rl _)]
  rw [F10_eq ha, F18_eq ha]
  simp only [bnd_some]
  rw [F19_eq ha h1 h2, F20_eq ha h1 h2]
  simp only [bnd_some, F11_self _ (rl _)]
  rw [F19_eq ha (by omega) (by omega), F20_eq ha (by omega) (by omega)]
  simp only [bnd_some, F11_self _ (rl _)]
  rw [w64 (by omega) (by omega)]
  simp [bnd_some]
theorem TrafficSets_plain (c1 c2 : List UInt8) (x y : List S37) (n : Int) (h1 : -2 ^ 63 ≤ n) (h2 : n < 2 ^ 63) : F4 c1 c2 x y n = some true := by
  unfold F4
  rw [F5_eq]
  simp only [bnd_some]
  rw [if_neg (by simp)]
  by_cases hx : (x.length : Int) > 30
  · rw [if_pos (by simpa using hx)]
    rfl
  · rw [if_neg (by simpa using hx)]
    simp only [bnd_some]
    by_cases hy : (y.length : Int) > 30
    · rw [if_pos (by simpa using hy)]
    · rw [if_neg (by simpa using hy)]
      obtain ⟨a, ea, sa⟩ := F6_eq c1
      obtain ⟨b, eb, sb⟩ := F6_eq c2
      rw [ea, eb]
      simp only [bnd_some]
      have key : loopO (fun s : Int => B4_2 x y n a b a s) 0 = some (.inr ()) := by
        refine loop_count (body := fun s : Int => B4_2 x y n a b a s) (f := fun k => (k : Int)) 3 (fun k hk => ?_) ?_
        · exact sets_round x y a b a n h1 h2 (by unfold small; omega) (by unfold small; omega) sa sb sa k hk
        · show B4_2 x y n a b a 3 = _
          unfold B4_2
          rw [if_neg (by simp)]
      rw [key]
      rfl

/-! ### TrafficAlgebra -/
theorem size_or_and (p q : Nat → Bool) : ∀ n, size (fun i => p i || q i) n + size (fun i => p i && q i) n = size p n + size q n
  | 0 => rfl
  | n + 1 => by
    have := size_or_and p q n
    simp only [size]
    rcases Bool.eq_false_or_eq_true (p n) with hp | hp <;> rcases Bool.eq_false_or_eq_true (q n) with hq | hq <;> simp [hp, hq] <;> omega
theorem size_and_diff (p q : Nat → Bool) : ∀ n, size (fun i => p i && q i) n + size (fun i => p i && !q i) n = size p n
  | 0 => rfl
  | n + 1 => by
    have := size_and_diff p q n
    simp only [size]
    rcases Bool.eq_false_or_eq_true (p n) with hp | hp <;> rcases Bool.eq_false_or_eq_true (q n) with hq | hq <;> simp [hp, hq] <;> omega
theorem runs_false : ∀ n, runs (fun _ => false) n = []
  | 0 => rfl
  | n + 1 => by simp only [runs]; rw [if_neg (by simp), runs_false n]
theorem hr (p : Nat → Bool) {b : Nat} (h : b < 10000) : hasL (runs p 10000) b = p b := by rw [runs_has]; simp [h]
theorem TrafficAlgebra_plain (c1 c2 c3 : List UInt8) : F3 c1 c2 c3 = some true := by
  unfold F3
  rw [F5_eq]
  simp only [bnd_some]
  rw [if_neg (by simp)]
  obtain ⟨x, ex, sx⟩ := F6_eq c1
  obtain ⟨y, ey, sy⟩ := F6_eq c2
  obtain ⟨z, ez, sz⟩ := F6_eq c3
  rw [ex, ey, ez]
  simp only [bnd_some]
  rw [F7_eq sx sy, F8_eq sx sy, F9_eq sx sy]
  simp only [bnd_some]
  rw [F10_eq (small_runs _), F10_eq (small_runs _), F10_eq sx, F10_eq sy]
  simp only [bnd_some]
  rw [runs_size, runs_size]
  have a1 := size_or_and (hasL x) (hasL y) 10000
  have a2 := size_and_diff (hasL x) (hasL y) 10000
  have l1 := size_le (fun i => hasL x i || hasL y i) 10000
  have l2 := size_le (fun i => hasL x i && hasL y i) 10000
  have l3 := size_le (hasL x) 10000
  have l4 := size_le (hasL y) 10000
  have l5 := size_le (fun i => hasL x i && !hasL y i) 10000
  rw [w64 (by omega) (by omega), w64 (by omega) (by omega), if_neg (by simp; omega)]
  rw [F10_eq (small_runs _)]
  simp only [bnd_some]
  rw [runs_size, w64 (by omega) (by omega), if_neg (by simp; omega), F8_eq (small_runs _) sy]
  simp only [bnd_some]
  have e1 : runs (fun i => hasL (runs (fun i => hasL x i && !hasL y i) 10000) i && hasL y i) 10000 = [] := by
    rw [runs_congr (q := fun _ => false) 10000 fun b hb => ?_]
    · exact runs_false _
    · simp only [hr _ hb]
      cases hasL x b <;> cases hasL y b <;> rfl
  rw [e1, if_neg (by simp), F7_eq (small_runs _) (small_runs _), F12_eq sx]
  simp only [bnd_some]
  have e2 : runs (fun i => hasL (runs (fun i => hasL x i && !hasL y i) 10000) i || hasL (runs (fun i => hasL x i && hasL y i) 10000) i) 10000 = runs (hasL x) 10000 := runs_congr 10000 fun b hb => by
    simp only [hr _ hb]
    cases hasL x b <;> cases hasL y b <;> rfl
  rw [e2, F11_self _ (rl _)]
  simp only [bnd_some, if_true]
  rw [F7_eq (small_runs _) sz, F7_eq sy sz]
  simp only [bnd_some]
  rw [F7_eq sx (small_runs _)]
  simp only [bnd_some]
  have e3 : runs (fun i => hasL (runs (fun i => hasL x i || hasL y i) 10000) i || hasL z i) 10000 = runs (fun i => hasL x i || hasL (runs (fun i => hasL y i || hasL z i) 10000) i) 10000 := runs_congr 10000 fun b hb => by
    simp only [hr _ hb]
    cases hasL x b <;> cases hasL y b <;> rfl
  rw [e3, F11_self _ (rl _)]
  simp only [bnd_some, if_true]
  rw [F9_eq sx (small_runs _), F9_eq sx sz]
  simp only [bnd_some]
  rw [F8_eq (small_runs _) (small_runs _)]
  simp only [bnd_some]
  have e4 : runs (fun i => hasL x i && !hasL (runs (fun i => hasL y i || hasL z i) 10000) i) 10000 = runs (fun i => hasL (runs (fun i => hasL x i && !hasL y i) 10000) i && hasL (runs (fun i => hasL x i && !hasL z i) 10000) i) 10000 := runs_congr 10000 fun b hb => by
    simp only [hr _ hb]
    cases hasL x b <;> cases hasL y b <;> cases hasL z b <;> rfl
  rw [e4, F11_self _ (rl _)]
  rfl
end Go.Tm.L
namespace Go.Tm.L
/-- the form that the printed row asks for -/
theorem TA (a b c : List UInt8) {p q r : Prop} (_ : p) (_ : q) (_ : r) : F3 a b c = some true := TrafficAlgebra_plain a b c
theorem TS (a b : List UInt8) (x y : List S37) (n : Int) {p q r u : Prop} (_ : p) (_ : q) (_ : r) (_ : u) (h : -9223372036854775808 ≤ n ∧ n < 9223372036854775808) : F4 a b x y n = some true := TrafficSets_plain a b x y n (by omega) (by omega)
end Go.Tm.L
end

section
/- From a row's reading to a lifted function: arguments decoded; the law's call. -/
set_option linter.unusedVariables false
set_option linter.unusedSimpArgs false
namespace Go.Tm
open Go.Eng Go.RowKit

/-- all that lies there is frozen -/
def G0 (s : St) : Gh := ⟨fun _ _ => none, fun id => ∃ o, s.heap.get id = some o, fun _ => 0⟩
def K0 (s : St) : Cfg := cfg (G0 s) [] s
def InNext (s : St) : Prop := ∀ id o, s.heap.get id = some o → id < s.next
theorem rel0 {P : Program} {s : St} (h : InNext s) : Rel P (G0 s) [] s :=
  ⟨fun id ⟨o, ho⟩ => h id o ho, fun l k b hb => by simp [look] at hb, fun l k l' k' b b' id hb => by simp [look] at hb, fun l l' _ hl => by simp at hl⟩
theorem lev0 : StkLev [] := fun l k b hb => by simp [look] at hb

/-! ### 1. Decoding -/
section
variable {P : Program} {s : St}
theorem dec_int {t : TypeId} {k : IntKind} {cs : List Value} (hu : P.underlying t = some (.int k)) (h : Ty P s t cs) : ∃ n : Int, RC P (K0 s) (intK k n) cs ∧ (Lit.int k n).wf = true := by
  cases h with
  | @int _ k' n hu' hw => rw [hu] at hu'; simp at hu'; subst hu'; exact ⟨n, .at rfl, hw⟩
  | bool hu' => rw [hu] at hu'; simp at hu'
  | string hu' _ _ => rw [hu] at hu'; simp at hu'
  | nil hu' => rw [hu] at hu'; simp at hu'
  | slice _ hu' _ _ _ _ _ => rw [hu] at hu'; simp at hu'
  | struct hu' _ _ => rw [hu] at hu'; simp at hu'
theorem wf_i64 {n : Int} (h : (Lit.int .i64 n).wf = true) : -9223372036854775808 ≤ n ∧ n < 9223372036854775808 := by
  have : IntKind.i64.min = -9223372036854775808 ∧ IntKind.i64.max = 9223372036854775807 := by decide
  simp [Lit.wf, this.1, this.2] at h
  omega
theorem dec_i64 {t : TypeId} {cs : List Value} (hu : P.underlying t = some (.int .i64)) (h : Ty P s t cs) : ∃ n : Int, RC P (K0 s) (intTV n) cs ∧ (-9223372036854775808 ≤ n ∧ n < 9223372036854775808) := by
  obtain ⟨n, h1, h2⟩ := dec_int hu h
  exact ⟨n, h1, wf_i64 h2⟩
theorem dec_u8 {t : TypeId} {cs : List Value} (hu : P.underlying t = some (.int .u8)) (h : Ty P s t cs) : ∃ n : UInt8, RC P (K0 s) (byteTV n) cs ∧ True := by
  obtain ⟨n, h1, h2⟩ := dec_int hu h
  have : IntKind.u8.min = 0 ∧ IntKind.u8.max = 255 := by decide
  simp [Lit.wf, this.1, this.2] at h2
  refine ⟨UInt8.ofNat n.toNat, ?_, trivial⟩
  have e : ((UInt8.ofNat n.toNat).toNat : Int) = n := by rw [UInt8.toNat_ofNat']; omega
  unfold byteTV
  rw [e]; exact h1
theorem dec_bool {t : TypeId} {cs : List Value} (hu : P.underlying t = some .bool) (h : Ty P s t cs) : ∃ b : Bool, RC P (K0 s) (boolTV b) cs ∧ True := by
  cases h with
  | @bool _ b _ => exact ⟨b, .at rfl, trivial⟩
  | int hu' _ => rw [hu] at hu'; simp at hu'
  | string hu' _ _ => rw [hu] at hu'; simp at hu'
  | nil hu' => rw [hu] at hu'; simp at hu'
  | slice _ hu' _ _ _ _ _ => rw [hu] at hu'; simp at hu'
  | struct hu' _ _ => rw [hu] at hu'; simp at hu'
theorem dec_string {t : TypeId} {cs : List Value} (hu : P.underlying t = some .string) (h : Ty P s t cs) : ∃ b : List UInt8, RC P (K0 s) (strTV b) cs ∧ b.length ≤ 140737488355328 := by
  cases h with
  | @string _ b _ h1 h2 =>
    refine ⟨b.data.toList, .at rfl, ?_⟩
    have e1 : b.size = b.data.toList.length := by rw [Array.length_toList]; rfl
    have h3 : reachBytes = 140737488351232 := rfl
    omega
  | bool hu' => rw [hu] at hu'; simp at hu'
  | int hu' _ => rw [hu] at hu'; simp at hu'
  | nil hu' => rw [hu] at hu'; simp at hu'
  | slice _ hu' _ _ _ _ _ => rw [hu] at hu'; simp at hu'
  | struct hu' _ _ => rw [hu] at hu'; simp at hu'
/-- rows of equal length, joined -/
theorem flat_at {z : Nat} : ∀ {rows : List (List Value)} {i : Nat} {r : List Value}, (∀ r ∈ rows, r.length = z) → rows[i]? = some r → (rows.flatten.drop (i * z)).take z = r
  | [], i, r, _, h => by simp at h
  | a :: rows, 0, r, hz, h => by
    simp at h; subst h
    have ha := hz a (by simp)
    simp [ha]
  | a :: rows, i + 1, r, hz, h => by
    have ha := hz a (by simp)
    have ih := flat_at (rows := rows) (i := i) (r := r) (fun r hr => hz r (by simp [hr])) (by simpa using h)
    rw [List.flatten_cons, show (i + 1) * z = a.length + i * z by rw [ha, Nat.add_mul, Nat.one_mul, Nat.add_comm], List.drop_append, List.drop_eq_nil_of_le (by omega), Nat.add_sub_cancel_left]
    simpa using ih
theorem dec_slice {t e z : TypeId} {α : Type} {g : α → TV} {W : α → Prop} {cs : List Value} (hu : P.underlying t = some (.slice e)) (hz : sizeT P e = some z) (hc : P.cellsOf e = z) (hby : 1 ≤ P.bytesOf e) (hg : ∀ x, Tm.solid (g x) = true) (hd : ∀ cs, Ty P s e cs → ∃ x, RC P (K0 s) (g x) cs ∧ W x) (h : Ty P s t cs) : ∃ l : List α, RC P (K0 s) (.sl false e (l.map g)) cs ∧ (l.length ≤ 140737488355328 ∧ ∀ x ∈ l, W x) := by
  have h3 : reachBytes = 140737488351232 := rfl
  cases h with
  | nil _ => exact ⟨[], .slnil, by simp, by simp⟩
  | @slice _ e' id rows hu' hr hm hw hzr hrows =>
    rw [hu] at hu'; simp at hu'; subst hu'
    have hall : ∃ l : List α, l.length = rows.length ∧ (∀ (i : Nat) x r, l[i]? = some x → rows[i]? = some r → RC P (K0 s) (g x) r) ∧ ∀ x ∈ l, W x := by
      clear hr hm hw hzr
      induction rows with
      | nil => exact ⟨[], rfl, fun i x r h => by simp at h, fun x h => by simp at h⟩
      | cons r rows ih =>
        obtain ⟨l, h1, h2, h3⟩ := ih fun r hr => hrows r (by simp [hr])
        obtain ⟨x, hx, hw⟩ := hd r (hrows r (by simp))
        refine ⟨x :: l, by simp [h1], fun i y r' hy hr' => ?_, fun y hy => ?_⟩
        · cases i with
          | zero => simp at hy hr'; subst hy; subst hr'; exact hx
          | succ i => exact h2 i y r' (by simpa using hy) (by simpa using hr')
        · rcases List.mem_cons.1 hy with rfl | hy
          · exact hw
          · exact h3 y hy
    obtain ⟨l, hl, hrc, hW⟩ := hall
    have hlen0 : l.length ≤ 140737488355328 := by
      rw [hl]
      have : rows.length * 1 ≤ rows.length * P.bytesOf e := Nat.mul_le_mul_left _ hby
      omega
    refine ⟨l, ?_, hlen0, hW⟩
    have hz' : ∀ r ∈ rows, r.length = z := fun r hr => by rw [hzr r hr, hc]
    have hlen : rows.flatten.length = l.length * z := by
      rw [hl]
      clear hr hm hw hzr hrows hl hrc
      induction rows with
      | nil => simp
      | cons r rows ih =>
        rw [List.flatten_cons, List.length_append, ih fun r hr => hz' r (by simp [hr]), hz' r (by simp), List.length_cons, Nat.add_mul, Nat.one_mul, Nat.add_comm]
    have hob := row_obj hr
    rw [hc, ← hl, show l.length = (l.map g).length by simp]
    refine .sl (z := z) (cs := rows.flatten) ⟨_, hob⟩ ?_ hz (by omega) (fun e => by simp at e) (solid_map hg l) fun i tv hi => ?_
    · show s.some? id 0 _ = _
      unfold St.some?
      rw [hr]
      simp only [List.length_map]
      rw [if_pos (by omega), ← hlen, List.drop_zero, List.take_length]
    · rw [List.getElem?_map] at hi
      simp only [Option.map_eq_some_iff] at hi
      obtain ⟨x, hx, rfl⟩ := hi
      have hlt : i < rows.length := by rw [← hl]; exact (List.getElem?_eq_some_iff.1 hx).1
      have hri := List.getElem?_eq_getElem hlt
      rw [flat_at hz' hri]
      exact hrc i x _ hx hri
  | bool hu' => rw [hu] at hu'; simp at hu'
  | int hu' _ => rw [hu] at hu'; simp at hu'
  | string hu' _ _ => rw [hu] at hu'; simp at hu'
  | struct hu' _ _ => rw [hu] at hu'; simp at hu'
inductive RCF (P : Program) (K : Cfg) (cs : List Value) : List Field → List TV → Prop where
  | nil : RCF P K cs [] []
  | cons {f : Field} {fs : List Field} {tv : TV} {l : List TV} {z : Nat} (hz : sizeT P f.type = some z) (hb : f.offset + z ≤ cs.length) (h : RC P K tv ((cs.drop f.offset).take z)) (t : RCF P K cs fs l) : RCF P K cs (f :: fs) (tv :: l)
theorem RCF.at {K : Cfg} {cs : List Value} {fs : List Field} {l : List TV} (h : RCF P K cs fs l) : l.length = fs.length ∧ (∀ (i : Nat) f, fs[i]? = some f → ∃ z, sizeT P f.type = some z ∧ f.offset + z ≤ cs.length) ∧ ∀ (i : Nat) f tv z, fs[i]? = some f → l[i]? = some tv → sizeT P f.type = some z → RC P K tv ((cs.drop f.offset).take z) := by
  induction h with
  | nil => exact ⟨rfl, fun i f h => by simp at h, fun i f tv z h => by simp at h⟩
  | cons hz hb h _ ih =>
    obtain ⟨h1, h2, h3⟩ := ih
    refine ⟨by simp [h1], fun i f hi => ?_, fun i f tv z hi hj hk => ?_⟩
    · cases i with
      | zero => simp at hi; subst hi; exact ⟨_, hz, hb⟩
      | succ i => exact h2 i f (by simpa using hi)
    · cases i with
      | zero => simp at hi hj; subst hi; subst hj; rw [hz] at hk; simp at hk; subst hk; exact h
      | succ i => exact h3 i f tv z (by simpa using hi) (by simpa using hj) hk
theorem rc_struct {K : Cfg} {t : TypeId} {fs : Array Field} {cs : List Value} {l : List TV} (hu : P.underlying t = some (.struct fs)) (ht : tiledT P t = true) (hs : sizeT P t = some cs.length) (h : RCF P K cs fs.toList l) : RC P K (.agg t l) cs := by
  obtain ⟨h1, h2, h3⟩ := h.at
  exact .agg hu ht hs (by simpa using h1) (fun i f hi => h2 i f (by simpa using hi)) fun i f tv z hi hj hk => h3 i f tv z (by simpa using hi) hj hk
theorem ty_struct {t : TypeId} {fs : Array Field} {cs : List Value} (hu : P.underlying t = some (.struct fs)) (h : Ty P s t cs) : cs.length = P.cellsOf t ∧ ∀ f ∈ fs.toList, Ty P s f.type ((cs.drop f.offset).take (P.cellsOf f.type)) := by
  cases h with
  | struct hu' hl h => rw [hu] at hu'; simp at hu'; subst hu'; exact ⟨hl, h⟩
  | bool hu' => rw [hu] at hu'; simp at hu'
  | int hu' _ => rw [hu] at hu'; simp at hu'
  | string hu' _ _ => rw [hu] at hu'; simp at hu'
  | nil hu' => rw [hu] at hu'; simp at hu'
  | slice _ hu' _ _ _ _ _ => rw [hu] at hu'; simp at hu'
/-- an argument -/
theorem arg_flat {t : TypeId} {v : Value} {tv : TV} (hn : ∀ fs, P.underlying t ≠ some (.struct fs)) (ha : aggy tv = false) (h : TyV P s t v) (hd : ∀ cs, Ty P s t cs → RC P (K0 s) tv cs) : RV P (K0 s) tv v := by
  unfold TyV at h
  split at h
  · rename_i hu; exact absurd hu (hn _)
  · exact RV.single (hd _ h) ha
theorem TyV.flat {t : TypeId} {v : Value} (hn : (match P.underlying t with | some (.struct _) => false | _ => true) = true) (h : TyV P s t v) : Ty P s t [v] := by
  unfold TyV at h
  split at h
  · rename_i hu; rw [hu] at hn; simp at hn
  · exact h
theorem TyV.str {t : TypeId} {v : Value} {fs : Array Field} (hu : P.underlying t = some (.struct fs)) (h : TyV P s t v) : ∃ cs, v = .agg cs ∧ Ty P s t cs.toList := by
  unfold TyV at h
  rw [hu] at h
  exact h
end

/-! ### 2. The law's call -/
theorem law_eval {P : Program} {f : FuncId} {s : St} {vs : List Value} {args : List TV} (hn : InNext s) (hv : RVL P (K0 s) args vs) (hc : Con P full f args [] 0 (boolTV true) [] []) : ∃ n s', evalF P full n f vs s = some (.bool true, s') := by
  obtain ⟨n, v, s', he, G', out, R, st', lo, x, y, rfl, _⟩ := hc (G0 s) s vs (rel0 hn) lev0 hv
  obtain ⟨rfl, _⟩ := RV_at y
  exact ⟨n, s', he⟩
section
variable {H : Type} {enc : TypeId × Value → H} {P : Program} {W : World} {bs : Nat}
theorem law_calls2 {M : Masks} {f : FuncId} (hS : ∀ n, Sim P (evalF P M n)) {ts : List TypeId} {vs : Array Value} {ds : List (DataW H)} {ps : List MemPlace} (m : Nat)
    (hE : ∃ (b : Nat) (C : Array Value) (e : TypeId) (fz : Nat × Nat), W.heap[b]? = some (.cells C e fz)) (hm : ∀ t ∈ ts, okT P m t = true)
    (hT : DataW.TrodAll enc P W 0 (fun _ => true) true ts vs.toList ds ps) (hv : ∀ (j : Nat) t v, ts[j]? = some t → vs.toList[j]? = some v → Value.okWide P W .any bs t v) (hw : ∀ n ∈ DataW.weightsEach P ts ds, n ≤ reachBytes)
    (law : ∀ (s : St) (vs : List Value), InNext s → TyL P s ts vs → ∃ n s', evalF P M n f vs s = some (.bool true, s')) :
    Calls P f vs W fun e W' => e = .returned (.bool true) ∧ Below W.heap.size W W' := by
  have h0 : Eng.Rel (fun _ => none) ⟨Heap.empty, 0, 0⟩ W := ⟨fun _ _ _ _ _ h => by simp at h, fun _ _ _ _ _ _ _ _ _ _ _ h => by simp at h, fun _ _ _ h => by simp at h, fun id o h => by simp [Heap.get_empty] at h⟩
  have ro0 : RO ⟨Heap.empty, 0, 0⟩ := fun id o h => by simp [Heap.get_empty] at h
  obtain ⟨β, s, zs, hr, ro, _, hvl, hty⟩ := got_args hE m ts vs.toList ds ps _ _ h0 ro0 hm hT hv hw
  obtain ⟨n, s', he⟩ := law s zs (fun id o h => hr.nxt id o h) hty
  obtain ⟨_, hc⟩ := hS n _ _ _ _ _ he
  refine (hc β W vs hr hvl).mono fun e W' ⟨u, β', hu, hst, hv'⟩ => ?_
  have := hv'.bool
  subst this
  refine ⟨hu, hst.os, hst.tape, hst.output, hst.size, fun k hk => hst.frame k hk (fun id base o _ ho hmine => ?_)⟩
  rw [ro id o ho] at hmine
  simp at hmine
end
theorem tyl_cons {P : Program} {s : St} {t : TypeId} {ts : List TypeId} {vs : List Value} (h : TyL P s (t :: ts) vs) : ∃ a r, vs = a :: r ∧ TyV P s t a ∧ TyL P s ts r := by
  cases vs with
  | nil => simp [TyL] at h
  | cons a r => exact ⟨a, r, rfl, h.1, h.2⟩
theorem tyl_nil {P : Program} {s : St} {vs : List Value} (h : TyL P s [] vs) : vs = [] := by
  cases vs with
  | nil => rfl
  | cons a r => simp [TyL] at h
theorem shaped_block {P : Program} {W : World} (hg : P.globals.size = 0) (h0 : (match (begin P (fun _ _ => 0) default).world.heap[0]? with | some (.cells _ _ _) => true | _ => false) = true) (h : W.ShapedOpen P) : ∃ (b : Nat) (C : Array Value) (e : TypeId) (fz : Nat × Nat), W.heap[b]? = some (.cells C e fz) := by
  have hlt : 0 < (begin P (fun _ _ => 0) default).world.heap.size := by
    cases hx : (begin P (fun _ _ => 0) default).world.heap[0]? with
    | none => rw [hx] at h0; simp at h0
    | some o => exact (Array.getElem?_eq_some_iff.1 hx).1
  obtain ⟨o, o0, h1, h2, h3⟩ := h.2 0 (by omega) hlt
  rw [h2] at h0
  have : o = o0 := by simpa [World.looseAt] using h3
  subst this
  cases o with
  | cells C e fz => exact ⟨0, C, e, fz, h1⟩
  | _ => simp at h0
end Go.Tm
end

