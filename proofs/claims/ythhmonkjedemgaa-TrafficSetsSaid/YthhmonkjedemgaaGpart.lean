/- At every input within the bounds that the given rows TrafficAlgebraSaid and TrafficSetsSaid name, the laws TrafficAlgebra and TrafficSets of the package flagstonelaw14 return true and leave their arguments as they were. There is no further condition. -/
import Derived.Test.YthhmonkjedemgaaFpart
import Derived.HandedShaped
import Derived.JoinedOf
import Derived.WalkKit
import Derived.ProofKit
import Derived.OpenShut
import Derived.ShutString
import Derived.ChangeOld
import Derived.Below
import Derived.SizedLaws
import Derived.Test.YthhmonkjedemgaaRows

set_option linter.unusedVariables false
set_option linter.unusedSimpArgs false
set_option maxRecDepth 100000
namespace Go.Tm.L
open Go.Eng Go.Tm
theorem sims (n : Nat) : Sim Proofs.Try.prog (evalF Proofs.Try.prog full n) := eval_sim (by kernel_rfl) (by kernel_rfl) (by kernel_rfl) full (fun _ _ _ h => by cases h) n
theorem own : ownKnob Proofs.Try.prog.godebug = none := by kernel_rfl
theorem laidOut : laidOutB Proofs.Try.prog = true := by kernel_rfl
theorem noGlobals : Proofs.Try.prog.globals.size = 0 := by kernel_rfl
theorem block0 : (match (begin Proofs.Try.prog (fun _ _ => 0) default).world.heap[0]? with | some (.cells _ _ _) => true | _ => false) = true := by kernel_rfl
theorem sc_5 : sizeT Proofs.Try.prog 5 = some (Proofs.Try.prog.cellsOf 5) := by kernel_rfl
theorem sn_5 : sizeT Proofs.Try.prog 5 = some 1 := by kernel_rfl
theorem cof_5 : Proofs.Try.prog.cellsOf 5 = 1 := by kernel_rfl
def W5 (x : UInt8) : Prop := True
theorem dec_5 {s : St} {cs : List Value} (h : Ty Proofs.Try.prog s 5 cs) : ∃ x : UInt8, RC Proofs.Try.prog (K0 s) (byteTV x) cs ∧ W5 x := dec_u8 Proofs.Try.underlying5 h
theorem sc_22 : sizeT Proofs.Try.prog 22 = some (Proofs.Try.prog.cellsOf 22) := by kernel_rfl
theorem sn_22 : sizeT Proofs.Try.prog 22 = some 1 := by kernel_rfl
theorem cof_22 : Proofs.Try.prog.cellsOf 22 = 1 := by kernel_rfl
def W22 (x : List UInt8) : Prop := x.length ≤ 140737488355328 ∧ ∀ y ∈ x, W5 y
theorem dec_22 {s : St} {cs : List Value} (h : Ty Proofs.Try.prog s 22 cs) : ∃ x : List UInt8, RC Proofs.Try.prog (K0 s) (e22 x) cs ∧ W22 x := dec_slice (g := byteTV) (W := W5) Proofs.Try.underlying22 sn_5 cof_5 (of_decide_eq_true (by kernel_rfl)) (so_byteTV) (fun cs h => dec_5 h) h
theorem sc_3 : sizeT Proofs.Try.prog 3 = some (Proofs.Try.prog.cellsOf 3) := by kernel_rfl
theorem sn_3 : sizeT Proofs.Try.prog 3 = some 1 := by kernel_rfl
theorem cof_3 : Proofs.Try.prog.cellsOf 3 = 1 := by kernel_rfl
def W3 (x : Int) : Prop := -9223372036854775808 ≤ x ∧ x < 9223372036854775808
theorem dec_3 {s : St} {cs : List Value} (h : Ty Proofs.Try.prog s 3 cs) : ∃ x : Int, RC Proofs.Try.prog (K0 s) (intTV x) cs ∧ W3 x := dec_i64 Proofs.Try.underlying3 h
theorem sc_37 : sizeT Proofs.Try.prog 37 = some (Proofs.Try.prog.cellsOf 37) := by kernel_rfl
theorem sn_37 : sizeT Proofs.Try.prog 37 = some 2 := by kernel_rfl
theorem cof_37 : Proofs.Try.prog.cellsOf 37 = 2 := by kernel_rfl
def W37 (x : S37) : Prop := W3 x.From ∧ W3 x.To
theorem dec_37 {s : St} {cs : List Value} (h : Ty Proofs.Try.prog s 37 cs) : ∃ x : S37, RC Proofs.Try.prog (K0 s) (e37 x) cs ∧ W37 x := by
  obtain ⟨hl, hf⟩ := ty_struct Proofs.Try.underlying37 h
  obtain ⟨x0, r0, w0⟩ := dec_3 (hf _ (.head _))
  obtain ⟨x1, r1, w1⟩ := dec_3 (hf _ (.tail _ (.head _)))
  exact ⟨⟨x0, x1⟩, rc_struct Proofs.Try.underlying37 (by kernel_rfl) (by rw [hl]; exact sc_37) (.cons sc_3 (by rw [hl]; exact of_decide_eq_true (by kernel_rfl)) r0 (.cons sc_3 (by rw [hl]; exact of_decide_eq_true (by kernel_rfl)) r1 .nil)), ⟨w0, w1⟩⟩
theorem sc_24 : sizeT Proofs.Try.prog 24 = some (Proofs.Try.prog.cellsOf 24) := by kernel_rfl
theorem sn_24 : sizeT Proofs.Try.prog 24 = some 1 := by kernel_rfl
theorem cof_24 : Proofs.Try.prog.cellsOf 24 = 1 := by kernel_rfl
def W24 (x : List S37) : Prop := x.length ≤ 140737488355328 ∧ ∀ y ∈ x, W37 y
theorem dec_24 {s : St} {cs : List Value} (h : Ty Proofs.Try.prog s 24 cs) : ∃ x : List S37, RC Proofs.Try.prog (K0 s) (e24 x) cs ∧ W24 x := dec_slice (g := e37) (W := W37) Proofs.Try.underlying24 sn_37 cof_37 (of_decide_eq_true (by kernel_rfl)) (so_e37) (fun cs h => dec_37 h) h
theorem law_3 {s : St} {vs : List Value} (hn : InNext s) (h : TyL Proofs.Try.prog s [22, 22, 22] vs) : ∃ n s', evalF Proofs.Try.prog full n 3 vs s = some (.bool true, s') := by
  obtain ⟨a0, vs, rfl, h0, h⟩ := tyl_cons h
  obtain ⟨x0, e0, w0⟩ := dec_22 (TyV.flat (by kernel_rfl) h0)
  have v0 := RV.single e0 rfl
  obtain ⟨a1, vs, rfl, h1, h⟩ := tyl_cons h
  obtain ⟨x1, e1, w1⟩ := dec_22 (TyV.flat (by kernel_rfl) h1)
  have v1 := RV.single e1 rfl
  obtain ⟨a2, vs, rfl, h2, h⟩ := tyl_cons h
  obtain ⟨x2, e2, w2⟩ := dec_22 (TyV.flat (by kernel_rfl) h2)
  have v2 := RV.single e2 rfl
  have := tyl_nil h
  subst this
  exact law_eval hn (.cons v0 (.cons v1 (.cons v2 .nil))) (C3 (TA x0 x1 x2 w0 w1 w2) [])
theorem law_4 {s : St} {vs : List Value} (hn : InNext s) (h : TyL Proofs.Try.prog s [22, 22, 24, 24, 3] vs) : ∃ n s', evalF Proofs.Try.prog full n 4 vs s = some (.bool true, s') := by
  obtain ⟨a0, vs, rfl, h0, h⟩ := tyl_cons h
  obtain ⟨x0, e0, w0⟩ := dec_22 (TyV.flat (by kernel_rfl) h0)
  have v0 := RV.single e0 rfl
  obtain ⟨a1, vs, rfl, h1, h⟩ := tyl_cons h
  obtain ⟨x1, e1, w1⟩ := dec_22 (TyV.flat (by kernel_rfl) h1)
  have v1 := RV.single e1 rfl
  obtain ⟨a2, vs, rfl, h2, h⟩ := tyl_cons h
  obtain ⟨x2, e2, w2⟩ := dec_24 (TyV.flat (by kernel_rfl) h2)
  have v2 := RV.single e2 rfl
  obtain ⟨a3, vs, rfl, h3, h⟩ := tyl_cons h
  obtain ⟨x3, e3, w3⟩ := dec_24 (TyV.flat (by kernel_rfl) h3)
  have v3 := RV.single e3 rfl
  obtain ⟨a4, vs, rfl, h4, h⟩ := tyl_cons h
  obtain ⟨x4, e4, w4⟩ := dec_3 (TyV.flat (by kernel_rfl) h4)
  have v4 := RV.single e4 rfl
  have := tyl_nil h
  subst this
  exact law_eval hn (.cons v0 (.cons v1 (.cons v2 (.cons v3 (.cons v4 .nil))))) (C4 (TS x0 x1 x2 x3 x4 w0 w1 w2 w3 w4) [])
end Go.Tm.L
namespace Go.Proofs.Ythhmonkjedemgaa.trafficAlgebra
open Go.ChangeShapes Go.WideShapes Go.ChangeAt Go.RowKit
open Go.Eng Go.Tm Go.Tm.L
theorem lifted (os : Os) (started : os.Started) (H : Type) (enc : TypeId × Value → H) :
    ReturnsInHanded {} Try.checked os 3 .any (Rows.trafficAlgebraSpec.pre6 enc Try.prog Try.f3 Rows.trafficAlgebraRow.domain false) (Rows.trafficAlgebraSpec.post enc Try.prog Try.f3 false true false false) := by
  refine returnsInHanded_of_change_shaped (C := Try.checked) L.own started (by kernel_rfl) Try.func3
    (ChangeSpec.witness6 (enc := enc) (C := Try.checked) false ⟨#[], #[.slice none 0 0, .slice none 0 0, .slice none 0 0], []⟩ 8 (by kernel_rfl) (by kernel_rfl) (by kernel_rfl) (by kernel_rfl)) ?_
  intro W base args ds gs before hval0 hW hcnd hsz0 hsh _
  have hsz : (DataW.weightsEach Try.prog (Try.f3.params.toList ++ Rows.trafficAlgebraSpec.plain.varTypes Try.prog) (ds ++ gs)).all (· ≤ reachBytes) = true := hsz0
  have hval : ∀ (j : Nat) t v, Try.f3.params[j]? = some t → args[j]? = some v → Value.okWide Try.prog W .any base t v := hval0
  have hW' := hW
  obtain ⟨p, q, hA0, hV, rfl, hfz, hnd⟩ := hW
  have hA : DataW.TrodAll enc Try.prog W 0 (fun _ => true) true Try.f3.params.toList args.toList ds p := hA0
  rw [Try.params3] at hA hval hsz
  have hA1 := hA
  obtain ⟨v0, vs0, d0, ds0, p0, q0, hargs, rfl, rfl, h0, r0⟩ := trodAll_cons hA
  obtain ⟨v1, vs1, d1, ds1, p1, q1, rfl, rfl, rfl, h1, r1⟩ := trodAll_cons r0
  obtain ⟨v2, vs2, d2, ds2, p2, q2, rfl, rfl, rfl, h2, r2⟩ := trodAll_cons r1
  obtain ⟨rfl, rfl, rfl⟩ := trodAll_nil r2
  obtain rfl : args = #[v0, v1, v2] := by cases args; simp_all
  obtain ⟨rfl, rfl⟩ := trodVars_none hV
  have lt0 : ∀ x ∈ p0, x.block < W.heap.size := by obtain ⟨m, hm⟩ := h0; exact DataW.trod_lt m _ _ _ hm
  have lt1 : ∀ x ∈ p1, x.block < W.heap.size := by obtain ⟨m, hm⟩ := h1; exact DataW.trod_lt m _ _ _ hm
  have lt2 : ∀ x ∈ p2, x.block < W.heap.size := by obtain ⟨m, hm⟩ := h2; exact DataW.trod_lt m _ _ _ hm
  have hw : ∀ n ∈ DataW.weightsEach Try.prog [22, 22, 22] [d0, d1, d2], n ≤ reachBytes := by
    have h2 := List.all_eq_true.1 hsz
    intro n hn
    have := h2 n (by first | exact hn | simpa using hn)
    simpa using this
  refine (law_calls2 (M := full) (f := 3) (bs := base) sims 16 (shaped_block L.noGlobals L.block0 hsh) (fun t ht => List.all_eq_true.1 (show ([22, 22, 22] : List Nat).all (okT Try.prog 16) = true by kernel_rfl) t ht) hA1 (fun j t v a b => hval j t v (by first | exact a | simpa using a) (by first | exact b | simpa using b)) hw (fun s vs hn hty => law_3 hn hty)).mono fun e W' ⟨he, bel⟩ => ?_
  subst he
  exact ⟨_, rfl, _, _, _, [], _, [], hW', trodAll_mk1 (shut_bool Try.underlying4 _), (trodAll_cons_mk (Below.trod L.laidOut (by kernel_rfl) (of_decide_eq_true (by kernel_rfl)) h0 bel lt0) (trodAll_cons_mk (Below.trod L.laidOut (by kernel_rfl) (of_decide_eq_true (by kernel_rfl)) h1 bel lt1) (trodAll_cons_mk (Below.trod L.laidOut (by kernel_rfl) (of_decide_eq_true (by kernel_rfl)) h2 bel lt2) trodAll_mk0))), rfl, bel.frame _, fun h => by cases h⟩
theorem over : Rows.trafficAlgebraRow.holds Try.pinned (OpenSpec.ofChange Rows.trafficAlgebraSpec) :=
  OpenClaim.holds_of_wide 3 Try.f3 rfl rfl rfl rfl rfl rfl rfl ⟨rfl, rfl, rfl, rfl, rfl⟩ rfl rfl rfl rfl rfl (by kernel_rfl) Try.func3 (by kernel_rfl)
    (of_decide_eq_true (by kernel_rfl)) (by unfold Func.isWrapper; first | (rw [if_pos (by decide +kernel)]; kernel_rfl) | (rw [if_neg (by decide +kernel)]; exact ⟨rfl, rfl⟩))
    (fun os started H enc _ => lifted os started H enc)
end Go.Proofs.Ythhmonkjedemgaa.trafficAlgebra
namespace Go.Proofs.Ythhmonkjedemgaa
theorem trafficAlgebra_holds : Rows.TrafficAlgebraSaid := trafficAlgebra.over
#print axioms trafficAlgebra_holds
end Go.Proofs.Ythhmonkjedemgaa
namespace Go.Proofs.Ythhmonkjedemgaa.trafficSets
open Go.ChangeShapes Go.WideShapes Go.ChangeAt Go.RowKit
open Go.Eng Go.Tm Go.Tm.L
theorem lifted (os : Os) (started : os.Started) (H : Type) (enc : TypeId × Value → H) :
    ReturnsInHanded {} Try.checked os 4 .any (Rows.trafficSetsSpec.pre6 enc Try.prog Try.f4 Rows.trafficSetsRow.domain false) (Rows.trafficSetsSpec.post enc Try.prog Try.f4 false true false false) := by
  refine returnsInHanded_of_change_shaped (C := Try.checked) L.own started (by kernel_rfl) Try.func4
    (ChangeSpec.witness6 (enc := enc) (C := Try.checked) false ⟨#[], #[.slice none 0 0, .slice none 0 0, .slice none 0 0, .slice none 0 0, .int .i64 0], []⟩ 8 (by kernel_rfl) (by kernel_rfl) (by kernel_rfl) (by kernel_rfl)) ?_
  intro W base args ds gs before hval0 hW hcnd hsz0 hsh _
  have hsz : (DataW.weightsEach Try.prog (Try.f4.params.toList ++ Rows.trafficSetsSpec.plain.varTypes Try.prog) (ds ++ gs)).all (· ≤ reachBytes) = true := hsz0
  have hval : ∀ (j : Nat) t v, Try.f4.params[j]? = some t → args[j]? = some v → Value.okWide Try.prog W .any base t v := hval0
  have hW' := hW
  obtain ⟨p, q, hA0, hV, rfl, hfz, hnd⟩ := hW
  have hA : DataW.TrodAll enc Try.prog W 0 (fun _ => true) true Try.f4.params.toList args.toList ds p := hA0
  rw [Try.params4] at hA hval hsz
  have hA1 := hA
  obtain ⟨v0, vs0, d0, ds0, p0, q0, hargs, rfl, rfl, h0, r0⟩ := trodAll_cons hA
  obtain ⟨v1, vs1, d1, ds1, p1, q1, rfl, rfl, rfl, h1, r1⟩ := trodAll_cons r0
  obtain ⟨v2, vs2, d2, ds2, p2, q2, rfl, rfl, rfl, h2, r2⟩ := trodAll_cons r1
  obtain ⟨v3, vs3, d3, ds3, p3, q3, rfl, rfl, rfl, h3, r3⟩ := trodAll_cons r2
  obtain ⟨v4, vs4, d4, ds4, p4, q4, rfl, rfl, rfl, h4, r4⟩ := trodAll_cons r3
  obtain ⟨rfl, rfl, rfl⟩ := trodAll_nil r4
  obtain rfl : args = #[v0, v1, v2, v3, v4] := by cases args; simp_all
  obtain ⟨rfl, rfl⟩ := trodVars_none hV
  have lt0 : ∀ x ∈ p0, x.block < W.heap.size := by obtain ⟨m, hm⟩ := h0; exact DataW.trod_lt m _ _ _ hm
  have lt1 : ∀ x ∈ p1, x.block < W.heap.size := by obtain ⟨m, hm⟩ := h1; exact DataW.trod_lt m _ _ _ hm
  have lt2 : ∀ x ∈ p2, x.block < W.heap.size := by obtain ⟨m, hm⟩ := h2; exact DataW.trod_lt m _ _ _ hm
  have lt3 : ∀ x ∈ p3, x.block < W.heap.size := by obtain ⟨m, hm⟩ := h3; exact DataW.trod_lt m _ _ _ hm
  have lt4 : ∀ x ∈ p4, x.block < W.heap.size := by obtain ⟨m, hm⟩ := h4; exact DataW.trod_lt m _ _ _ hm
  have hw : ∀ n ∈ DataW.weightsEach Try.prog [22, 22, 24, 24, 3] [d0, d1, d2, d3, d4], n ≤ reachBytes := by
    have h2 := List.all_eq_true.1 hsz
    intro n hn
    have := h2 n (by first | exact hn | simpa using hn)
    simpa using this
  refine (law_calls2 (M := full) (f := 4) (bs := base) sims 16 (shaped_block L.noGlobals L.block0 hsh) (fun t ht => List.all_eq_true.1 (show ([22, 22, 24, 24, 3] : List Nat).all (okT Try.prog 16) = true by kernel_rfl) t ht) hA1 (fun j t v a b => hval j t v (by first | exact a | simpa using a) (by first | exact b | simpa using b)) hw (fun s vs hn hty => law_4 hn hty)).mono fun e W' ⟨he, bel⟩ => ?_
  subst he
  exact ⟨_, rfl, _, _, _, [], _, [], hW', trodAll_mk1 (shut_bool Try.underlying4 _), (trodAll_cons_mk (Below.trod L.laidOut (by kernel_rfl) (of_decide_eq_true (by kernel_rfl)) h0 bel lt0) (trodAll_cons_mk (Below.trod L.laidOut (by kernel_rfl) (of_decide_eq_true (by kernel_rfl)) h1 bel lt1) (trodAll_cons_mk (Below.trod L.laidOut (by kernel_rfl) (of_decide_eq_true (by kernel_rfl)) h2 bel lt2) (trodAll_cons_mk (Below.trod L.laidOut (by kernel_rfl) (of_decide_eq_true (by kernel_rfl)) h3 bel lt3) (trodAll_cons_mk (Below.trod L.laidOut (by kernel_rfl) (of_decide_eq_true (by kernel_rfl)) h4 bel lt4) trodAll_mk0))))), rfl, bel.frame _, fun h => by cases h⟩
theorem over : Rows.trafficSetsRow.holds Try.pinned (OpenSpec.ofChange Rows.trafficSetsSpec) :=
  OpenClaim.holds_of_wide 4 Try.f4 rfl rfl rfl rfl rfl rfl rfl ⟨rfl, rfl, rfl, rfl, rfl⟩ rfl rfl rfl rfl rfl (by kernel_rfl) Try.func4 (by kernel_rfl)
    (of_decide_eq_true (by kernel_rfl)) (by unfold Func.isWrapper; first | (rw [if_pos (by decide +kernel)]; kernel_rfl) | (rw [if_neg (by decide +kernel)]; exact ⟨rfl, rfl⟩))
    (fun os started H enc _ => lifted os started H enc)
end Go.Proofs.Ythhmonkjedemgaa.trafficSets
namespace Go.Proofs.Ythhmonkjedemgaa
theorem trafficSets_holds : Rows.TrafficSetsSaid := trafficSets.over
#print axioms trafficSets_holds
end Go.Proofs.Ythhmonkjedemgaa
