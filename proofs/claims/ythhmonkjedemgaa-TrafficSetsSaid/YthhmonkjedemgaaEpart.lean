/- Part 5 of a proof in parts; the last part, YthhmonkjedemgaaGpart, proves this: At every input within the bounds that the given rows TrafficAlgebraSaid and TrafficSetsSaid name, the laws TrafficAlgebra and TrafficSets of the package flagstonelaw14 return true and leave their arguments as they were. There is no further condition. -/
import Derived.Test.YthhmonkjedemgaaDpart

section
set_option linter.unusedVariables false
set_option linter.unusedSimpArgs false
set_option maxRecDepth 100000
set_option maxHeartbeats 4000000
namespace Go.Tm.L
open Go.Eng Go.Tm
noncomputable def B25_13 (w15 : List S37) (p17 : Int) (p18 : Vector Int 10001) : Option (Stp (Int × (Vector Int 10001)) (Vector Int 10001)) :=
  if (decide (p17 < (w15.length : Int))) then (bnd (α := Vector Int 10001) (bnd (idx w15 p17) fun w28 => if (decide ((max w28.From 0) < (min w28.To 10000))) then (bnd (idx p18.toList (max w28.From 0)) fun w31 => bnd (idx p18.toList (max w28.From 0)) fun w33 => bnd (idx (p18.setIfInBounds ((max w28.From 0).toNat) (IntKind.wrap .i64 (w31 + 1))).toList (min w28.To 10000)) fun w35 => bnd (idx (p18.setIfInBounds ((max w28.From 0).toNat) (IntKind.wrap .i64 (w31 + 1))).toList (min w28.To 10000)) fun w37 => some ((p18.setIfInBounds ((max w28.From 0).toNat) (IntKind.wrap .i64 (w31 + 1))).setIfInBounds ((min w28.To 10000).toNat) (IntKind.wrap .i64 (w35 - 1)))) else (some p18)) fun t27 => some (.next ((IntKind.wrap .i64 (p17 + 1)), t27))) else (some (.done p18))
noncomputable def B25_14 (x0 : List (List S37)) (p4 : Int) (p5 : Vector Int 10001) : Option (Stp (Int × (Vector Int 10001)) (Vector Int 10001)) :=
  if (decide (p4 < (x0.length : Int))) then (bnd (α := Vector Int 10001) (bnd (idx x0 p4) fun w15 => bnd (loopO (σ := Int × (Vector Int 10001)) (ρ := Vector Int 10001) (fun s => B25_13 w15 s.1 s.2) (0, p5)) fun z22 => some z22) fun t14 => some (.next ((IntKind.wrap .i64 (p4 + 1)), t14))) else (some (.done p5))
noncomputable def B25_16 (t3 : Vector Int 10001) (p42 : Int) (p43 : Int) (p44 : Vector Bool 10000) : Option (Stp (Int × Int × (Vector Bool 10000)) (Vector Bool 10000)) :=
  if (decide (p43 < 10000)) then (bnd (idx t3.toList p43) fun w51 => bnd (idx p44.toList p43) fun w53 => some (.next ((IntKind.wrap .i64 (p42 + w51)), (IntKind.wrap .i64 (p43 + 1)), (p44.setIfInBounds p43.toNat (decide ((IntKind.wrap .i64 (p42 + w51)) > 0)))))) else (some (.done p44))
/-- flagstone.traffic.of -/
noncomputable def F25 (x0 : List (List S37)) : Option (Vector Bool 10000) :=
  bnd (α := Vector Int 10001) (bnd (loopO (σ := Int × (Vector Int 10001)) (ρ := Vector Int 10001) (fun s => B25_14 x0 s.1 s.2) (0, (Vector.replicate 10001 0))) fun z9 => some z9) fun t3 => bnd (α := Vector Bool 10000) (bnd (loopO (σ := Int × Int × (Vector Bool 10000)) (ρ := Vector Bool 10000) (fun s => B25_16 t3 s.1 s.2.1 s.2.2) (0, 0, (Vector.replicate 10000 false))) fun z48 => some z48) fun t41 => some t41
theorem C25 {x0 : List (List S37)} {r : Vector Bool 10000} (h : F25 x0 = some r) (S : Stk) : Con Proofs.Try.prog full 25 [(.sl false 24 (x0.map e24))] S S.length (e42 r) [] S := by
  have hB : S.length ≤ S.length := Nat.le_refl _
  refine con_of' (n := 60) (rs := [.cell 2 42]) (A := [(0, (.sl false 24 (x0.map e24)))]) Proofs.Try.func25 rfl rfl rfl rfl hB rfl ?_
  unfold F25 at h
  refine cx_seq ?_
  refine cx_reg rfl ?_
  refine rq (so_alloc (k := 0) zero_42 rfl rfl .nil) rfl ?_
  refine rx_nil ?_
  refine kseq ?_
  refine cx_seq ?_
  refine cx_reg rfl ?_
  refine rq (so_alloc (k := 1) zero_52 rfl rfl (.cons .nil)) rfl ?_
  refine rx_nil ?_
  refine kseq ?_
  obtain ⟨t1, h2, h⟩ := bnd_inv h
  refine cx_meet (τ := Vector Int 10001) (fun t => [(2, (.ptr S.length 0 0 [])), (3, (.ptr S.length 1 0 []))]) (fun t => ([⟨(e42 (Vector.replicate 10000 false)), false⟩, ⟨(e52 t), false⟩] :: S)) (fun t => t1 = t) (fun _ => rfl) ?_ ?_
  · refine cx_seq ?_
    refine cx_reg rfl ?_
    refine rq (so_move rfl) rfl ?_
    refine rq (so_lenM rfl k_51) rfl ?_
    refine rq (so_move rfl) rfl ?_
    refine rx_nil ?_
    refine kseq ?_
    refine cx_block ?_
    obtain ⟨z9, h10, h2⟩ := bnd_inv h2
    refine cx_loop _ (fun s => [(2, (.ptr S.length 0 0 [])), (3, (.ptr S.length 1 0 [])), (13, (.sl false 24 (x0.map e24))), (14, (intTV (x0.length : Int))), (15, (intTV s.1))]) (fun s => ([⟨(e42 (Vector.replicate 10000 false)), false⟩, ⟨(e52 s.2), false⟩] :: S)) h10 (fun _ => rfl) (wxs (subc (k := 2) rfl (subc (k := 3) rfl (subc (k := 13) rfl (subc (k := 14) rfl (subc (k := 15) rfl sub0)))))) ?_
    rintro ⟨p4, p5⟩ y6 h7 h8
    try dsimp only at h7 ⊢
    unfold B25_14 at h7
    refine cx_seq ?_
    refine cx_reg rfl ?_
    refine rq (so_bin rfl rfl rfl rfl) rfl ?_
    refine rx_nil ?_
    refine kseq ?_
    refine cx_seq ?_
    refine cx_cond rfl rfl (fun b11 => ?_) (fun b11 => ?_)
    · replace h7 := ite_t h7 b11
      refine cx_skip ?_
      refine kseq ?_
      obtain ⟨t12, h13, h7⟩ := bnd_inv h7
      refine cx_meet (τ := Vector Int 10001) (fun t => [(2, (.ptr S.length 0 0 [])), (3, (.ptr S.length 1 0 [])), (13, (.sl false 24 (x0.map e24))), (14, (intTV (x0.length : Int))), (15, (intTV p4))]) (fun t => ([⟨(e42 (Vector.replicate 10000 false)), false⟩, ⟨(e52 t), false⟩] :: S)) (fun t => t12 = t) (fun _ => rfl) ?_ ?_
      · refine cx_block ?_
        refine cx_seq ?_
        refine cx_reg rfl ?_
        obtain ⟨w15, c16, h13⟩ := bnd_inv h13
        refine rq (so_ixM rfl rfl sl_51 c16) rfl ?_
        refine rq (so_loadE rfl (fo_24 rfl)) rfl ?_
        refine rq (so_assign rfl) rfl ?_
        refine rx_nil ?_
        refine kseq ?_
        refine cx_seq ?_
        refine cx_reg rfl ?_
        refine rq (so_move rfl) rfl ?_
        refine rq (so_lenM rfl k_24) rfl ?_
        refine rq (so_move rfl) rfl ?_
        refine rx_nil ?_
        refine kseq ?_
        refine cx_block ?_
        obtain ⟨z22, h23, h13⟩ := bnd_inv h13
        refine cx_loop _ (fun s => [(2, (.ptr S.length 0 0 [])), (3, (.ptr S.length 1 0 [])), (13, (.sl false 24 (x0.map e24))), (14, (intTV (x0.length : Int))), (15, (intTV p4)), (19, (.sl false 37 (w15.map e37))), (20, (intTV (w15.length : Int))), (21, (intTV s.1))]) (fun s => ([⟨(e42 (Vector.replicate 10000 false)), false⟩, ⟨(e52 s.2), false⟩] :: S)) h23 (fun _ => rfl) (wxs (subc (k := 2) rfl (subc (k := 3) rfl (subc (k := 13) rfl (subc (k := 14) rfl (subc (k := 15) rfl (subc (k := 19) rfl (subc (k := 20) rfl (subc (k := 21) rfl sub0))))))))) ?_
        rintro ⟨p17, p18⟩ y19 h20 h21
        try dsimp only at h20 ⊢
        unfold B25_13 at h20
        refine cx_seq ?_
        refine cx_reg rfl ?_
        refine rq (so_bin rfl rfl rfl rfl) rfl ?_
        refine rx_nil ?_
        refine kseq ?_
        refine cx_seq ?_
        refine cx_cond rfl rfl (fun b24 => ?_) (fun b24 => ?_)
        · replace h20 := ite_t h20 b24
          refine cx_skip ?_
          refine kseq ?_
          obtain ⟨t25, h26, h20⟩ := bnd_inv h20
          refine cx_meet (τ := Vector Int 10001) (fun t => [(2, (.ptr S.length 0 0 [])), (3, (.ptr S.length 1 0 [])), (13, (.sl false 24 (x0.map e24))), (14, (intTV (x0.length : Int))), (15, (intTV p4)), (19, (.sl false 37 (w15.map e37))), (20, (intTV (w15.length : Int))), (21, (intTV p17))]) (fun t => ([⟨(e42 (Vector.replicate 10000 false)), false⟩, ⟨(e52 t), false⟩] :: S)) (fun t => t25 = t) (fun _ => rfl) ?_ ?_
          · refine cx_block ?_
            refine cx_seq ?_
            refine cx_reg rfl ?_
            obtain ⟨w28, c29, h26⟩ := bnd_inv h26
            refine rq (so_ixM rfl rfl sl_24 c29) rfl ?_
            refine rq (so_loadE rfl fo_37) rfl ?_
            refine rq (so_alloc (k := 2) zero_37 rfl rfl (.cons (.cons .nil))) rfl ?_
            refine rs (so_store0 rfl rfl (lk_own rfl rfl) rfl rfl gp0 rfl rfl fo_37 fo_37 sp0 (up_own rfl (.succ (.succ .zero)))) (Nat.le_refl _) ?_
            refine rx_nil ?_
            refine kseq ?_
            refine cx_seq ?_
            refine cx_draw (b := #[0, 1, 3, 0, 8, 24, 7, 127]) rfl (by kernel_rfl) ?_
            refine dz (so_faddr rfl fok_37_0 (live_of (lk_own rfl rfl) rfl)) rfl rfl ?_
            refine dq (so_load rfl (lk_own rfl rfl) rfl (gpf rfl gp0) (fo_3 rfl)) rfl rfl rfl ?_
            refine dq (so_max rfl rfl) rfl rfl rfl ?_
            refine dz (so_faddr rfl fok_37_1 (live_of (lk_own rfl rfl) rfl)) rfl rfl ?_
            refine dq (so_load rfl (lk_own rfl rfl) rfl (gpf rfl gp0) (fo_3 rfl)) rfl rfl rfl ?_
            refine dq (so_min rfl rfl) rfl rfl rfl ?_
            refine dz (so_assign rfl) rfl rfl ?_
            refine dz (so_assign rfl) rfl rfl ?_
            refine dx_nil ?_
            refine kseq ?_
            refine cx_seq ?_
            refine cx_reg rfl ?_
            refine rq (so_move rfl) rfl ?_
            refine rq (so_move rfl) rfl ?_
            refine rq (so_bin rfl rfl rfl rfl) rfl ?_
            refine rx_nil ?_
            refine kseq ?_
            refine cx_cond rfl rfl (fun b30 => ?_) (fun b30 => ?_)
            · replace h26 := ite_t h26 b30
              refine cx_seq ?_
              refine cx_reg rfl ?_
              refine rq (so_move rfl) rfl ?_
              obtain ⟨w31, c32, h26⟩ := bnd_inv h26
              refine rq (so_ixP rfl rfl ar_52 (live_of (lk_own rfl rfl) rfl) (idx_bnd c32 (by simp))) rfl ?_
              refine rq (so_load rfl (lk_own rfl rfl) rfl (gpa (map_at (idx_some c32).2.1) gp0) (fo_3 rfl)) rfl ?_
              refine rq (so_bin rfl rfl rfl rfl) rfl ?_
              obtain ⟨w33, c34, h26⟩ := bnd_inv h26
              refine rq (so_ixP rfl rfl ar_52 (live_of (lk_own rfl rfl) rfl) (idx_bnd c34 (by simp))) rfl ?_
              refine rs (so_store rfl rfl (lk_own rfl rfl) rfl rfl (gpa (map_at (idx_some c34).2.1) gp0) rfl (fo_3 rfl) (fo_3 rfl) (spY (x' := (IntKind.wrap .i64 (w31 + 1))) (idx_some c34).2.1 sp0 rfl) (up_own rfl (.succ .zero))) (Nat.le_refl _) ?_
              refine rx_nil ?_
              refine kseq ?_
              refine cx_reg rfl ?_
              refine rq (so_move rfl) rfl ?_
              obtain ⟨w35, c36, h26⟩ := bnd_inv h26
              refine rq (so_ixP rfl rfl ar_52 (live_of (lk_own rfl rfl) rfl) (idx_bnd c36 (by simp))) rfl ?_
              refine rq (so_load rfl (lk_own rfl rfl) rfl (gpa (map_at (idx_some c36).2.1) gp0) (fo_3 rfl)) rfl ?_
              refine rq (so_bin rfl rfl rfl rfl) rfl ?_
              obtain ⟨w37, c38, h26⟩ := bnd_inv h26
              refine rq (so_ixP rfl rfl ar_52 (live_of (lk_own rfl rfl) rfl) (idx_bnd c38 (by simp))) rfl ?_
              refine rs (so_store rfl rfl (lk_own rfl rfl) rfl rfl (gpa (map_at (idx_some c38).2.1) gp0) rfl (fo_3 rfl) (fo_3 rfl) (spY (x' := (IntKind.wrap .i64 (w35 - 1))) (idx_some c38).2.1 sp0 rfl) (up_own rfl (.succ .zero))) (Nat.le_refl _) ?_
              refine rx_nil ?_
              refine kb_n ?_
              have e_ := some_inj h26; subst e_
              exact jk_n ((p18.setIfInBounds ((max w28.From 0).toNat) (IntKind.wrap .i64 (w31 + 1))).setIfInBounds ((min w28.To 10000).toNat) (IntKind.wrap .i64 (w35 - 1))) rfl (WX.trans (wxs (subc (k := 2) rfl (subc (k := 3) rfl (subc (k := 13) rfl (subc (k := 14) rfl (subc (k := 15) rfl (subc (k := 19) rfl (subc (k := 20) rfl (subc (k := 21) rfl sub0))))))))) (WX.trans (wxcut (k := 2) rfl rfl (List.take_append_drop 2 _).symm (fac (fbp rfl) (fac (fbp rfl) (fac (fbs rfl) (fac (fbs rfl) (fac (fbs rfl) (fac (fbs rfl) (fac (fbs rfl) (fac (fbs rfl) fa0)))))))) (ffc (fbs rfl) (ffc (fbs rfl) ff0))) (wxs (subc (k := 2) rfl (subc (k := 3) rfl (subc (k := 13) rfl (subc (k := 14) rfl (subc (k := 15) rfl (subc (k := 19) rfl (subc (k := 20) rfl (subc (k := 21) rfl sub0)))))))))))
            · replace h26 := ite_f h26 b30
              refine cx_skip ?_
              refine kb_n ?_
              have e_ := some_inj h26; subst e_
              exact jk_n p18 rfl (WX.trans (wxs (subc (k := 2) rfl (subc (k := 3) rfl (subc (k := 13) rfl (subc (k := 14) rfl (subc (k := 15) rfl (subc (k := 19) rfl (subc (k := 20) rfl (subc (k := 21) rfl sub0))))))))) (WX.trans (wxcut (k := 2) rfl rfl (List.take_append_drop 2 _).symm (fac (fbp rfl) (fac (fbp rfl) (fac (fbs rfl) (fac (fbs rfl) (fac (fbs rfl) (fac (fbs rfl) (fac (fbs rfl) (fac (fbs rfl) fa0)))))))) (ffc (fbs rfl) (ffc (fbs rfl) ff0))) (wxs (subc (k := 2) rfl (subc (k := 3) rfl (subc (k := 13) rfl (subc (k := 14) rfl (subc (k := 15) rfl (subc (k := 19) rfl (subc (k := 20) rfl (subc (k := 21) rfl sub0)))))))))))
          · intro t27 ht
            rw [ht] at h20
            try dsimp only at h20 ⊢
            refine cx_reg rfl ?_
            refine rq (so_bin rfl rfl rfl rfl) rfl ?_
            refine rq (so_move rfl) rfl ?_
            refine rx_nil ?_
            have e_ := some_inj h20; subst e_
            exact lnext rfl (wxs (subc (k := 2) rfl (subc (k := 3) rfl (subc (k := 13) rfl (subc (k := 14) rfl (subc (k := 15) rfl (subc (k := 19) rfl (subc (k := 20) rfl (subc (k := 21) rfl sub0)))))))))
        · replace h20 := ite_f h20 b24
          refine cx_exit ?_
          refine ks_x ?_
          have e_ := some_inj h20; subst e_
          have e_ := h21 _ rfl; subst e_
          refine ldone rfl ?_
          refine kb_e ?_
          refine kb_n ?_
          have e_ := some_inj h13; subst e_
          exact jk_n p18 rfl (wxs (subc (k := 2) rfl (subc (k := 3) rfl (subc (k := 13) rfl (subc (k := 14) rfl (subc (k := 15) rfl sub0))))))
      · intro t14 ht
        rw [ht] at h7
        try dsimp only at h7 ⊢
        refine cx_reg rfl ?_
        refine rq (so_bin rfl rfl rfl rfl) rfl ?_
        refine rq (so_move rfl) rfl ?_
        refine rx_nil ?_
        have e_ := some_inj h7; subst e_
        exact lnext rfl (wxs (subc (k := 2) rfl (subc (k := 3) rfl (subc (k := 13) rfl (subc (k := 14) rfl (subc (k := 15) rfl sub0))))))
    · replace h7 := ite_f h7 b11
      refine cx_exit ?_
      refine ks_x ?_
      have e_ := some_inj h7; subst e_
      have e_ := h8 _ rfl; subst e_
      refine ldone rfl ?_
      refine kb_e ?_
      have e_ := some_inj h2; subst e_
      exact jk_n p5 rfl (wxs (subc (k := 2) rfl (subc (k := 3) rfl sub0)))
  · intro t3 ht
    rw [ht] at h
    try dsimp only at h ⊢
    refine cx_seq ?_
    refine cx_reg rfl ?_
    refine rq (so_alloc (k := 2) zero_42 rfl rfl (.cons (.cons .nil))) rfl ?_
    refine rx_nil ?_
    refine kseq ?_
    refine cx_seq ?_
    refine cx_reg rfl ?_
    refine rq (so_assign rfl) rfl ?_
    refine rx_nil ?_
    refine kseq ?_
    obtain ⟨t39, h40, h⟩ := bnd_inv h
    refine cx_meet (τ := Vector Bool 10000) (fun t => [(2, (.ptr S.length 0 0 [])), (10, (.ptr S.length 2 0 []))]) (fun t => ([⟨(e42 (Vector.replicate 10000 false)), false⟩, ⟨(e52 t3), false⟩, ⟨(e42 t), false⟩] :: S)) (fun t => t39 = t) (fun _ => rfl) ?_ ?_
    · refine cx_seq ?_
      refine cx_reg rfl ?_
      refine rq (so_move rfl) rfl ?_
      refine rx_nil ?_
      refine kseq ?_
      refine cx_block ?_
      obtain ⟨z48, h49, h40⟩ := bnd_inv h40
      refine cx_loop _ (fun s => [(2, (.ptr S.length 0 0 [])), (3, (.ptr S.length 1 0 [])), (10, (.ptr S.length 2 0 [])), (11, (intTV s.1)), (46, (intTV s.2.1))]) (fun s => ([⟨(e42 (Vector.replicate 10000 false)), false⟩, ⟨(e52 t3), false⟩, ⟨(e42 s.2.2), false⟩] :: S)) h49 (fun _ => rfl) (wxs (subc (k := 2) rfl (subc (k := 3) rfl (subc (k := 10) rfl (subc (k := 11) rfl (subc (k := 46) rfl sub0)))))) ?_
      rintro ⟨p42, p43, p44⟩ y45 h46 h47
      try dsimp only at h46 ⊢
      unfold B25_16 at h46
      refine cx_seq ?_
      refine cx_reg rfl ?_
      refine rq (so_bin rfl rfl rfl rfl) rfl ?_
      refine rx_nil ?_
      refine kseq ?_
      refine cx_seq ?_
      refine cx_cond rfl rfl (fun b50 => ?_) (fun b50 => ?_)
      · replace h46 := ite_t h46 b50
        refine cx_skip ?_
        refine kseq ?_
        refine cx_seq ?_
        refine cx_block ?_
        refine cx_seq ?_
        refine cx_reg rfl ?_
        refine rq (so_move rfl) rfl ?_
        refine rq (so_assign rfl) rfl ?_
        refine rx_nil ?_
        refine kseq ?_
        refine cx_seq ?_
        refine cx_reg rfl ?_
        refine rq (so_move rfl) rfl ?_
        refine rq (so_move rfl) rfl ?_
        obtain ⟨w51, c52, h46⟩ := bnd_inv h46
        refine rq (so_ixP rfl rfl ar_52 (live_of (lk_own rfl rfl) rfl) (idx_bnd c52 (by simp))) rfl ?_
        refine rq (so_load rfl (lk_own rfl rfl) rfl (gpa (map_at (idx_some c52).2.1) gp0) (fo_3 rfl)) rfl ?_
        refine rq (so_bin rfl rfl rfl rfl) rfl ?_
        refine rq (so_assign rfl) rfl ?_
        refine rx_nil ?_
        refine kseq ?_
        refine cx_reg rfl ?_
        refine rq (so_move rfl) rfl ?_
        refine rq (so_move rfl) rfl ?_
        refine rq (so_bin rfl rfl rfl rfl) rfl ?_
        obtain ⟨w53, c54, h46⟩ := bnd_inv h46
        refine rq (so_ixP rfl rfl ar_42 (live_of (lk_own rfl rfl) rfl) (idx_bnd c54 (by simp))) rfl ?_
        refine rs (so_store rfl rfl (lk_own rfl rfl) rfl rfl (gpa (map_at (idx_some c54).2.1) gp0) rfl (fo_4 rfl) (fo_4 rfl) (spY (x' := (decide ((IntKind.wrap .i64 (p42 + w51)) > 0))) (idx_some c54).2.1 sp0 rfl) (up_own rfl (.succ (.succ .zero)))) (Nat.le_refl _) ?_
        refine rx_nil ?_
        refine kb_n ?_
        refine kseq ?_
        refine cx_reg rfl ?_
        refine rq (so_bin rfl rfl rfl rfl) rfl ?_
        refine rq (so_move rfl) rfl ?_
        refine rx_nil ?_
        have e_ := some_inj h46; subst e_
        exact lnext rfl (wxs (subc (k := 2) rfl (subc (k := 3) rfl (subc (k := 10) rfl (subc (k := 11) rfl (subc (k := 46) rfl sub0))))))
      · replace h46 := ite_f h46 b50
        refine cx_exit ?_
        refine ks_x ?_
        have e_ := some_inj h46; subst e_
        have e_ := h47 _ rfl; subst e_
        refine ldone rfl ?_
        refine kb_e ?_
        have e_ := some_inj h40; subst e_
        exact jk_n p44 rfl (wxs (subc (k := 2) rfl (subc (k := 10) rfl sub0)))
    · intro t41 ht
      rw [ht] at h
      try dsimp only at h ⊢
      refine cx_seq ?_
      refine cx_reg rfl ?_
      refine rq (so_load rfl (lk_own rfl rfl) rfl gp0 fo_42) rfl ?_
      refine rs (so_store0 rfl rfl (lk_own rfl rfl) rfl rfl gp0 rfl rfl fo_42 fo_42 sp0 (up_own rfl .zero)) (Nat.le_refl _) ?_
      refine rx_nil ?_
      refine kseq ?_
      refine cx_ret ?_
      have e_ := some_inj h; subst e_
      refine qx_ret (.inr rfl) [] (.cell rfl (lk_own rfl rfl) rfl gp0 fo_42 .nil) (ret0s (solc rfl sol0)) cor
/-- flagstone.traffic.Union$1 -/
noncomputable def F27 (x0 : Int) (x1 : Vector Bool 10000) : Option (Bool) :=
  bnd (idx x1.toList x0) fun w1 => some w1
theorem C27 {x0 : Int} {x1 : Vector Bool 10000} {r : Bool} (h : F27 x0 x1 = some r) {S : Stk} {L0 K0 : Nat} (hL : LowIn S [(L0, K0, ⟨(e42 x1), false⟩)]) {B : Nat} (hB : B ≤ S.length) : Con Proofs.Try.prog full 27 [(intTV x0), (.ptr L0 K0 0 [])] S B (boolTV r) [] (lows S [(L0, K0, ⟨(e42 x1), false⟩)]) := by
  refine con_of' (n := 7) (rs := [.tmp 3]) (A := [(0, (intTV x0)), (1, (.ptr L0 K0 0 []))]) Proofs.Try.func27 rfl rfl rfl rfl (by omega) rfl ?_
  refine cx_lows hL ?_
  unfold F27 at h
  refine cx_seq ?_
  refine cx_reg rfl ?_
  refine rq (so_assign rfl) rfl ?_
  refine rx_nil ?_
  refine kseq ?_
  refine cx_seq ?_
  refine cx_reg rfl ?_
  refine rq (so_move rfl) rfl ?_
  obtain ⟨w1, c2, h⟩ := bnd_inv h
  refine rq (so_ixP rfl rfl ar_42 (live_of (lk_lows (i := 0) (hL.ok.keys (cs := [(L0, K0, ⟨(e42 x1), false⟩)]) rfl) rfl) rfl) (idx_bnd c2 (by simp))) rfl ?_
  refine rq (so_load rfl (lk_lows (i := 0) (hL.ok.keys (cs := [(L0, K0, ⟨(e42 x1), false⟩)]) rfl) rfl) rfl (gpa (map_at (idx_some c2).2.1) gp0) (fo_4 rfl)) rfl ?_
  refine rq (so_assign rfl) rfl ?_
  refine rx_nil ?_
  refine kseq ?_
  refine cx_ret ?_
  have e_ := some_inj h; subst e_
  refine qx_ret (.inr rfl) [] (.tmp rfl .nil) (ret0s (solc rfl sol0)) cor
noncomputable def B26_2 (x0 : Vector Bool 10000) (p4 : Int) (p5 : List S37) : Option (Stp (Int × (List S37)) (List S37)) :=
  if (decide (p4 < 10000)) then (bnd (α := List S37) (bnd (F27 p4 x0) fun r15 => if (!r15) then (some p5) else (bnd (α := Bool) (if (decide ((p5.length : Int) > 0)) then (bnd (idx p5 (IntKind.wrap .i64 ((p5.length : Int) - 1))) fun w22 => some (w22.To == p4)) else (some false)) fun t20 => if t20 then (bnd (idx p5 (IntKind.wrap .i64 ((p5.length : Int) - 1))) fun w25 => some (p5.set ((IntKind.wrap .i64 ((p5.length : Int) - 1)).toNat) ({ w25 with To := (IntKind.wrap .i64 (p4 + 1)) }))) else (chk (¬ (2 * (p5.length + [(⟨p4, (IntKind.wrap .i64 (p4 + 1))⟩ : S37)].length) + 400) * 16 > 281474976710656) <| some (p5 ++ [(⟨p4, (IntKind.wrap .i64 (p4 + 1))⟩ : S37)])))) fun t14 => some (.next ((IntKind.wrap .i64 (p4 + 1)), t14))) else (some (.done p5))
/-- flagstone.traffic.spans -/
noncomputable def F26 (x0 : Vector Bool 10000) : Option (List S37) :=
  bnd (α := List S37) (bnd (loopO (σ := Int × (List S37)) (ρ := List S37) (fun s => B26_2 x0 s.1 s.2) (0, [])) fun z9 => some z9) fun t3 => some t3
theorem C26 {x0 : Vector Bool 10000} {r : List S37} (h : F26 x0 = some r) {S : Stk} {L0 K0 : Nat} (hL : LowIn S [(L0, K0, ⟨(e42 x0), false⟩)]) {B : Nat} (hB : B ≤ S.length) : Con Proofs.Try.prog full 26 [(.fn 27 [] [(.ptr L0 K0 0 [])])] S B (.sl false 37 (r.map e37)) [] (lows S [(L0, K0, ⟨(e42 x0), false⟩)]) := by
  refine con_of' (n := 43) (rs := [.tmp 2]) (A := [(0, (.fn 27 [] [(.ptr L0 K0 0 [])]))]) Proofs.Try.func26 rfl rfl rfl rfl (by omega) rfl ?_
  refine cx_lows hL ?_
  unfold F26 at h
  refine cx_seq ?_
  refine cx_reg rfl ?_
  refine rq (so_assign rfl) rfl ?_
  refine rx_nil ?_
  refine kseq ?_
  refine cx_seq ?_
  refine cx_reg rfl ?_
  refine rq (so_assign rfl) rfl ?_
  refine rx_nil ?_
  refine kseq ?_
  obtain ⟨t1, h2, h⟩ := bnd_inv h
  refine cx_meet (τ := List S37) (fun t => [(3, (.ref S.length 0 t.length 0 t.length false 37))]) (fun t => ([⟨(.row 37 (t.map e37)), false⟩] :: (lows S [(L0, K0, ⟨(e42 x0), false⟩)]))) (fun t => t1 = t) (fun _ => by simp [length_lows]) ?_ ?_
  · refine cx_seq ?_
    refine cx_reg rfl ?_
    refine rq (so_move rfl) rfl ?_
    refine rx_nil ?_
    refine kseq ?_
    refine cx_block ?_
    obtain ⟨z9, h10, h2⟩ := bnd_inv h2
    refine cx_loop _ (fun s => [(0, (.fn 27 [] [(.ptr L0 K0 0 [])])), (3, (.ref S.length 0 s.2.length 0 s.2.length false 37)), (6, (intTV s.1))]) (fun s => ([⟨(.row 37 (s.2.map e37)), false⟩] :: (lows S [(L0, K0, ⟨(e42 x0), false⟩)]))) h10 (fun _ => by simp [length_lows]) (WX.trans (wxgrow (i := 3) 37 rfl (length_lows _ _) rfl .nil) (wxs (subc (k := 0) rfl (subc (k := 3) rfl (subc (k := 6) rfl sub0))))) ?_
    rintro ⟨p4, p5⟩ y6 h7 h8
    try dsimp only at h7 ⊢
    unfold B26_2 at h7
    refine cx_seq ?_
    refine cx_reg rfl ?_
    refine rq (so_bin rfl rfl rfl rfl) rfl ?_
    refine rx_nil ?_
    refine kseq ?_
    refine cx_seq ?_
    refine cx_cond rfl rfl (fun b11 => ?_) (fun b11 => ?_)
    · replace h7 := ite_t h7 b11
      refine cx_skip ?_
      refine kseq ?_
      obtain ⟨t12, h13, h7⟩ := bnd_inv h7
      refine cx_meet (τ := List S37) (fun t => [(0, (.fn 27 [] [(.ptr L0 K0 0 [])])), (3, (.ref S.length 0 t.length 0 t.length false 37)), (6, (intTV p4))]) (fun t => ([⟨(.row 37 (t.map e37)), false⟩] :: (lows S [(L0, K0, ⟨(e42 x0), false⟩)]))) (fun t => t12 = t) (fun _ => by simp [length_lows]) ?_ ?_
      · refine cx_block ?_
        refine cx_seq ?_
        refine cx_reg rfl ?_
        refine rq (so_move rfl) rfl ?_
        refine rq (so_assign rfl) rfl ?_
        refine rx_nil ?_
        refine kseq ?_
        refine cx_seq ?_
        refine cx_seq ?_
        refine cx_reg rfl ?_
        refine rq (so_move rfl) rfl ?_
        refine rq (so_move rfl) rfl ?_
        obtain ⟨r15, c16, h13⟩ := bnd_inv h13
        refine rc rfl rfl (con_lows (C27 c16 (lic (lk_lows (i := 0) (hL.ok.keys (cs := [(L0, K0, ⟨(e42 x0), false⟩)]) rfl) rfl) nq0 li0) (by have := hB; first | omega | (simp only [length_lows, List.length_cons]; omega))) (.cons .nil (up_lows (i := 0) (hL.ok.keys (cs := [(L0, K0, ⟨(e42 x0), false⟩)]) rfl) rfl .zero))) (fun _ => Nat.le_refl _) rfl (by simp [length_lows]) rfl ?_
        refine rq (so_un rfl rfl rfl) rfl ?_
        refine rx_nil ?_
        refine kseq ?_
        refine cx_cond rfl rfl (fun b17 => ?_) (fun b17 => ?_)
        · replace h13 := ite_t h13 b17
          refine cx_exit ?_
          refine ks_x ?_
          refine kb_e ?_
          have e_ := some_inj h13; subst e_
          exact jk_n p5 rfl (wxs (subc (k := 0) rfl (subc (k := 3) rfl (subc (k := 6) rfl sub0))))
        · replace h13 := ite_f h13 b17
          refine cx_skip ?_
          refine kseq ?_
          refine cx_seq ?_
          refine cx_reg rfl ?_
          refine rq (so_move rfl) rfl ?_
          refine rq (so_lenR rfl (live_of (lk_own (length_lows _ _) rfl) (by simp [vers])) k_24) rfl ?_
          refine rq (so_assign rfl) rfl ?_
          refine rx_nil ?_
          refine kseq ?_
          obtain ⟨t18, h19, h13⟩ := bnd_inv h13
          refine cx_meet (τ := Bool) (fun t => [(0, (.fn 27 [] [(.ptr L0 K0 0 [])])), (3, (.ref S.length 0 p5.length 0 p5.length false 37)), (4, (intTV p4)), (5, (intTV (p5.length : Int))), (6, (intTV p4)), (26, (boolTV t))]) (fun t => ([⟨(.row 37 (p5.map e37)), false⟩] :: (lows S [(L0, K0, ⟨(e42 x0), false⟩)]))) (fun t => t18 = t) (fun _ => by simp [length_lows]) ?_ ?_
          · refine cx_reg rfl ?_
            refine rq (so_move rfl) rfl ?_
            refine rq (so_bin rfl rfl rfl rfl) rfl ?_
            refine rq (so_move rfl) rfl ?_
            rcases Bool.eq_false_or_eq_true (decide ((p5.length : Int) > 0)) with b21 | b21
            · replace h19 := ite_t h19 b21
              refine gy rfl rfl b21 ?_
              refine rq (so_move rfl) rfl ?_
              refine gy rfl rfl b21 ?_
              refine rq (so_move rfl) rfl ?_
              refine gy rfl rfl b21 ?_
              refine rq (so_bin rfl rfl rfl rfl) rfl ?_
              obtain ⟨w22, c23, h19⟩ := bnd_inv h19
              refine gy rfl rfl b21 ?_
              refine rq (so_ixR0 rfl rfl sl_24 (live_of (lk_own (length_lows _ _) rfl) (by simp [vers])) (idx_bnd c23 (by first | rfl | simp))) rfl ?_
              refine gy rfl rfl b21 ?_
              refine rq (so_faddr rfl fok_37_1 (live_of (lk_own (length_lows _ _) rfl) (by simp [vers]))) rfl ?_
              refine gy rfl rfl b21 ?_
              refine rq (so_load rfl (lk_own (length_lows _ _) rfl) (by simp [vers]) (gpr (map_at (idx_some c23).2.1) (gpf rfl gp0)) (fo_3 rfl)) rfl ?_
              refine gy rfl rfl b21 ?_
              refine rq (so_move rfl) rfl ?_
              refine gy rfl rfl b21 ?_
              refine rq (so_bin rfl rfl rfl rfl) rfl ?_
              refine rq (so_pick_t rfl b21 rfl) rfl ?_
              refine rx_nil ?_
              have e_ := some_inj h19; subst e_
              exact jk_n (w22.To == p4) rfl (wxs (subc (k := 0) rfl (subc (k := 3) rfl (subc (k := 4) rfl (subc (k := 5) rfl (subc (k := 6) rfl (subc (k := 26) rfl sub0)))))))
            · replace h19 := ite_f h19 b21
              refine gn rfl rfl b21 (dnone rfl) ?_
              refine gn rfl rfl b21 (dnone rfl) ?_
              refine gn rfl rfl b21 (dnone rfl) ?_
              refine gn rfl rfl b21 (dnone rfl) ?_
              refine gn rfl rfl b21 (dnone rfl) ?_
              refine gn rfl rfl b21 (dnone rfl) ?_
              refine gn rfl rfl b21 (dnone rfl) ?_
              refine gn rfl rfl b21 (dnone rfl) ?_
              refine rq (so_pick_f rfl b21 rfl) rfl ?_
              refine rx_nil ?_
              have e_ := some_inj h19; subst e_
              exact jk_n false rfl (wxs (subc (k := 0) rfl (subc (k := 3) rfl (subc (k := 4) rfl (subc (k := 5) rfl (subc (k := 6) rfl (subc (k := 26) rfl sub0)))))))
          · intro t20 ht
            rw [ht] at h13
            try dsimp only at h13 ⊢
            refine cx_cond rfl rfl (fun b24 => ?_) (fun b24 => ?_)
            · replace h13 := ite_t h13 b24
              refine cx_reg rfl ?_
              refine rq (so_move rfl) rfl ?_
              refine rq (so_move rfl) rfl ?_
              refine rq (so_bin rfl rfl rfl rfl) rfl ?_
              refine rq (so_move rfl) rfl ?_
              refine rq (so_bin rfl rfl rfl rfl) rfl ?_
              obtain ⟨w25, c26, h13⟩ := bnd_inv h13
              refine rq (so_ixR0 rfl rfl sl_24 (live_of (lk_own (length_lows _ _) rfl) (by simp [vers])) (idx_bnd c26 (by first | rfl | simp))) rfl ?_
              refine rq (so_faddr rfl fok_37_1 (live_of (lk_own (length_lows _ _) rfl) (by simp [vers]))) rfl ?_
              refine rs (so_store rfl rfl (lk_own (length_lows _ _) rfl) (by simp [vers]) rfl (gpr (map_at (idx_some c26).2.1) (gpf rfl gp0)) rfl (fo_3 rfl) (fo_3 rfl) (spM (x' := { w25 with To := (IntKind.wrap .i64 (p4 + 1)) }) (idx_some c26).2.1 (spf rfl sp0 (.succ .zero)) rfl) (up_own (length_lows _ _) .zero)) (by have := hB; omega) ?_
              refine rx_nil ?_
              refine kb_n ?_
              have e_ := some_inj h13; subst e_
              exact jk_n (p5.set ((IntKind.wrap .i64 ((p5.length : Int) - 1)).toNat) ({ w25 with To := (IntKind.wrap .i64 (p4 + 1)) })) rfl (WX.trans (wxeq (i := 3) (v' := (.ref S.length 0 ((p5.set ((IntKind.wrap .i64 ((p5.length : Int) - 1)).toNat) ({ w25 with To := (IntKind.wrap .i64 (p4 + 1)) })).length) 0 ((p5.set ((IntKind.wrap .i64 ((p5.length : Int) - 1)).toNat) ({ w25 with To := (IntKind.wrap .i64 (p4 + 1)) })).length) false 37)) rfl (by first | rfl | simp)) (wxs (subc (k := 0) rfl (subc (k := 3) rfl (subc (k := 6) rfl sub0)))))
            · replace h13 := ite_f h13 b24
              refine cx_reg rfl ?_
              refine rq (so_move rfl) rfl ?_
              refine rq (so_move rfl) rfl ?_
              refine rq (so_move rfl) rfl ?_
              refine rq (so_bin rfl rfl rfl rfl) rfl ?_
              refine rq (so_build rfl zero_37 sz_37 (.cons ft_37_0 (fo_3 rfl) .zero (.cons ft_37_1 (fo_3 rfl) (.succ .zero) .nil))) rfl ?_
              refine rq (so_to (so_bslice (l := [(e37 (⟨p4, (IntKind.wrap .i64 (p4 + 1))⟩ : S37))]) (ks := []) rfl sl_24 zero_37 (snapL_solid (solc (so_e37 (⟨p4, (IntKind.wrap .i64 (p4 + 1))⟩ : S37)) sol0)) rfl rfl (by decide) (fl_memc fo_37 (so_e37 (⟨p4, (IntKind.wrap .i64 (p4 + 1))⟩ : S37)) fl_mem0) rfl) (rfl : _ = TV.sl true 37 (List.map e37 [(⟨p4, (IntKind.wrap .i64 (p4 + 1))⟩ : S37)]))) rfl ?_
              obtain ⟨c27, h13⟩ := chk_inv h13
              refine rw' (so_appR (g := e37) (c := p5) (m := [(⟨p4, (IntKind.wrap .i64 (p4 + 1))⟩ : S37)]) rfl rfl (by rw [k_24]; decide) sl_24 (lk_own (length_lows _ _) rfl) (by simp) (by simp) (addends_of elems_sl) (so_e37) c27 (up_own (length_lows _ _) .zero)) (by have := hB; omega) rfl ?_
              refine rq (so_assign rfl) rfl ?_
              refine rx_nil ?_
              refine kb_n ?_
              have e_ := some_inj h13; subst e_
              exact jk_n (p5 ++ [(⟨p4, (IntKind.wrap .i64 (p4 + 1))⟩ : S37)]) rfl (wxs (subc (k := 0) rfl (subc (k := 3) rfl (subc (k := 6) rfl sub0))))
      · intro t14 ht
        rw [ht] at h7
        try dsimp only at h7 ⊢
        refine cx_reg rfl ?_
        refine rq (so_bin rfl rfl rfl rfl) rfl ?_
        refine rq (so_move rfl) rfl ?_
        refine rx_nil ?_
        have e_ := some_inj h7; subst e_
        exact lnext rfl (wxs (subc (k := 0) rfl (subc (k := 3) rfl (subc (k := 6) rfl sub0))))
    · replace h7 := ite_f h7 b11
      refine cx_exit ?_
      refine ks_x ?_
      have e_ := some_inj h7; subst e_
      have e_ := h8 _ rfl; subst e_
      refine ldone rfl ?_
      refine kb_e ?_
      have e_ := some_inj h2; subst e_
      exact jk_n p5 rfl (wxs (subc (k := 3) rfl sub0))
  · intro t3 ht
    rw [ht] at h
    try dsimp only at h ⊢
    refine cx_seq ?_
    refine cx_reg rfl ?_
    refine rq (so_move rfl) rfl ?_
    refine rq (so_assign rfl) rfl ?_
    refine rx_nil ?_
    refine kseq ?_
    refine cx_ret ?_
    have e_ := some_inj h; subst e_
    refine qx_ret (.inr rfl) [] (.tmp rfl .nil) (ret0 (snapL_of (sulc (su_ref (elems_all (lk_own (length_lows _ _) rfl) (by simp) (by simp))) sul0) rfl) (mk_own (length_lows _ _) rfl .zero mk0) (solc rfl sol0)) cor
/-- flagstone.traffic.Union -/
noncomputable def F7 (x0 : List S37) (x1 : List S37) : Option (List S37) :=
  bnd (F25 [x0, x1]) fun r1 => bnd (F26 r1) fun r3 => some r3
theorem C7 {x0 : List S37} {x1 : List S37} {r : List S37} (h : F7 x0 x1 = some r) (S : Stk) : Con Proofs.Try.prog full 7 [(.sl false 37 (x0.map e37)), (.sl false 37 (x1.map e37))] S S.length (.sl false 37 (r.map e37)) [] S := by
  have hB : S.length ≤ S.length := Nat.le_refl _
  refine con_of' (n := 12) (rs := [.tmp 4]) (A := [(0, (.sl false 37 (x0.map e37))), (1, (.sl false 37 (x1.map e37)))]) Proofs.Try.func7 rfl rfl rfl rfl hB rfl ?_
  unfold F7 at h
  refine cx_seq ?_
  refine cx_reg rfl ?_
  refine rq (so_assign rfl) rfl ?_
  refine rx_nil ?_
  refine kseq ?_
  refine cx_seq ?_
  refine cx_reg rfl ?_
  refine rq (so_move rfl) rfl ?_
  refine rq (so_move rfl) rfl ?_
  refine rq (so_to (so_bslice (l := [(.sl false 37 (x0.map e37)), (.sl false 37 (x1.map e37))]) (ks := []) rfl sl_51 zero_24 (snapL_solid (solc rfl (solc rfl sol0))) rfl rfl (by decide) (fl_memc (fo_24 rfl) rfl (fl_memc (fo_24 rfl) rfl fl_mem0)) rfl) (rfl : _ = TV.sl true 24 (List.map e24 [x0, x1]))) rfl ?_
  obtain ⟨r1, c2, h⟩ := bnd_inv h
  refine rcp rfl rfl (con_cv (.cons (co1 rfl cvx) .nil) (C25 c2 _)) rfl ?_
  refine rq (so_alloc (k := 0) zero_42 rfl rfl .nil) rfl ?_
  refine rs (so_store0 rfl rfl (lk_own rfl rfl) rfl rfl gp0 rfl rfl fo_42 fo_42 sp0 (up_own rfl .zero)) (Nat.le_refl _) ?_
  refine rx_nil ?_
  refine kseq ?_
  refine cx_seq ?_
  refine cx_reg rfl ?_
  refine rq (so_fn rfl rfl rfl) rfl ?_
  obtain ⟨r3, c4, h⟩ := bnd_inv h
  refine rc rfl rfl (con_lows (C26 c4 (lic (lk_own rfl rfl) nq0 li0) (by have := hB; first | omega | (simp only [length_lows, List.length_cons]; omega))) (.cons .nil (up_own rfl .zero))) (fun _ => Nat.le_refl _) rfl (by simp [length_lows]) rfl ?_
  refine rq (so_assign rfl) rfl ?_
  refine rx_nil ?_
  refine kseq ?_
  refine cx_ret ?_
  have e_ := some_inj h; subst e_
  refine qx_ret (.inr rfl) [] (.tmp rfl .nil) (ret0s (solc rfl sol0)) cor
/-- flagstone.traffic.Normal -/
noncomputable def F12 (x0 : List S37) : Option (List S37) :=
  bnd (F7 x0 []) fun r1 => some r1
theorem C12 {x0 : List S37} {r : List S37} (h : F12 x0 = some r) (S : Stk) : Con Proofs.Try.prog full 12 [(.sl false 37 (x0.map e37))] S S.length (.sl false 37 (r.map e37)) [] S := by
  have hB : S.length ≤ S.length := Nat.le_refl _
  refine con_of' (n := 5) (rs := [.tmp 2]) (A := [(0, (.sl false 37 (x0.map e37)))]) Proofs.Try.func12 rfl rfl rfl rfl hB rfl ?_
  unfold F12 at h
  refine cx_seq ?_
  refine cx_reg rfl ?_
  refine rq (so_assign rfl) rfl ?_
  refine rx_nil ?_
  refine kseq ?_
  refine cx_seq ?_
  refine cx_reg rfl ?_
  refine rq (so_move rfl) rfl ?_
  obtain ⟨r1, c2, h⟩ := bnd_inv h
  refine rcp rfl rfl (con_cv (.cons cor (.cons (co1 rfl cvn) .nil)) (C7 c2 _)) rfl ?_
  refine rq (so_assign rfl) rfl ?_
  refine rx_nil ?_
  refine kseq ?_
  refine cx_ret ?_
  have e_ := some_inj h; subst e_
  refine qx_ret (.inr rfl) [] (.tmp rfl .nil) (ret0s (solc rfl sol0)) cor
noncomputable def B10_2 (r4 : Vector Bool 10000) (p6 : Int) (p7 : Int) : Option (Stp (Int × Int) (Int)) :=
  if (decide (p7 < 10000)) then (bnd (α := Int) (bnd (idx r4.toList p7) fun w17 => if w17 then (some (IntKind.wrap .i64 (p6 + 1))) else (some p6)) fun t16 => some (.next (t16, (IntKind.wrap .i64 (p7 + 1))))) else (some (.done p6))
/-- flagstone.traffic.Size -/
noncomputable def F10 (x0 : List S37) : Option (Int) :=
  bnd (α := Int) (bnd (F25 [x0]) fun r4 => bnd (loopO (σ := Int × Int) (ρ := Int) (fun s => B10_2 r4 s.1 s.2) (0, 0)) fun z11 => some z11) fun t3 => some t3
theorem C10 {x0 : List S37} {r : Int} (h : F10 x0 = some r) (S : Stk) : Con Proofs.Try.prog full 10 [(.sl false 37 (x0.map e37))] S S.length (intTV r) [] S := by
  have hB : S.length ≤ S.length := Nat.le_refl _
  refine con_of' (n := 17) (rs := [.tmp 2]) (A := [(0, (.sl false 37 (x0.map e37)))]) Proofs.Try.func10 rfl rfl rfl rfl hB rfl ?_
  unfold F10 at h
  refine cx_seq ?_
  refine cx_reg rfl ?_
  refine rq (so_assign rfl) rfl ?_
  refine rx_nil ?_
  refine kseq ?_
  refine cx_seq ?_
  refine cx_reg rfl ?_
  refine rq (so_assign rfl) rfl ?_
  refine rx_nil ?_
  refine kseq ?_
  obtain ⟨t1, h2, h⟩ := bnd_inv h
  refine cx_meet (τ := Int) (fun t => [(3, (intTV t))]) (fun t => ([] :: S)) (fun t => t1 = t) (fun _ => rfl) ?_ ?_
  · refine cx_seq ?_
    refine cx_reg rfl ?_
    refine rq (so_move rfl) rfl ?_
    refine rq (so_to (so_bslice (l := [(.sl false 37 (x0.map e37))]) (ks := []) rfl sl_51 zero_24 (snapL_solid (solc rfl sol0)) rfl rfl (by decide) (fl_memc (fo_24 rfl) rfl fl_mem0) rfl) (rfl : _ = TV.sl true 24 (List.map e24 [x0]))) rfl ?_
    obtain ⟨r4, c5, h2⟩ := bnd_inv h2
    refine rcp rfl rfl (con_cv (.cons (co1 rfl cvx) .nil) (C25 c5 _)) rfl ?_
    refine rq (so_move rfl) rfl ?_
    refine rx_nil ?_
    refine kseq ?_
    refine cx_block ?_
    obtain ⟨z11, h12, h2⟩ := bnd_inv h2
    refine cx_loop _ (fun s => [(3, (intTV s.1)), (8, (e42 r4)), (9, (intTV s.2))]) (fun s => ([] :: S)) h12 (fun _ => rfl) (wxs (subc (k := 3) rfl (subc (k := 8) rfl (subc (k := 9) rfl sub0)))) ?_
    rintro ⟨p6, p7⟩ y8 h9 h10
    try dsimp only at h9 ⊢
    unfold B10_2 at h9
    refine cx_seq ?_
    refine cx_reg rfl ?_
    refine rq (so_bin rfl rfl rfl rfl) rfl ?_
    refine rx_nil ?_
    refine kseq ?_
    refine cx_seq ?_
    refine cx_cond rfl rfl (fun b13 => ?_) (fun b13 => ?_)
    · replace h9 := ite_t h9 b13
      refine cx_skip ?_
      refine kseq ?_
      obtain ⟨t14, h15, h9⟩ := bnd_inv h9
      refine cx_meet (τ := Int) (fun t => [(3, (intTV t)), (8, (e42 r4)), (9, (intTV p7))]) (fun t => ([] :: S)) (fun t => t14 = t) (fun _ => rfl) ?_ ?_
      · refine cx_block ?_
        refine cx_seq ?_
        refine cx_reg rfl ?_
        obtain ⟨w17, c18, h15⟩ := bnd_inv h15
        refine rq (so_ixA rfl rfl ar_42 (by simp) (idx_map c18) (fo_4 rfl)) rfl ?_
        refine rq (so_assign rfl) rfl ?_
        refine rx_nil ?_
        refine kseq ?_
        refine cx_seq ?_
        refine cx_reg rfl ?_
        refine rq (so_move rfl) rfl ?_
        refine rx_nil ?_
        refine kseq ?_
        refine cx_cond rfl rfl (fun b19 => ?_) (fun b19 => ?_)
        · replace h15 := ite_t h15 b19
          refine cx_reg rfl ?_
          refine rq (so_move rfl) rfl ?_
          refine rq (so_bin rfl rfl rfl rfl) rfl ?_
          refine rq (so_assign rfl) rfl ?_
          refine rx_nil ?_
          refine kb_n ?_
          have e_ := some_inj h15; subst e_
          exact jk_n (IntKind.wrap .i64 (p6 + 1)) rfl (wxs (subc (k := 3) rfl (subc (k := 8) rfl (subc (k := 9) rfl sub0))))
        · replace h15 := ite_f h15 b19
          refine cx_skip ?_
          refine kb_n ?_
          have e_ := some_inj h15; subst e_
          exact jk_n p6 rfl (wxs (subc (k := 3) rfl (subc (k := 8) rfl (subc (k := 9) rfl sub0))))
      · intro t16 ht
        rw [ht] at h9
        try dsimp only at h9 ⊢
        refine cx_reg rfl ?_
        refine rq (so_bin rfl rfl rfl rfl) rfl ?_
        refine rq (so_move rfl) rfl ?_
        refine rx_nil ?_
        have e_ := some_inj h9; subst e_
        exact lnext rfl (wxs (subc (k := 3) rfl (subc (k := 8) rfl (subc (k := 9) rfl sub0))))
    · replace h9 := ite_f h9 b13
      refine cx_exit ?_
      refine ks_x ?_
      have e_ := some_inj h9; subst e_
      have e_ := h10 _ rfl; subst e_
      refine ldone rfl ?_
      refine kb_e ?_
      have e_ := some_inj h2; subst e_
      exact jk_n p6 rfl (wxs (subc (k := 3) rfl sub0))
  · intro t3 ht
    rw [ht] at h
    try dsimp only at h ⊢
    refine cx_seq ?_
    refine cx_reg rfl ?_
    refine rq (so_move rfl) rfl ?_
    refine rq (so_assign rfl) rfl ?_
    refine rx_nil ?_
    refine kseq ?_
    refine cx_ret ?_
    have e_ := some_inj h; subst e_
    refine qx_ret (.inr rfl) [] (.tmp rfl .nil) (ret0s (solc rfl sol0)) cor
/-- flagstone.flagstonelaw14.awake -/
noncomputable def F5 : Option (Bool) :=
  bnd (F12 [(⟨5, 9⟩ : S37), (⟨0, 5⟩ : S37), (⟨7, 7⟩ : S37)]) fun r1 => bnd (α := Bool) (if ((r1.length : Int) == 1) then (bnd (idx r1 0) fun w7 => if ((w7.From == (⟨0, 9⟩ : S37).From) && ((w7.To == (⟨0, 9⟩ : S37).To) && true)) then (bnd (F10 r1) fun r10 => some (r10 == 9)) else (some false)) else (some false)) fun t5 => some t5
theorem C5 {r : Bool} (h : F5 = some r) (S : Stk) : Con Proofs.Try.prog full 5 [] S S.length (boolTV r) [] S := by
  have hB : S.length ≤ S.length := Nat.le_refl _
  refine con_of' (n := 22) (rs := [.tmp 0]) (A := []) Proofs.Try.func5 rfl rfl rfl rfl hB rfl ?_
  unfold F5 at h
  refine cx_seq ?_
  refine cx_reg rfl ?_
  refine rq (so_assign rfl) rfl ?_
  refine rx_nil ?_
  refine kseq ?_
  refine cx_seq ?_
  refine cx_reg rfl ?_
  refine rq (so_build rfl zero_37 sz_37 (.cons ft_37_0 (fo_3 rfl) .zero (.cons ft_37_1 (fo_3 rfl) (.succ .zero) .nil))) rfl ?_
  refine rq (so_build rfl zero_37 sz_37 (.cons ft_37_0 (fo_3 rfl) .zero (.cons ft_37_1 (fo_3 rfl) (.succ .zero) .nil))) rfl ?_
  refine rq (so_build rfl zero_37 sz_37 (.cons ft_37_0 (fo_3 rfl) .zero (.cons ft_37_1 (fo_3 rfl) (.succ .zero) .nil))) rfl ?_
  refine rq (so_to (so_bslice (l := [(e37 (⟨5, 9⟩ : S37)), (e37 (⟨0, 5⟩ : S37)), (e37 (⟨7, 7⟩ : S37))]) (ks := []) rfl sl_24 zero_37 (snapL_solid (solc (so_e37 (⟨5, 9⟩ : S37)) (solc (so_e37 (⟨0, 5⟩ : S37)) (solc (so_e37 (⟨7, 7⟩ : S37)) sol0)))) rfl rfl (by decide) (fl_memc fo_37 (so_e37 (⟨5, 9⟩ : S37)) (fl_memc fo_37 (so_e37 (⟨0, 5⟩ : S37)) (fl_memc fo_37 (so_e37 (⟨7, 7⟩ : S37)) fl_mem0))) rfl) (rfl : _ = TV.sl true 37 (List.map e37 [(⟨5, 9⟩ : S37), (⟨0, 5⟩ : S37), (⟨7, 7⟩ : S37)]))) rfl ?_
  obtain ⟨r1, c2, h⟩ := bnd_inv h
  refine rcp rfl rfl (con_cv (.cons (co1 rfl cvx) .nil) (C12 c2 _)) rfl ?_
  refine rq (so_assign rfl) rfl ?_
  refine rx_nil ?_
  refine kseq ?_
  obtain ⟨t3, h4, h⟩ := bnd_inv h
  refine cx_meet (τ := Bool) (fun t => [(0, (boolTV t))]) (fun t => ([] :: S)) (fun t => t3 = t) (fun _ => rfl) ?_ ?_
  · refine cx_reg rfl ?_
    refine rq (so_move rfl) rfl ?_
    refine rq (so_lenM rfl k_24) rfl ?_
    refine rq (so_bin rfl rfl rfl rfl) rfl ?_
    refine rq (so_move rfl) rfl ?_
    rcases Bool.eq_false_or_eq_true ((r1.length : Int) == 1) with b6 | b6
    · replace h4 := ite_t h4 b6
      refine gy rfl rfl b6 ?_
      refine rq (so_move rfl) rfl ?_
      obtain ⟨w7, c8, h4⟩ := bnd_inv h4
      refine gy rfl rfl b6 ?_
      refine rq (so_ixM rfl rfl sl_24 c8) rfl ?_
      refine gy rfl rfl b6 ?_
      refine rq (so_loadE rfl fo_37) rfl ?_
      refine gy rfl rfl b6 ?_
      refine rq (so_build rfl zero_37 sz_37 (.cons ft_37_0 (fo_3 rfl) .zero (.cons ft_37_1 (fo_3 rfl) (.succ .zero) .nil))) rfl ?_
      refine gy rfl rfl b6 ?_
      refine rq (aggeq_37_eql (a := w7) (b := (⟨0, 9⟩ : S37)) rfl rfl) rfl ?_
      refine rq (so_pick_t rfl b6 rfl) rfl ?_
      refine rq (so_move rfl) rfl ?_
      rcases Bool.eq_false_or_eq_true ((w7.From == (⟨0, 9⟩ : S37).From) && ((w7.To == (⟨0, 9⟩ : S37).To) && true)) with b9 | b9
      · replace h4 := ite_t h4 b9
        refine gy rfl rfl b9 ?_
        refine rq (so_move rfl) rfl ?_
        obtain ⟨r10, c11, h4⟩ := bnd_inv h4
        refine gy rfl rfl b9 ?_
        refine rcp rfl rfl (C10 c11 _) rfl ?_
        refine gy rfl rfl b9 ?_
        refine rq (so_bin rfl rfl rfl rfl) rfl ?_
        refine rq (so_pick_t rfl b9 rfl) rfl ?_
        refine rq (so_assign rfl) rfl ?_
        refine rx_nil ?_
        have e_ := some_inj h4; subst e_
        exact jk_n (r10 == 9) rfl (wxs (subc (k := 0) rfl sub0))
      · replace h4 := ite_f h4 b9
        refine gn rfl rfl b9 (dnone rfl) ?_
        refine gn rfl rfl b9 (dnone rfl) ?_
        refine gn rfl rfl b9 (dnone rfl) ?_
        refine rq (so_pick_f rfl b9 rfl) rfl ?_
        refine rq (so_assign rfl) rfl ?_
        refine rx_nil ?_
        have e_ := some_inj h4; subst e_
        exact jk_n false rfl (wxs (subc (k := 0) rfl sub0))
    · replace h4 := ite_f h4 b6
      refine gn rfl rfl b6 (dnone rfl) ?_
      refine gn rfl rfl b6 (dnone rfl) ?_
      refine gn rfl rfl b6 (dnone rfl) ?_
      refine gn rfl rfl b6 (dnone rfl) ?_
      refine gn rfl rfl b6 (dnone rfl) ?_
      refine rq (so_pick_f rfl b6 rfl) rfl ?_
      refine rq (so_move rfl) rfl ?_
      refine gn rfl rfl rfl (dnone rfl) ?_
      refine gn rfl rfl rfl (dnone rfl) ?_
      refine gn rfl rfl rfl (dnone rfl) ?_
      refine rq (so_pick_f rfl rfl rfl) rfl ?_
      refine rq (so_assign rfl) rfl ?_
      refine rx_nil ?_
      have e_ := some_inj h4; subst e_
      exact jk_n false rfl (wxs (subc (k := 0) rfl sub0))
  · intro t5 ht
    rw [ht] at h
    try dsimp only at h ⊢
    refine cx_ret ?_
    have e_ := some_inj h; subst e_
    refine qx_ret (.inr rfl) [] (.tmp rfl .nil) (ret0s (solc rfl sol0)) cor
/-- flagstone.flagstonedraw.New -/
noncomputable def F21 (x0 : List UInt8) (x1 : Int) : Option (S50) :=
  bnd (α := List UInt8) (if (decide ((x0.length : Int) > x1)) then (chk (0 ≤ x1 ∧ x1 ≤ (x0.length : Int)) <| some (sub x0 0 ((x1 : Int).toNat))) else (some x0)) fun t3 => some (⟨t3, 0⟩ : S50)
theorem C21 {x0 : List UInt8} {x1 : Int} {r : S50} (h : F21 x0 x1 = some r) (S : Stk) : Con Proofs.Try.prog full 21 [(.sl false 5 (x0.map byteTV)), (intTV x1)] S S.length (.ptr S.length 0 0 []) [⟨(e50 r), false⟩] S := by
  have hB : S.length ≤ S.length := Nat.le_refl _
  refine con_of' (n := 15) (rs := [.tmp 4]) (A := [(0, (.sl false 5 (x0.map byteTV))), (1, (intTV x1))]) Proofs.Try.func21 rfl rfl rfl rfl hB rfl ?_
  unfold F21 at h
  refine cx_seq ?_
  refine cx_reg rfl ?_
  refine rq (so_assign rfl) rfl ?_
  refine rx_nil ?_
  refine kseq ?_
  obtain ⟨t1, h2, h⟩ := bnd_inv h
  refine cx_meet (τ := List UInt8) (fun t => [(0, (.sl false 5 (t.map byteTV)))]) (fun t => ([] :: S)) (fun t => t1 = t) (fun _ => rfl) ?_ ?_
  · refine cx_seq ?_
    refine cx_reg rfl ?_
    refine rq (so_move rfl) rfl ?_
    refine rq (so_lenM rfl k_22) rfl ?_
    refine rq (so_move rfl) rfl ?_
    refine rq (so_bin rfl rfl rfl rfl) rfl ?_
    refine rx_nil ?_
    refine kseq ?_
    refine cx_cond rfl rfl (fun b4 => ?_) (fun b4 => ?_)
    · replace h2 := ite_t h2 b4
      refine cx_reg rfl ?_
      refine rq (so_move rfl) rfl ?_
      refine rq (so_move rfl) rfl ?_
      obtain ⟨c5, h2⟩ := chk_inv h2
      refine rq (so_slM rfl rfl rfl sl_22 (abh c5)) rfl ?_
      refine rq (so_assign rfl) rfl ?_
      refine rx_nil ?_
      have e_ := some_inj h2; subst e_
      exact jk_n (sub x0 0 ((x1 : Int).toNat)) rfl (wxs (subc (k := 0) rfl sub0))
    · replace h2 := ite_f h2 b4
      refine cx_skip ?_
      have e_ := some_inj h2; subst e_
      exact jk_n x0 rfl (wxs (subc (k := 0) rfl sub0))
  · intro t3 ht
    rw [ht] at h
    try dsimp only at h ⊢
    refine cx_seq ?_
    refine cx_reg rfl ?_
    refine rq (so_move rfl) rfl ?_
    refine rq (so_build rfl zero_50 sz_50 (.cons ft_50_0 (fo_22 rfl) .zero .nil)) rfl ?_
    refine rq (so_box (k := 0) rfl rfl rfl rfl rfl .nil) rfl ?_
    refine rq (so_assign rfl) rfl ?_
    refine rx_nil ?_
    refine kseq ?_
    refine cx_ret ?_
    have e_ := some_inj h; subst e_
    refine qx_ret (.inr rfl) [0] (.tmp rfl .nil) (retM (by simp) (rtc (rnkp rfl rfl) rt0) rfl (rbc (rns (so_e50 (⟨t3, 0⟩ : S50))) rb0) rfl rfl) cor
/-- (*flagstone.flagstonedraw.Codes).Left -/
noncomputable def F22 (x0 : S50) : Option (Bool) :=
  some (decide (x0.f_at < (x0.f_list.length : Int)))
theorem C22 {x0 : S50} {r : Bool} (h : F22 x0 = some r) {S : Stk} {L0 K0 : Nat} (hL : LowIn S [(L0, K0, ⟨(e50 x0), false⟩)]) {B : Nat} (hB : B ≤ S.length) : Con Proofs.Try.prog full 22 [(.ptr L0 K0 0 [])] S B (boolTV r) [] (lows S [(L0, K0, ⟨(e50 x0), false⟩)]) := by
  refine con_of' (n := 13) (rs := [.tmp 2]) (A := [(0, (.ptr L0 K0 0 []))]) Proofs.Try.func22 rfl rfl rfl rfl (by omega) rfl ?_
  refine cx_lows hL ?_
  unfold F22 at h
  refine cx_seq ?_
  refine cx_reg rfl ?_
  refine rq (so_assign rfl) rfl ?_
  refine rx_nil ?_
  refine kseq ?_
  refine cx_seq ?_
  refine cx_draw (b := #[0, 1, 3, 7, 0, 16, 48, 112, 240, 511, 1023]) rfl (by kernel_rfl) ?_
  refine dz (so_move rfl) rfl rfl ?_
  refine dz (so_nck rfl (live_of (lk_lows (i := 0) (hL.ok.keys (cs := [(L0, K0, ⟨(e50 x0), false⟩)]) rfl) rfl) rfl)) rfl rfl ?_
  refine dz (so_faddr rfl fok_50_1 (live_of (lk_lows (i := 0) (hL.ok.keys (cs := [(L0, K0, ⟨(e50 x0), false⟩)]) rfl) rfl) rfl)) rfl rfl ?_
  refine dq (so_load rfl (lk_lows (i := 0) (hL.ok.keys (cs := [(L0, K0, ⟨(e50 x0), false⟩)]) rfl) rfl) rfl (gpf rfl gp0) (fo_3 rfl)) rfl rfl rfl ?_
  refine dz (so_move rfl) rfl rfl ?_
  refine dz (so_nck rfl (live_of (lk_lows (i := 0) (hL.ok.keys (cs := [(L0, K0, ⟨(e50 x0), false⟩)]) rfl) rfl) rfl)) rfl rfl ?_
  refine dz (so_faddr rfl fok_50_0 (live_of (lk_lows (i := 0) (hL.ok.keys (cs := [(L0, K0, ⟨(e50 x0), false⟩)]) rfl) rfl) rfl)) rfl rfl ?_
  refine dq (so_load rfl (lk_lows (i := 0) (hL.ok.keys (cs := [(L0, K0, ⟨(e50 x0), false⟩)]) rfl) rfl) rfl (gpf rfl gp0) (fo_22 rfl)) rfl rfl rfl ?_
  refine dq (so_lenM rfl k_22) rfl rfl rfl ?_
  refine dz (so_bin rfl rfl rfl rfl) rfl rfl ?_
  refine dz (so_assign rfl) rfl rfl ?_
  refine dx_nil ?_
  refine kseq ?_
  refine cx_ret ?_
  have e_ := some_inj h; subst e_
  refine qx_ret (.inr rfl) [] (.tmp rfl .nil) (ret0s (solc rfl sol0)) cor
/-- (*flagstone.flagstonedraw.Codes).Next -/
noncomputable def F24 (x0 : Int) (x1 : S50) : Option (Int × S50) :=
  bnd (F22 x1) fun r1 => if (!r1) then (some (0, x1)) else (bnd (idx (({ x1 with f_at := (IntKind.wrap .i64 (x1.f_at + 1)) }).f_list) (IntKind.wrap .i64 (({ x1 with f_at := (IntKind.wrap .i64 (x1.f_at + 1)) }).f_at - 1))) fun w4 => chk (x0 ≠ 0) <| some (((w4.toNat : Int).tmod x0), { x1 with f_at := (IntKind.wrap .i64 (x1.f_at + 1)) }))
theorem C24 {x0 : Int} {x1 : S50} {r : Int × S50} (h : F24 x0 x1 = some r) {S : Stk} {L0 K0 : Nat} (hL : LowIn S [(L0, K0, ⟨(e50 x1), false⟩)]) {B : Nat} (hB : B ≤ S.length ∧ B ≤ L0) : Con Proofs.Try.prog full 24 [(.ptr L0 K0 0 []), (intTV x0)] S B (intTV r.1) [] (lows S [(L0, K0, ⟨(e50 r.2), false⟩)]) := by
  refine con_of' (n := 29) (rs := [.tmp 4]) (A := [(0, (.ptr L0 K0 0 [])), (1, (intTV x0))]) Proofs.Try.func24 rfl rfl rfl rfl (by omega) rfl ?_
  refine cx_lows hL ?_
  unfold F24 at h
  refine cx_seq ?_
  refine cx_reg rfl ?_
  refine rq (so_assign rfl) rfl ?_
  refine rx_nil ?_
  refine kseq ?_
  refine cx_seq ?_
  refine cx_seq ?_
  refine cx_reg rfl ?_
  refine rq (so_move rfl) rfl ?_
  obtain ⟨r1, c2, h⟩ := bnd_inv h
  refine rc rfl rfl (con_lows (C22 c2 (lic (lk_lows (i := 0) (hL.ok.keys (cs := [(L0, K0, ⟨(e50 x1), false⟩)]) rfl) rfl) nq0 li0) (by have := hB; first | omega | (simp only [length_lows, List.length_cons]; omega))) (.cons .nil (up_lows (i := 0) (hL.ok.keys (cs := [(L0, K0, ⟨(e50 x1), false⟩)]) rfl) rfl .zero))) (fun _ => Nat.le_refl _) rfl (by simp [length_lows]) rfl ?_
  refine rq (so_un rfl rfl rfl) rfl ?_
  refine rx_nil ?_
  refine kseq ?_
  refine cx_cond rfl rfl (fun b3 => ?_) (fun b3 => ?_)
  · replace h := ite_t h b3
    refine cx_seq ?_
    refine cx_reg rfl ?_
    refine rq (so_assign rfl) rfl ?_
    refine rx_nil ?_
    refine kseq ?_
    refine cx_ret ?_
    refine ks_r ?_
    have e_ := some_inj h; subst e_
    refine qx_ret (.inr rfl) [] (.tmp rfl .nil) (ret0s (solc rfl sol0)) cor
  · replace h := ite_f h b3
    refine cx_skip ?_
    refine kseq ?_
    refine cx_seq ?_
    refine cx_reg rfl ?_
    refine rq (so_move rfl) rfl ?_
    refine rq (so_nck rfl (live_of (lk_lows (i := 0) (hL.ok.keys (cs := [(L0, K0, ⟨(e50 x1), false⟩)]) rfl) rfl) rfl)) rfl ?_
    refine rq (so_faddr rfl fok_50_1 (live_of (lk_lows (i := 0) (hL.ok.keys (cs := [(L0, K0, ⟨(e50 x1), false⟩)]) rfl) rfl) rfl)) rfl ?_
    refine rq (so_load rfl (lk_lows (i := 0) (hL.ok.keys (cs := [(L0, K0, ⟨(e50 x1), false⟩)]) rfl) rfl) rfl (gpf rfl gp0) (fo_3 rfl)) rfl ?_
    refine rq (so_bin rfl rfl rfl rfl) rfl ?_
    refine rq (so_nck rfl (live_of (lk_lows (i := 0) (hL.ok.keys (cs := [(L0, K0, ⟨(e50 x1), false⟩)]) rfl) rfl) rfl)) rfl ?_
    refine rq (so_faddr rfl fok_50_1 (live_of (lk_lows (i := 0) (hL.ok.keys (cs := [(L0, K0, ⟨(e50 x1), false⟩)]) rfl) rfl) rfl)) rfl ?_
    refine rs (so_store rfl rfl (lk_lows (i := 0) (hL.ok.keys (cs := [(L0, K0, ⟨(e50 x1), false⟩)]) rfl) rfl) rfl rfl (gpf rfl gp0) rfl (fo_3 rfl) (fo_3 rfl) (spf rfl sp0 (.succ .zero)) (up_lows (i := 0) (hL.ok.keys (cs := [(L0, K0, ⟨(e50 x1), false⟩)]) rfl) rfl .zero)) (by have := hB; omega) ?_
    refine rx_nil ?_
    refine kseq ?_
    refine cx_seq ?_
    refine cx_draw (b := #[0, 1, 3, 7, 0, 16, 48, 112, 240, 511, 1023, 2047, 0, 8191, 16383]) rfl (by kernel_rfl) ?_
    refine dz (so_move rfl) rfl rfl ?_
    refine dz (so_nck rfl (live_of (lk_lows (i := 0) (hL.ok.keys (cs := [(L0, K0, ⟨(e50 ({ x1 with f_at := (IntKind.wrap .i64 (x1.f_at + 1)) })), false⟩)]) rfl) rfl) rfl)) rfl rfl ?_
    refine dz (so_faddr rfl fok_50_0 (live_of (lk_lows (i := 0) (hL.ok.keys (cs := [(L0, K0, ⟨(e50 ({ x1 with f_at := (IntKind.wrap .i64 (x1.f_at + 1)) })), false⟩)]) rfl) rfl) rfl)) rfl rfl ?_
    refine dq (so_load rfl (lk_lows (i := 0) (hL.ok.keys (cs := [(L0, K0, ⟨(e50 ({ x1 with f_at := (IntKind.wrap .i64 (x1.f_at + 1)) })), false⟩)]) rfl) rfl) rfl (gpf rfl gp0) (fo_22 rfl)) rfl rfl rfl ?_
    refine dz (so_move rfl) rfl rfl ?_
    refine dz (so_nck rfl (live_of (lk_lows (i := 0) (hL.ok.keys (cs := [(L0, K0, ⟨(e50 ({ x1 with f_at := (IntKind.wrap .i64 (x1.f_at + 1)) })), false⟩)]) rfl) rfl) rfl)) rfl rfl ?_
    refine dz (so_faddr rfl fok_50_1 (live_of (lk_lows (i := 0) (hL.ok.keys (cs := [(L0, K0, ⟨(e50 ({ x1 with f_at := (IntKind.wrap .i64 (x1.f_at + 1)) })), false⟩)]) rfl) rfl) rfl)) rfl rfl ?_
    refine dq (so_load rfl (lk_lows (i := 0) (hL.ok.keys (cs := [(L0, K0, ⟨(e50 ({ x1 with f_at := (IntKind.wrap .i64 (x1.f_at + 1)) })), false⟩)]) rfl) rfl) rfl (gpf rfl gp0) (fo_3 rfl)) rfl rfl rfl ?_
    refine dz (so_bin rfl rfl rfl rfl) rfl rfl ?_
    obtain ⟨w4, c5, h⟩ := bnd_inv h
    refine dz (so_ixM rfl rfl sl_22 c5) rfl rfl ?_
    refine dq (so_loadE rfl (fo_5 rfl)) rfl rfl rfl ?_
    refine dq (so_b2i rfl k_5 it_3) rfl rfl rfl ?_
    refine dz (so_move rfl) rfl rfl ?_
    obtain ⟨c6, h⟩ := chk_inv h
    refine dz (so_rem rfl rfl c6) rfl rfl ?_
    refine dz (so_assign rfl) rfl rfl ?_
    refine dx_nil ?_
    refine kseq ?_
    refine cx_ret ?_
    have e_ := some_inj h; subst e_
    refine qx_ret (.inr rfl) [] (.tmp rfl .nil) (ret0s (solc rfl sol0)) cor
/-- (*flagstone.flagstonedraw.Codes).Wide -/
noncomputable def F23 (x0 : Int) (x1 : S50) : Option (Int × S50) :=
  bnd (F24 256 x1) fun r1 => bnd (F24 256 r1.2) fun r3 => chk (x0 ≠ 0) <| some (((IntKind.wrap .i64 ((IntKind.wrap .i64 (256 * r1.1)) + r3.1)).tmod x0), r3.2)
theorem C23 {x0 : Int} {x1 : S50} {r : Int × S50} (h : F23 x0 x1 = some r) {S : Stk} {L0 K0 : Nat} (hL : LowIn S [(L0, K0, ⟨(e50 x1), false⟩)]) {B : Nat} (hB : B ≤ S.length ∧ B ≤ L0) : Con Proofs.Try.prog full 23 [(.ptr L0 K0 0 []), (intTV x0)] S B (intTV r.1) [] (lows S [(L0, K0, ⟨(e50 r.2), false⟩)]) := by
  refine con_of' (n := 13) (rs := [.tmp 4]) (A := [(0, (.ptr L0 K0 0 [])), (1, (intTV x0))]) Proofs.Try.func23 rfl rfl rfl rfl (by omega) rfl ?_
  refine cx_lows hL ?_
  unfold F23 at h
  refine cx_seq ?_
  refine cx_reg rfl ?_
  refine rq (so_assign rfl) rfl ?_
  refine rx_nil ?_
  refine kseq ?_
  refine cx_seq ?_
  refine cx_reg rfl ?_
  refine rq (so_move rfl) rfl ?_
  obtain ⟨r1, c2, h⟩ := bnd_inv h
  refine rc rfl rfl (con_lows (C24 c2 (lic (lk_lows (i := 0) (hL.ok.keys (cs := [(L0, K0, ⟨(e50 x1), false⟩)]) rfl) rfl) nq0 li0) ⟨(by have := hB; first | omega | (simp only [length_lows, List.length_cons]; omega)), (by have := hB; first | omega | (simp only [length_lows, List.length_cons]; omega))⟩) (.cons .nil (up_lows (i := 0) (hL.ok.keys (cs := [(L0, K0, ⟨(e50 x1), false⟩)]) rfl) rfl .zero))) (fun _ => Nat.le_refl _) rfl (by simp [length_lows]) rfl ?_
  refine rq (so_bin rfl rfl rfl rfl) rfl ?_
  refine rq (so_move rfl) rfl ?_
  obtain ⟨r3, c4, h⟩ := bnd_inv h
  refine rc rfl rfl (con_lows (C24 c4 (lic (lk_lows (i := 0) (hL.ok.keys (cs := [(L0, K0, ⟨(e50 r1.2), false⟩)]) rfl) rfl) nq0 li0) ⟨(by have := hB; first | omega | (simp only [length_lows, List.length_cons]; omega)), (by have := hB; first | omega | (simp only [length_lows, List.length_cons]; omega))⟩) (.cons .nil (up_lows (i := 0) (hL.ok.keys (cs := [(L0, K0, ⟨(e50 r1.2), false⟩)]) rfl) rfl .zero))) (fun _ => Nat.le_refl _) rfl (by simp [length_lows]) rfl ?_
  refine rq (so_bin rfl rfl rfl rfl) rfl ?_
  refine rq (so_move rfl) rfl ?_
  obtain ⟨c5, h⟩ := chk_inv h
  refine rq (so_rem rfl rfl c5) rfl ?_
  refine rq (so_assign rfl) rfl ?_
  refine rx_nil ?_
  refine kseq ?_
  refine cx_ret ?_
  have e_ := some_inj h; subst e_
  refine qx_ret (.inr rfl) [] (.tmp rfl .nil) (ret0s (solc rfl sol0)) cor
noncomputable def B6_2 (p6 : Int) (p7 : S50) (p8 : List S37) : Option (Stp (Int × S50 × (List S37)) (S50 × (List S37))) :=
  bnd (F22 p7) fun r14 => if r14 then (bnd (F23 10000 p7) fun r17 => bnd (α := Int × S50) (bnd (F24 3 r17.2) fun r22 => if (r22.1 == 1) then (some (p6, r22.2)) else (some (r17.1, r22.2))) fun t21 => bnd (F23 900 t21.2) fun r25 => chk (¬ (2 * (p8.length + [(⟨t21.1, (IntKind.wrap .i64 ((IntKind.wrap .i64 (t21.1 + r25.1)) - 5))⟩ : S37)].length) + 400) * 16 > 281474976710656) <| some (.next ((IntKind.wrap .i64 ((IntKind.wrap .i64 (t21.1 + r25.1)) - 5)), r25.2, (p8 ++ [(⟨t21.1, (IntKind.wrap .i64 ((IntKind.wrap .i64 (t21.1 + r25.1)) - 5))⟩ : S37)])))) else (some (.done (p7, p8)))
/-- flagstone.flagstonelaw14.spans -/
noncomputable def F6 (x0 : List UInt8) : Option (List S37) :=
  bnd (F21 x0 50) fun r1 => bnd (α := S50 × (List S37)) (bnd (loopO (σ := Int × S50 × (List S37)) (ρ := S50 × (List S37)) (fun s => B6_2 s.1 s.2.1 s.2.2) (0, r1, [])) fun z12 => some (z12.1, z12.2)) fun t5 => some t5.2
theorem C6 {x0 : List UInt8} {r : List S37} (h : F6 x0 = some r) (S : Stk) : Con Proofs.Try.prog full 6 [(.sl false 5 (x0.map byteTV))] S S.length (.sl false 37 (r.map e37)) [] S := by
  have hB : S.length ≤ S.length := Nat.le_refl _
  refine con_of' (n := 29) (rs := [.tmp 2]) (A := [(0, (.sl false 5 (x0.map byteTV)))]) Proofs.Try.func6 rfl rfl rfl rfl hB rfl ?_
  unfold F6 at h
  refine cx_seq ?_
  refine cx_reg rfl ?_
  refine rq (so_assign rfl) rfl ?_
  refine rx_nil ?_
  refine kseq ?_
  refine cx_seq ?_
  refine cx_reg rfl ?_
  refine rq (so_move rfl) rfl ?_
  obtain ⟨r1, c2, h⟩ := bnd_inv h
  refine rc rfl rfl (C21 c2 _) (fun h => Nat.le_of_lt h) (mgR (by simp) (rnhp (k := 0) rfl rfl rfl) (rbc (rns (so_e50 _)) rb0) .nil) rfl rfl ?_
  refine rq (so_assign rfl) rfl ?_
  refine rx_nil ?_
  refine kseq ?_
  refine cx_seq ?_
  refine cx_reg rfl ?_
  refine rq (so_assign rfl) rfl ?_
  refine rx_nil ?_
  refine kseq ?_
  refine cx_seq ?_
  refine cx_reg rfl ?_
  refine rq (so_assign rfl) rfl ?_
  refine rx_nil ?_
  refine kseq ?_
  obtain ⟨t3, h4, h⟩ := bnd_inv h
  refine cx_meet (τ := S50 × (List S37)) (fun t => [(4, (.ref S.length 1 t.2.length 0 t.2.length false 37))]) (fun t => ([⟨(e50 t.1), false⟩, ⟨(.row 37 (t.2.map e37)), false⟩] :: S)) (fun t => t3 = t) (fun _ => rfl) ?_ ?_
  · refine cx_block ?_
    obtain ⟨z12, h13, h4⟩ := bnd_inv h4
    refine cx_loop _ (fun s => [(3, (.ptr S.length 0 0 [])), (4, (.ref S.length 1 s.2.2.length 0 s.2.2.length false 37)), (5, (intTV s.1))]) (fun s => ([⟨(e50 s.2.1), false⟩, ⟨(.row 37 (s.2.2.map e37)), false⟩] :: S)) h13 (fun _ => rfl) (WX.trans (wxgrow (i := 4) 37 rfl rfl rfl (.cons .nil)) (wxs (subc (k := 3) rfl (subc (k := 4) rfl (subc (k := 5) rfl sub0))))) ?_
    rintro ⟨p6, p7, p8⟩ y9 h10 h11
    try dsimp only at h10 ⊢
    unfold B6_2 at h10
    refine cx_seq ?_
    refine cx_seq ?_
    refine cx_reg rfl ?_
    refine rq (so_move rfl) rfl ?_
    obtain ⟨r14, c15, h10⟩ := bnd_inv h10
    refine rc rfl rfl (con_lows (C22 c15 (lic (lk_own rfl rfl) nq0 li0) (by have := hB; first | omega | (simp only [length_lows, List.length_cons]; omega))) (.cons .nil (up_own rfl .zero))) (fun _ => Nat.le_refl _) rfl (by simp [length_lows]) rfl ?_
    refine rx_nil ?_
    refine kseq ?_
    refine cx_cond rfl rfl (fun b16 => ?_) (fun b16 => ?_)
    · replace h10 := ite_t h10 b16
      refine cx_skip ?_
      refine kseq ?_
      refine cx_block ?_
      refine cx_seq ?_
      refine cx_reg rfl ?_
      refine rq (so_move rfl) rfl ?_
      obtain ⟨r17, c18, h10⟩ := bnd_inv h10
      refine rc rfl rfl (con_lows (C23 c18 (lic (lk_own rfl rfl) nq0 li0) ⟨(by have := hB; first | omega | (simp only [length_lows, List.length_cons]; omega)), (by have := hB; first | omega | (simp only [length_lows, List.length_cons]; omega))⟩) (.cons .nil (up_own rfl .zero))) (fun _ => Nat.le_refl _) rfl (by simp [length_lows]) rfl ?_
      refine rq (so_assign rfl) rfl ?_
      refine rx_nil ?_
      refine kseq ?_
      obtain ⟨t19, h20, h10⟩ := bnd_inv h10
      refine cx_meet (τ := Int × S50) (fun t => [(3, (.ptr S.length 0 0 [])), (4, (.ref S.length 1 p8.length 0 p8.length false 37)), (6, (intTV t.1))]) (fun t => ([⟨(e50 t.2), false⟩, ⟨(.row 37 (p8.map e37)), false⟩] :: S)) (fun t => t19 = t) (fun _ => rfl) ?_ ?_
      · refine cx_seq ?_
        refine cx_reg rfl ?_
        refine rq (so_move rfl) rfl ?_
        obtain ⟨r22, c23, h20⟩ := bnd_inv h20
        refine rc rfl rfl (con_lows (C24 c23 (lic (lk_own rfl rfl) nq0 li0) ⟨(by have := hB; first | omega | (simp only [length_lows, List.length_cons]; omega)), (by have := hB; first | omega | (simp only [length_lows, List.length_cons]; omega))⟩) (.cons .nil (up_own rfl .zero))) (fun _ => Nat.le_refl _) rfl (by simp [length_lows]) rfl ?_
        refine rq (so_bin rfl rfl rfl rfl) rfl ?_
        refine rx_nil ?_
        refine kseq ?_
        refine cx_cond rfl rfl (fun b24 => ?_) (fun b24 => ?_)
        · replace h20 := ite_t h20 b24
          refine cx_reg rfl ?_
          refine rq (so_move rfl) rfl ?_
          refine rq (so_assign rfl) rfl ?_
          refine rx_nil ?_
          have e_ := some_inj h20; subst e_
          exact jk_n (p6, r22.2) rfl (wxs (subc (k := 3) rfl (subc (k := 4) rfl (subc (k := 6) rfl sub0))))
        · replace h20 := ite_f h20 b24
          refine cx_skip ?_
          have e_ := some_inj h20; subst e_
          exact jk_n (r17.1, r22.2) rfl (wxs (subc (k := 3) rfl (subc (k := 4) rfl (subc (k := 6) rfl sub0))))
      · intro t21 ht
        rw [ht] at h10
        try dsimp only at h10 ⊢
        refine cx_seq ?_
        refine cx_reg rfl ?_
        refine rq (so_move rfl) rfl ?_
        refine rq (so_move rfl) rfl ?_
        obtain ⟨r25, c26, h10⟩ := bnd_inv h10
        refine rc rfl rfl (con_lows (C23 c26 (lic (lk_own rfl rfl) nq0 li0) ⟨(by have := hB; first | omega | (simp only [length_lows, List.length_cons]; omega)), (by have := hB; first | omega | (simp only [length_lows, List.length_cons]; omega))⟩) (.cons .nil (up_own rfl .zero))) (fun _ => Nat.le_refl _) rfl (by simp [length_lows]) rfl ?_
        refine rq (so_bin rfl rfl rfl rfl) rfl ?_
        refine rq (so_bin rfl rfl rfl rfl) rfl ?_
        refine rq (so_assign rfl) rfl ?_
        refine rx_nil ?_
        refine kseq ?_
        refine cx_reg rfl ?_
        refine rq (so_move rfl) rfl ?_
        refine rq (so_move rfl) rfl ?_
        refine rq (so_move rfl) rfl ?_
        refine rq (so_build rfl zero_37 sz_37 (.cons ft_37_0 (fo_3 rfl) .zero (.cons ft_37_1 (fo_3 rfl) (.succ .zero) .nil))) rfl ?_
        refine rq (so_to (so_bslice (l := [(e37 (⟨t21.1, (IntKind.wrap .i64 ((IntKind.wrap .i64 (t21.1 + r25.1)) - 5))⟩ : S37))]) (ks := []) rfl sl_24 zero_37 (snapL_solid (solc (so_e37 (⟨t21.1, (IntKind.wrap .i64 ((IntKind.wrap .i64 (t21.1 + r25.1)) - 5))⟩ : S37)) sol0)) rfl rfl (by decide) (fl_memc fo_37 (so_e37 (⟨t21.1, (IntKind.wrap .i64 ((IntKind.wrap .i64 (t21.1 + r25.1)) - 5))⟩ : S37)) fl_mem0) rfl) (rfl : _ = TV.sl true 37 (List.map e37 [(⟨t21.1, (IntKind.wrap .i64 ((IntKind.wrap .i64 (t21.1 + r25.1)) - 5))⟩ : S37)]))) rfl ?_
        obtain ⟨c27, h10⟩ := chk_inv h10
        refine rw' (so_appR (g := e37) (c := p8) (m := [(⟨t21.1, (IntKind.wrap .i64 ((IntKind.wrap .i64 (t21.1 + r25.1)) - 5))⟩ : S37)]) rfl rfl (by rw [k_24]; decide) sl_24 (lk_own rfl rfl) (by simp) (by simp) (addends_of elems_sl) (so_e37) c27 (up_own rfl (.succ .zero))) (Nat.le_refl _) rfl ?_
        refine rq (so_assign rfl) rfl ?_
        refine rx_nil ?_
        refine kb_n ?_
        have e_ := some_inj h10; subst e_
        exact lnext rfl (wxs (subc (k := 3) rfl (subc (k := 4) rfl (subc (k := 5) rfl sub0))))
    · replace h10 := ite_f h10 b16
      refine cx_exit ?_
      refine ks_x ?_
      have e_ := some_inj h10; subst e_
      have e_ := h11 _ rfl; subst e_
      refine ldone rfl ?_
      refine kb_e ?_
      have e_ := some_inj h4; subst e_
      exact jk_n (p7, p8) rfl (wxs (subc (k := 4) rfl sub0))
  · intro t5 ht
    rw [ht] at h
    try dsimp only at h ⊢
    refine cx_seq ?_
    refine cx_reg rfl ?_
    refine rq (so_move rfl) rfl ?_
    refine rq (so_assign rfl) rfl ?_
    refine rx_nil ?_
    refine kseq ?_
    refine cx_ret ?_
    have e_ := some_inj h; subst e_
    refine qx_ret (.inr rfl) [] (.tmp rfl .nil) (ret0 (snapL_of (sulc (su_ref (elems_all (lk_own rfl rfl) (by simp) (by simp))) sul0) rfl) (mk_own rfl rfl (.succ .zero) mk0) (solc rfl sol0)) cor
/-- flagstone.traffic.Common$1 -/
noncomputable def F28 (x0 : Int) (x1 : Vector Bool 10000) (x2 : Vector Bool 10000) : Option (Bool) :=
  bnd (α := Bool) (bnd (idx x1.toList x0) fun w4 => if w4 then (bnd (idx x2.toList x0) fun w7 => some w7) else (some false)) fun t3 => some t3
theorem C28 {x0 : Int} {x1 : Vector Bool 10000} {x2 : Vector Bool 10000} {r : Bool} (h : F28 x0 x1 x2 = some r) {S : Stk} {L0 K0 L1 K1 : Nat} (hL : LowIn S [(L0, K0, ⟨(e42 x1), false⟩), (L1, K1, ⟨(e42 x2), false⟩)]) {B : Nat} (hB : B ≤ S.length) : Con Proofs.Try.prog full 28 [(intTV x0), (.ptr L0 K0 0 []), (.ptr L1 K1 0 [])] S B (boolTV r) [] (lows S [(L0, K0, ⟨(e42 x1), false⟩), (L1, K1, ⟨(e42 x2), false⟩)]) := by
  refine con_of' (n := 13) (rs := [.tmp 4]) (A := [(0, (intTV x0)), (1, (.ptr L0 K0 0 [])), (2, (.ptr L1 K1 0 []))]) Proofs.Try.func28 rfl rfl rfl rfl (by omega) rfl ?_
  refine cx_lows hL ?_
  unfold F28 at h
  refine cx_seq ?_
  refine cx_reg rfl ?_
  refine rq (so_assign rfl) rfl ?_
  refine rx_nil ?_
  refine kseq ?_
  obtain ⟨t1, h2, h⟩ := bnd_inv h
  refine cx_meet (τ := Bool) (fun t => [(4, (boolTV t))]) (fun t => ([] :: (lows S [(L0, K0, ⟨(e42 x1), false⟩), (L1, K1, ⟨(e42 x2), false⟩)]))) (fun t => t1 = t) (fun _ => by simp [length_lows]) ?_ ?_
  · refine cx_reg rfl ?_
    refine rq (so_move rfl) rfl ?_
    obtain ⟨w4, c5, h2⟩ := bnd_inv h2
    refine rq (so_ixP rfl rfl ar_42 (live_of (lk_lows (i := 0) (hL.ok.keys (cs := [(L0, K0, ⟨(e42 x1), false⟩), (L1, K1, ⟨(e42 x2), false⟩)]) rfl) rfl) rfl) (idx_bnd c5 (by simp))) rfl ?_
    refine rq (so_load rfl (lk_lows (i := 0) (hL.ok.keys (cs := [(L0, K0, ⟨(e42 x1), false⟩), (L1, K1, ⟨(e42 x2), false⟩)]) rfl) rfl) rfl (gpa (map_at (idx_some c5).2.1) gp0) (fo_4 rfl)) rfl ?_
    refine rq (so_move rfl) rfl ?_
    rcases Bool.eq_false_or_eq_true w4 with b6 | b6
    · replace h2 := ite_t h2 b6
      refine gy rfl rfl b6 ?_
      refine rq (so_move rfl) rfl ?_
      obtain ⟨w7, c8, h2⟩ := bnd_inv h2
      refine gy rfl rfl b6 ?_
      refine rq (so_ixP rfl rfl ar_42 (live_of (lk_lows (i := 1) (hL.ok.keys (cs := [(L0, K0, ⟨(e42 x1), false⟩), (L1, K1, ⟨(e42 x2), false⟩)]) rfl) rfl) rfl) (idx_bnd c8 (by simp))) rfl ?_
      refine gy rfl rfl b6 ?_
      refine rq (so_load rfl (lk_lows (i := 1) (hL.ok.keys (cs := [(L0, K0, ⟨(e42 x1), false⟩), (L1, K1, ⟨(e42 x2), false⟩)]) rfl) rfl) rfl (gpa (map_at (idx_some c8).2.1) gp0) (fo_4 rfl)) rfl ?_
      refine rq (so_pick_t rfl b6 rfl) rfl ?_
      refine rq (so_assign rfl) rfl ?_
      refine rx_nil ?_
      have e_ := some_inj h2; subst e_
      exact jk_n w7 rfl (wxs (subc (k := 4) rfl sub0))
    · replace h2 := ite_f h2 b6
      refine gn rfl rfl b6 (dnone rfl) ?_
      refine gn rfl rfl b6 (dnone rfl) ?_
      refine gn rfl rfl b6 (dnone rfl) ?_
      refine rq (so_pick_f rfl b6 rfl) rfl ?_
      refine rq (so_assign rfl) rfl ?_
      refine rx_nil ?_
      have e_ := some_inj h2; subst e_
      exact jk_n false rfl (wxs (subc (k := 4) rfl sub0))
  · intro t3 ht
    rw [ht] at h
    try dsimp only at h ⊢
    refine cx_ret ?_
    have e_ := some_inj h; subst e_
    refine qx_ret (.inr rfl) [] (.tmp rfl .nil) (ret0s (solc rfl sol0)) cor
noncomputable def B26_1_2 (x0 : Vector Bool 10000) (x1 : Vector Bool 10000) (p4 : Int) (p5 : List S37) : Option (Stp (Int × (List S37)) (List S37)) :=
  if (decide (p4 < 10000)) then (bnd (α := List S37) (bnd (F28 p4 x0 x1) fun r15 => if (!r15) then (some p5) else (bnd (α := Bool) (if (decide ((p5.length : Int) > 0)) then (bnd (idx p5 (IntKind.wrap .i64 ((p5.length : Int) - 1))) fun w22 => some (w22.To == p4)) else (some false)) fun t20 => if t20 then (bnd (idx p5 (IntKind.wrap .i64 ((p5.length : Int) - 1))) fun w25 => some (p5.set ((IntKind.wrap .i64 ((p5.length : Int) - 1)).toNat) ({ w25 with To := (IntKind.wrap .i64 (p4 + 1)) }))) else (chk (¬ (2 * (p5.length + [(⟨p4, (IntKind.wrap .i64 (p4 + 1))⟩ : S37)].length) + 400) * 16 > 281474976710656) <| some (p5 ++ [(⟨p4, (IntKind.wrap .i64 (p4 + 1))⟩ : S37)])))) fun t14 => some (.next ((IntKind.wrap .i64 (p4 + 1)), t14))) else (some (.done p5))
/-- flagstone.traffic.spans -/
noncomputable def F26_1 (x0 : Vector Bool 10000) (x1 : Vector Bool 10000) : Option (List S37) :=
  bnd (α := List S37) (bnd (loopO (σ := Int × (List S37)) (ρ := List S37) (fun s => B26_1_2 x0 x1 s.1 s.2) (0, [])) fun z9 => some z9) fun t3 => some t3
theorem C26_1 {x0 : Vector Bool 10000} {x1 : Vector Bool 10000} {r : List S37} (h : F26_1 x0 x1 = some r) {S : Stk} {L0 K0 L1 K1 : Nat} (hL : LowIn S [(L0, K0, ⟨(e42 x0), false⟩), (L1, K1, ⟨(e42 x1), false⟩)]) {B : Nat} (hB : B ≤ S.length) : Con Proofs.Try.prog full 26 [(.fn 28 [] [(.ptr L0 K0 0 []), (.ptr L1 K1 0 [])])] S B (.sl false 37 (r.map e37)) [] (lows S [(L0, K0, ⟨(e42 x0), false⟩), (L1, K1, ⟨(e42 x1), false⟩)]) := by
  refine con_of' (n := 43) (rs := [.tmp 2]) (A := [(0, (.fn 28 [] [(.ptr L0 K0 0 []), (.ptr L1 K1 0 [])]))]) Proofs.Try.func26 rfl rfl rfl rfl (by omega) rfl ?_
  refine cx_lows hL ?_
  unfold F26_1 at h
  refine cx_seq ?_
  refine cx_reg rfl ?_
  refine rq (so_assign rfl) rfl ?_
  refine rx_nil ?_
  refine kseq ?_
  refine cx_seq ?_
  refine cx_reg rfl ?_
  refine rq (so_assign rfl) rfl ?_
  refine rx_nil ?_
  refine kseq ?_
  obtain ⟨t1, h2, h⟩ := bnd_inv h
  refine cx_meet (τ := List S37) (fun t => [(3, (.ref S.length 0 t.length 0 t.length false 37))]) (fun t => ([⟨(.row 37 (t.map e37)), false⟩] :: (lows S [(L0, K0, ⟨(e42 x0), false⟩), (L1, K1, ⟨(e42 x1), false⟩)]))) (fun t => t1 = t) (fun _ => by simp [length_lows]) ?_ ?_
  · refine cx_seq ?_
    refine cx_reg rfl ?_
    refine rq (so_move rfl) rfl ?_
    refine rx_nil ?_
    refine kseq ?_
    refine cx_block ?_
    obtain ⟨z9, h10, h2⟩ := bnd_inv h2
    refine cx_loop _ (fun s => [(0, (.fn 28 [] [(.ptr L0 K0 0 []), (.ptr L1 K1 0 [])])), (3, (.ref S.length 0 s.2.length 0 s.2.length false 37)), (6, (intTV s.1))]) (fun s => ([⟨(.row 37 (s.2.map e37)), false⟩] :: (lows S [(L0, K0, ⟨(e42 x0), false⟩), (L1, K1, ⟨(e42 x1), false⟩)]))) h10 (fun _ => by simp [length_lows]) (WX.trans (wxgrow (i := 3) 37 rfl (length_lows _ _) rfl .nil) (wxs (subc (k := 0) rfl (subc (k := 3) rfl (subc (k := 6) rfl sub0))))) ?_
    rintro ⟨p4, p5⟩ y6 h7 h8
    try dsimp only at h7 ⊢
    unfold B26_1_2 at h7
    refine cx_seq ?_
    refine cx_reg rfl ?_
    refine rq (so_bin rfl rfl rfl rfl) rfl ?_
    refine rx_nil ?_
    refine kseq ?_
    refine cx_seq ?_
    refine cx_cond rfl rfl (fun b11 => ?_) (fun b11 => ?_)
    · replace h7 := ite_t h7 b11
      refine cx_skip ?_
      refine kseq ?_
      obtain ⟨t12, h13, h7⟩ := bnd_inv h7
      refine cx_meet (τ := List S37) (fun t => [(0, (.fn 28 [] [(.ptr L0 K0 0 []), (.ptr L1 K1 0 [])])), (3, (.ref S.length 0 t.length 0 t.length false 37)), (6, (intTV p4))]) (fun t => ([⟨(.row 37 (t.map e37)), false⟩] :: (lows S [(L0, K0, ⟨(e42 x0), false⟩), (L1, K1, ⟨(e42 x1), false⟩)]))) (fun t => t12 = t) (fun _ => by simp [length_lows]) ?_ ?_
      · refine cx_block ?_
        refine cx_seq ?_
        refine cx_reg rfl ?_
        refine rq (so_move rfl) rfl ?_
        refine rq (so_assign rfl) rfl ?_
        refine rx_nil ?_
        refine kseq ?_
        refine cx_seq ?_
        refine cx_seq ?_
        refine cx_reg rfl ?_
        refine rq (so_move rfl) rfl ?_
        refine rq (so_move rfl) rfl ?_
        obtain ⟨r15, c16, h13⟩ := bnd_inv h13
        refine rc rfl rfl (con_lows (C28 c16 (lic (lk_lows (i := 0) (hL.ok.keys (cs := [(L0, K0, ⟨(e42 x0), false⟩), (L1, K1, ⟨(e42 x1), false⟩)]) rfl) rfl) (nqc (by have := hL.2.1 _ (.head _); simp only at this; omega) nq0) (lic (lk_lows (i := 1) (hL.ok.keys (cs := [(L0, K0, ⟨(e42 x0), false⟩), (L1, K1, ⟨(e42 x1), false⟩)]) rfl) rfl) nq0 li0)) (by have := hB; first | omega | (simp only [length_lows, List.length_cons]; omega))) (.cons (.cons .nil (up_lows (i := 1) (hL.ok.keys (cs := [(L0, K0, ⟨(e42 x0), false⟩), (L1, K1, ⟨(e42 x1), false⟩)]) rfl) rfl (.succ .zero))) (up_lows (i := 0) (hL.ok.keys (cs := [(L0, K0, ⟨(e42 x0), false⟩), (L1, K1, ⟨(e42 x1), false⟩)]) rfl) rfl .zero))) (fun _ => Nat.le_refl _) rfl (by simp [length_lows]) rfl ?_
        refine rq (so_un rfl rfl rfl) rfl ?_
        refine rx_nil ?_
        refine kseq ?_
        refine cx_cond rfl rfl (fun b17 => ?_) (fun b17 => ?_)
        · replace h13 := ite_t h13 b17
          refine cx_exit ?_
          refine ks_x ?_
          refine kb_e ?_
          have e_ := some_inj h13; subst e_
          exact jk_n p5 rfl (wxs (subc (k := 0) rfl (subc (k := 3) rfl (subc (k := 6) rfl sub0))))
        · replace h13 := ite_f h13 b17
          refine cx_skip ?_
          refine kseq ?_
          refine cx_seq ?_
          refine cx_reg rfl ?_
          refine rq (so_move rfl) rfl ?_
          refine rq (so_lenR rfl (live_of (lk_own (length_lows _ _) rfl) (by simp [vers])) k_24) rfl ?_
          refine rq (so_assign rfl) rfl ?_
          refine rx_nil ?_
          refine kseq ?_
          obtain ⟨t18, h19, h13⟩ := bnd_inv h13
          refine cx_meet (τ := Bool) (fun t => [(0, (.fn 28 [] [(.ptr L0 K0 0 []), (.ptr L1 K1 0 [])])), (3, (.ref S.length 0 p5.length 0 p5.length false 37)), (4, (intTV p4)), (5, (intTV (p5.length : Int))), (6, (intTV p4)), (26, (boolTV t))]) (fun t => ([⟨(.row 37 (p5.map e37)), false⟩] :: (lows S [(L0, K0, ⟨(e42 x0), false⟩), (L1, K1, ⟨(e42 x1), false⟩)]))) (fun t => t18 = t) (fun _ => by simp [length_lows]) ?_ ?_
          · refine cx_reg rfl ?_
            refine rq (so_move rfl) rfl ?_
            refine rq (so_bin rfl rfl rfl rfl) rfl ?_
            refine rq (so_move rfl) rfl ?_
            rcases Bool.eq_false_or_eq_true (decide ((p5.length : Int) > 0)) with b21 | b21
            · replace h19 := ite_t h19 b21
              refine gy rfl rfl b21 ?_
              refine rq (so_move rfl) rfl ?_
              refine gy rfl rfl b21 ?_
              refine rq (so_move rfl) rfl ?_
              refine gy rfl rfl b21 ?_
              refine rq (so_bin rfl rfl rfl rfl) rfl ?_
              obtain ⟨w22, c23, h19⟩ := bnd_inv h19
              refine gy rfl rfl b21 ?_
              refine rq (so_ixR0 rfl rfl sl_24 (live_of (lk_own (length_lows _ _) rfl) (by simp [vers])) (idx_bnd c23 (by first | rfl | simp))) rfl ?_
              refine gy rfl rfl b21 ?_
              refine rq (so_faddr rfl fok_37_1 (live_of (lk_own (length_lows _ _) rfl) (by simp [vers]))) rfl ?_
              refine gy rfl rfl b21 ?_
              refine rq (so_load rfl (lk_own (length_lows _ _) rfl) (by simp [vers]) (gpr (map_at (idx_some c23).2.1) (gpf rfl gp0)) (fo_3 rfl)) rfl ?_
              refine gy rfl rfl b21 ?_
              refine rq (so_move rfl) rfl ?_
              refine gy rfl rfl b21 ?_
              refine rq (so_bin rfl rfl rfl rfl) rfl ?_
              refine rq (so_pick_t rfl b21 rfl) rfl ?_
              refine rx_nil ?_
              have e_ := some_inj h19; subst e_
              exact jk_n (w22.To == p4) rfl (wxs (subc (k := 0) rfl (subc (k := 3) rfl (subc (k := 4) rfl (subc (k := 5) rfl (subc (k := 6) rfl (subc (k := 26) rfl sub0)))))))
            · replace h19 := ite_f h19 b21
              refine gn rfl rfl b21 (dnone rfl) ?_
              refine gn rfl rfl b21 (dnone rfl) ?_
              refine gn rfl rfl b21 (dnone rfl) ?_
              refine gn rfl rfl b21 (dnone rfl) ?_
              refine gn rfl rfl b21 (dnone rfl) ?_
              refine gn rfl rfl b21 (dnone rfl) ?_
              refine gn rfl rfl b21 (dnone rfl) ?_
              refine gn rfl rfl b21 (dnone rfl) ?_
              refine rq (so_pick_f rfl b21 rfl) rfl ?_
              refine rx_nil ?_
              have e_ := some_inj h19; subst e_
              exact jk_n false rfl (wxs (subc (k := 0) rfl (subc (k := 3) rfl (subc (k := 4) rfl (subc (k := 5) rfl (subc (k := 6) rfl (subc (k := 26) rfl sub0)))))))
          · intro t20 ht
            rw [ht] at h13
            try dsimp only at h13 ⊢
            refine cx_cond rfl rfl (fun b24 => ?_) (fun b24 => ?_)
            · replace h13 := ite_t h13 b24
              refine cx_reg rfl ?_
              refine rq (so_move rfl) rfl ?_
              refine rq (so_move rfl) rfl ?_
              refine rq (so_bin rfl rfl rfl rfl) rfl ?_
              refine rq (so_move rfl) rfl ?_
              refine rq (so_bin rfl rfl rfl rfl) rfl ?_
              obtain ⟨w25, c26, h13⟩ := bnd_inv h13
              refine rq (so_ixR0 rfl rfl sl_24 (live_of (lk_own (length_lows _ _) rfl) (by simp [vers])) (idx_bnd c26 (by first | rfl | simp))) rfl ?_
              refine rq (so_faddr rfl fok_37_1 (live_of (lk_own (length_lows _ _) rfl) (by simp [vers]))) rfl ?_
              refine rs (so_store rfl rfl (lk_own (length_lows _ _) rfl) (by simp [vers]) rfl (gpr (map_at (idx_some c26).2.1) (gpf rfl gp0)) rfl (fo_3 rfl) (fo_3 rfl) (spM (x' := { w25 with To := (IntKind.wrap .i64 (p4 + 1)) }) (idx_some c26).2.1 (spf rfl sp0 (.succ .zero)) rfl) (up_own (length_lows _ _) .zero)) (by have := hB; omega) ?_
              refine rx_nil ?_
              refine kb_n ?_
              have e_ := some_inj h13; subst e_
              exact jk_n (p5.set ((IntKind.wrap .i64 ((p5.length : Int) - 1)).toNat) ({ w25 with To := (IntKind.wrap .i64 (p4 + 1)) })) rfl (WX.trans (wxeq (i := 3) (v' := (.ref S.length 0 ((p5.set ((IntKind.wrap .i64 ((p5.length : Int) - 1)).toNat) ({ w25 with To := (IntKind.wrap .i64 (p4 + 1)) })).length) 0 ((p5.set ((IntKind.wrap .i64 ((p5.length : Int) - 1)).toNat) ({ w25 with To := (IntKind.wrap .i64 (p4 + 1)) })).length) false 37)) rfl (by first | rfl | simp)) (wxs (subc (k := 0) rfl (subc (k := 3) rfl (subc (k := 6) rfl sub0)))))
            · replace h13 := ite_f h13 b24
              refine cx_reg rfl ?_
              refine rq (so_move rfl) rfl ?_
              refine rq (so_move rfl) rfl ?_
              refine rq (so_move rfl) rfl ?_
              refine rq (so_bin rfl rfl rfl rfl) rfl ?_
              refine rq (so_build rfl zero_37 sz_37 (.cons ft_37_0 (fo_3 rfl) .zero (.cons ft_37_1 (fo_3 rfl) (.succ .zero) .nil))) rfl ?_
              refine rq (so_to (so_bslice (l := [(e37 (⟨p4, (IntKind.wrap .i64 (p4 + 1))⟩ : S37))]) (ks := []) rfl sl_24 zero_37 (snapL_solid (solc (so_e37 (⟨p4, (IntKind.wrap .i64 (p4 + 1))⟩ : S37)) sol0)) rfl rfl (by decide) (fl_memc fo_37 (so_e37 (⟨p4, (IntKind.wrap .i64 (p4 + 1))⟩ : S37)) fl_mem0) rfl) (rfl : _ = TV.sl true 37 (List.map e37 [(⟨p4, (IntKind.wrap .i64 (p4 + 1))⟩ : S37)]))) rfl ?_
              obtain ⟨c27, h13⟩ := chk_inv h13
              refine rw' (so_appR (g := e37) (c := p5) (m := [(⟨p4, (IntKind.wrap .i64 (p4 + 1))⟩ : S37)]) rfl rfl (by rw [k_24]; decide) sl_24 (lk_own (length_lows _ _) rfl) (by simp) (by simp) (addends_of elems_sl) (so_e37) c27 (up_own (length_lows _ _) .zero)) (by have := hB; omega) rfl ?_
              refine rq (so_assign rfl) rfl ?_
              refine rx_nil ?_
              refine kb_n ?_
              have e_ := some_inj h13; subst e_
              exact jk_n (p5 ++ [(⟨p4, (IntKind.wrap .i64 (p4 + 1))⟩ : S37)]) rfl (wxs (subc (k := 0) rfl (subc (k := 3) rfl (subc (k := 6) rfl sub0))))
      · intro t14 ht
        rw [ht] at h7
        try dsimp only at h7 ⊢
        refine cx_reg rfl ?_
        refine rq (so_bin rfl rfl rfl rfl) rfl ?_
        refine rq (so_move rfl) rfl ?_
        refine rx_nil ?_
        have e_ := some_inj h7; subst e_
        exact lnext rfl (wxs (subc (k := 0) rfl (subc (k := 3) rfl (subc (k := 6) rfl sub0))))
    · replace h7 := ite_f h7 b11
      refine cx_exit ?_
      refine ks_x ?_
      have e_ := some_inj h7; subst e_
      have e_ := h8 _ rfl; subst e_
      refine ldone rfl ?_
      refine kb_e ?_
      have e_ := some_inj h2; subst e_
      exact jk_n p5 rfl (wxs (subc (k := 3) rfl sub0))
  · intro t3 ht
    rw [ht] at h
    try dsimp only at h ⊢
    refine cx_seq ?_
    refine cx_reg rfl ?_
    refine rq (so_move rfl) rfl ?_
    refine rq (so_assign rfl) rfl ?_
    refine rx_nil ?_
    refine kseq ?_
    refine cx_ret ?_
    have e_ := some_inj h; subst e_
    refine qx_ret (.inr rfl) [] (.tmp rfl .nil) (ret0 (snapL_of (sulc (su_ref (elems_all (lk_own (length_lows _ _) rfl) (by simp) (by simp))) sul0) rfl) (mk_own (length_lows _ _) rfl .zero mk0) (solc rfl sol0)) cor
/-- flagstone.traffic.Common -/
noncomputable def F8 (x0 : List S37) (x1 : List S37) : Option (List S37) :=
  bnd (F25 [x0]) fun r1 => bnd (F25 [x1]) fun r3 => bnd (F26_1 r1 r3) fun r5 => some r5
theorem C8 {x0 : List S37} {x1 : List S37} {r : List S37} (h : F8 x0 x1 = some r) (S : Stk) : Con Proofs.Try.prog full 8 [(.sl false 37 (x0.map e37)), (.sl false 37 (x1.map e37))] S S.length (.sl false 37 (r.map e37)) [] S := by
  have hB : S.length ≤ S.length := Nat.le_refl _
  refine con_of' (n := 15) (rs := [.tmp 4]) (A := [(0, (.sl false 37 (x0.map e37))), (1, (.sl false 37 (x1.map e37)))]) Proofs.Try.func8 rfl rfl rfl rfl hB rfl ?_
  unfold F8 at h
  refine cx_seq ?_
  refine cx_reg rfl ?_
  refine rq (so_assign rfl) rfl ?_
  refine rx_nil ?_
  refine kseq ?_
  refine cx_seq ?_
  refine cx_reg rfl ?_
  refine rq (so_move rfl) rfl ?_
  refine rq (so_to (so_bslice (l := [(.sl false 37 (x0.map e37))]) (ks := []) rfl sl_51 zero_24 (snapL_solid (solc rfl sol0)) rfl rfl (by decide) (fl_memc (fo_24 rfl) rfl fl_mem0) rfl) (rfl : _ = TV.sl true 24 (List.map e24 [x0]))) rfl ?_
  obtain ⟨r1, c2, h⟩ := bnd_inv h
  refine rcp rfl rfl (con_cv (.cons (co1 rfl cvx) .nil) (C25 c2 _)) rfl ?_
  refine rq (so_move rfl) rfl ?_
  refine rq (so_to (so_bslice (l := [(.sl false 37 (x1.map e37))]) (ks := []) rfl sl_51 zero_24 (snapL_solid (solc rfl sol0)) rfl rfl (by decide) (fl_memc (fo_24 rfl) rfl fl_mem0) rfl) (rfl : _ = TV.sl true 24 (List.map e24 [x1]))) rfl ?_
  obtain ⟨r3, c4, h⟩ := bnd_inv h
  refine rcp rfl rfl (con_cv (.cons (co1 rfl cvx) .nil) (C25 c4 _)) rfl ?_
  refine rq (so_alloc (k := 0) zero_42 rfl rfl .nil) rfl ?_
  refine rq (so_alloc (k := 1) zero_42 rfl rfl (.cons .nil)) rfl ?_
  refine rs (so_store0 rfl rfl (lk_own rfl rfl) rfl rfl gp0 rfl rfl fo_42 fo_42 sp0 (up_own rfl .zero)) (Nat.le_refl _) ?_
  refine rs (so_store0 rfl rfl (lk_own rfl rfl) rfl rfl gp0 rfl rfl fo_42 fo_42 sp0 (up_own rfl (.succ .zero))) (Nat.le_refl _) ?_
  refine rx_nil ?_
  refine kseq ?_
  refine cx_seq ?_
  refine cx_reg rfl ?_
  refine rq (so_fn rfl rfl rfl) rfl ?_
  obtain ⟨r5, c6, h⟩ := bnd_inv h
  refine rc rfl rfl (con_lows (C26_1 c6 (lic (lk_own rfl rfl) (nqc (.inr (by decide)) nq0) (lic (lk_own rfl rfl) nq0 li0)) (by have := hB; first | omega | (simp only [length_lows, List.length_cons]; omega))) (.cons (.cons .nil (up_own rfl (.succ .zero))) (up_own rfl .zero))) (fun _ => Nat.le_refl _) rfl (by simp [length_lows]) rfl ?_
  refine rq (so_assign rfl) rfl ?_
  refine rx_nil ?_
  refine kseq ?_
  refine cx_ret ?_
  have e_ := some_inj h; subst e_
  refine qx_ret (.inr rfl) [] (.tmp rfl .nil) (ret0s (solc rfl sol0)) cor
/-- flagstone.traffic.Minus$1 -/
noncomputable def F29 (x0 : Int) (x1 : Vector Bool 10000) (x2 : Vector Bool 10000) : Option (Bool) :=
  bnd (α := Bool) (bnd (idx x1.toList x0) fun w4 => if w4 then (bnd (idx x2.toList x0) fun w7 => some (!w7)) else (some false)) fun t3 => some t3
theorem C29 {x0 : Int} {x1 : Vector Bool 10000} {x2 : Vector Bool 10000} {r : Bool} (h : F29 x0 x1 x2 = some r) {S : Stk} {L0 K0 L1 K1 : Nat} (hL : LowIn S [(L0, K0, ⟨(e42 x1), false⟩), (L1, K1, ⟨(e42 x2), false⟩)]) {B : Nat} (hB : B ≤ S.length) : Con Proofs.Try.prog full 29 [(intTV x0), (.ptr L0 K0 0 []), (.ptr L1 K1 0 [])] S B (boolTV r) [] (lows S [(L0, K0, ⟨(e42 x1), false⟩), (L1, K1, ⟨(e42 x2), false⟩)]) := by
  refine con_of' (n := 14) (rs := [.tmp 4]) (A := [(0, (intTV x0)), (1, (.ptr L0 K0 0 [])), (2, (.ptr L1 K1 0 []))]) Proofs.Try.func29 rfl rfl rfl rfl (by omega) rfl ?_
  refine cx_lows hL ?_
  unfold F29 at h
  refine cx_seq ?_
  refine cx_reg rfl ?_
  refine rq (so_assign rfl) rfl ?_
  refine rx_nil ?_
  refine kseq ?_
  obtain ⟨t1, h2, h⟩ := bnd_inv h
  refine cx_meet (τ := Bool) (fun t => [(4, (boolTV t))]) (fun t => ([] :: (lows S [(L0, K0, ⟨(e42 x1), false⟩), (L1, K1, ⟨(e42 x2), false⟩)]))) (fun t => t1 = t) (fun _ => by simp [length_lows]) ?_ ?_
  · refine cx_reg rfl ?_
    refine rq (so_move rfl) rfl ?_
    obtain ⟨w4, c5, h2⟩ := bnd_inv h2
    refine rq (so_ixP rfl rfl ar_42 (live_of (lk_lows (i := 0) (hL.ok.keys (cs := [(L0, K0, ⟨(e42 x1), false⟩), (L1, K1, ⟨(e42 x2), false⟩)]) rfl) rfl) rfl) (idx_bnd c5 (by simp))) rfl ?_
    refine rq (so_load rfl (lk_lows (i := 0) (hL.ok.keys (cs := [(L0, K0, ⟨(e42 x1), false⟩), (L1, K1, ⟨(e42 x2), false⟩)]) rfl) rfl) rfl (gpa (map_at (idx_some c5).2.1) gp0) (fo_4 rfl)) rfl ?_
    refine rq (so_move rfl) rfl ?_
    rcases Bool.eq_false_or_eq_true w4 with b6 | b6
    · replace h2 := ite_t h2 b6
      refine gy rfl rfl b6 ?_
      refine rq (so_move rfl) rfl ?_
      obtain ⟨w7, c8, h2⟩ := bnd_inv h2
      refine gy rfl rfl b6 ?_
      refine rq (so_ixP rfl rfl ar_42 (live_of (lk_lows (i := 1) (hL.ok.keys (cs := [(L0, K0, ⟨(e42 x1), false⟩), (L1, K1, ⟨(e42 x2), false⟩)]) rfl) rfl) rfl) (idx_bnd c8 (by simp))) rfl ?_
      refine gy rfl rfl b6 ?_
      refine rq (so_load rfl (lk_lows (i := 1) (hL.ok.keys (cs := [(L0, K0, ⟨(e42 x1), false⟩), (L1, K1, ⟨(e42 x2), false⟩)]) rfl) rfl) rfl (gpa (map_at (idx_some c8).2.1) gp0) (fo_4 rfl)) rfl ?_
      refine gy rfl rfl b6 ?_
      refine rq (so_un rfl rfl rfl) rfl ?_
      refine rq (so_pick_t rfl b6 rfl) rfl ?_
      refine rq (so_assign rfl) rfl ?_
      refine rx_nil ?_
      have e_ := some_inj h2; subst e_
      exact jk_n (!w7) rfl (wxs (subc (k := 4) rfl sub0))
    · replace h2 := ite_f h2 b6
      refine gn rfl rfl b6 (dnone rfl) ?_
      refine gn rfl rfl b6 (dnone rfl) ?_
      refine gn rfl rfl b6 (dnone rfl) ?_
      refine gn rfl rfl b6 (dnone rfl) ?_
      refine rq (so_pick_f rfl b6 rfl) rfl ?_
      refine rq (so_assign rfl) rfl ?_
      refine rx_nil ?_
      have e_ := some_inj h2; subst e_
      exact jk_n false rfl (wxs (subc (k := 4) rfl sub0))
  · intro t3 ht
    rw [ht] at h
    try dsimp only at h ⊢
    refine cx_ret ?_
    have e_ := some_inj h; subst e_
    refine qx_ret (.inr rfl) [] (.tmp rfl .nil) (ret0s (solc rfl sol0)) cor
noncomputable def B26_2_2 (x0 : Vector Bool 10000) (x1 : Vector Bool 10000) (p4 : Int) (p5 : List S37) : Option (Stp (Int × (List S37)) (List S37)) :=
  if (decide (p4 < 10000)) then (bnd (α := List S37) (bnd (F29 p4 x0 x1) fun r15 => if (!r15) then (some p5) else (bnd (α := Bool) (if (decide ((p5.length : Int) > 0)) then (bnd (idx p5 (IntKind.wrap .i64 ((p5.length : Int) - 1))) fun w22 => some (w22.To == p4)) else (some false)) fun t20 => if t20 then (bnd (idx p5 (IntKind.wrap .i64 ((p5.length : Int) - 1))) fun w25 => some (p5.set ((IntKind.wrap .i64 ((p5.length : Int) - 1)).toNat) ({ w25 with To := (IntKind.wrap .i64 (p4 + 1)) }))) else (chk (¬ (2 * (p5.length + [(⟨p4, (IntKind.wrap .i64 (p4 + 1))⟩ : S37)].length) + 400) * 16 > 281474976710656) <| some (p5 ++ [(⟨p4, (IntKind.wrap .i64 (p4 + 1))⟩ : S37)])))) fun t14 => some (.next ((IntKind.wrap .i64 (p4 + 1)), t14))) else (some (.done p5))
/-- flagstone.traffic.spans -/
noncomputable def F26_2 (x0 : Vector Bool 10000) (x1 : Vector Bool 10000) : Option (List S37) :=
  bnd (α := List S37) (bnd (loopO (σ := Int × (List S37)) (ρ := List S37) (fun s => B26_2_2 x0 x1 s.1 s.2) (0, [])) fun z9 => some z9) fun t3 => some t3
theorem C26_2 {x0 : Vector Bool 10000} {x1 : Vector Bool 10000} {r : List S37} (h : F26_2 x0 x1 = some r) {S : Stk} {L0 K0 L1 K1 : Nat} (hL : LowIn S [(L0, K0, ⟨(e42 x0), false⟩), (L1, K1, ⟨(e42 x1), false⟩)]) {B : Nat} (hB : B ≤ S.length) : Con Proofs.Try.prog full 26 [(.fn 29 [] [(.ptr L0 K0 0 []), (.ptr L1 K1 0 [])])] S B (.sl false 37 (r.map e37)) [] (lows S [(L0, K0, ⟨(e42 x0), false⟩), (L1, K1, ⟨(e42 x1), false⟩)]) := by
  refine con_of' (n := 43) (rs := [.tmp 2]) (A := [(0, (.fn 29 [] [(.ptr L0 K0 0 []), (.ptr L1 K1 0 [])]))]) Proofs.Try.func26 rfl rfl rfl rfl (by omega) rfl ?_
  refine cx_lows hL ?_
  unfold F26_2 at h
  refine cx_seq ?_
  refine cx_reg rfl ?_
  refine rq (so_assign rfl) rfl ?_
  refine rx_nil ?_
  refine kseq ?_
  refine cx_seq ?_
  refine cx_reg rfl ?_
  refine rq (so_assign rfl) rfl ?_
  refine rx_nil ?_
  refine kseq ?_
  obtain ⟨t1, h2, h⟩ := bnd_inv h
  refine cx_meet (τ := List S37) (fun t => [(3, (.ref S.length 0 t.length 0 t.length false 37))]) (fun t => ([⟨(.row 37 (t.map e37)), false⟩] :: (lows S [(L0, K0, ⟨(e42 x0), false⟩), (L1, K1, ⟨(e42 x1), false⟩)]))) (fun t => t1 = t) (fun _ => by simp [length_lows]) ?_ ?_
  · refine cx_seq ?_
    refine cx_reg rfl ?_
    refine rq (so_move rfl) rfl ?_
    refine rx_nil ?_
    refine kseq ?_
    refine cx_block ?_
    obtain ⟨z9, h10, h2⟩ := bnd_inv h2
    refine cx_loop _ (fun s => [(0, (.fn 29 [] [(.ptr L0 K0 0 []), (.ptr L1 K1 0 [])])), (3, (.ref S.length 0 s.2.length 0 s.2.length false 37)), (6, (intTV s.1))]) (fun s => ([⟨(.row 37 (s.2.map e37)), false⟩] :: (lows S [(L0, K0, ⟨(e42 x0), false⟩), (L1, K1, ⟨(e42 x1), false⟩)]))) h10 (fun _ => by simp [length_lows]) (WX.trans (wxgrow (i := 3) 37 rfl (length_lows _ _) rfl .nil) (wxs (subc (k := 0) rfl (subc (k := 3) rfl (subc (k := 6) rfl sub0))))) ?_
    rintro ⟨p4, p5⟩ y6 h7 h8
    try dsimp only at h7 ⊢
    unfold B26_2_2 at h7
    refine cx_seq ?_
    refine cx_reg rfl ?_
    refine rq (so_bin rfl rfl rfl rfl) rfl ?_
    refine rx_nil ?_
    refine kseq ?_
    refine cx_seq ?_
    refine cx_cond rfl rfl (fun b11 => ?_) (fun b11 => ?_)
    · replace h7 := ite_t h7 b11
      refine cx_skip ?_
      refine kseq ?_
      obtain ⟨t12, h13, h7⟩ := bnd_inv h7
      refine cx_meet (τ := List S37) (fun t => [(0, (.fn 29 [] [(.ptr L0 K0 0 []), (.ptr L1 K1 0 [])])), (3, (.ref S.length 0 t.length 0 t.length false 37)), (6, (intTV p4))]) (fun t => ([⟨(.row 37 (t.map e37)), false⟩] :: (lows S [(L0, K0, ⟨(e42 x0), false⟩), (L1, K1, ⟨(e42 x1), false⟩)]))) (fun t => t12 = t) (fun _ => by simp [length_lows]) ?_ ?_
      · refine cx_block ?_
        refine cx_seq ?_
        refine cx_reg rfl ?_
        refine rq (so_move rfl) rfl ?_
        refine rq (so_assign rfl) rfl ?_
        refine rx_nil ?_
        refine kseq ?_
        refine cx_seq ?_
        refine cx_seq ?_
        refine cx_reg rfl ?_
        refine rq (so_move rfl) rfl ?_
        refine rq (so_move rfl) rfl ?_
        obtain ⟨r15, c16, h13⟩ := bnd_inv h13
        refine rc rfl rfl (con_lows (C29 c16 (lic (lk_lows (i := 0) (hL.ok.keys (cs := [(L0, K0, ⟨(e42 x0), false⟩), (L1, K1, ⟨(e42 x1), false⟩)]) rfl) rfl) (nqc (by have := hL.2.1 _ (.head _); simp only at this; omega) nq0) (lic (lk_lows (i := 1) (hL.ok.keys (cs := [(L0, K0, ⟨(e42 x0), false⟩), (L1, K1, ⟨(e42 x1), false⟩)]) rfl) rfl) nq0 li0)) (by have := hB; first | omega | (simp only [length_lows, List.length_cons]; omega))) (.cons (.cons .nil (up_lows (i := 1) (hL.ok.keys (cs := [(L0, K0, ⟨(e42 x0), false⟩), (L1, K1, ⟨(e42 x1), false⟩)]) rfl) rfl (.succ .zero))) (up_lows (i := 0) (hL.ok.keys (cs := [(L0, K0, ⟨(e42 x0), false⟩), (L1, K1, ⟨(e42 x1), false⟩)]) rfl) rfl .zero))) (fun _ => Nat.le_refl _) rfl (by simp [length_lows]) rfl ?_
        refine rq (so_un rfl rfl rfl) rfl ?_
        refine rx_nil ?_
        refine kseq ?_
        refine cx_cond rfl rfl (fun b17 => ?_) (fun b17 => ?_)
        · replace h13 := ite_t h13 b17
          refine cx_exit ?_
          refine ks_x ?_
          refine kb_e ?_
          have e_ := some_inj h13; subst e_
          exact jk_n p5 rfl (wxs (subc (k := 0) rfl (subc (k := 3) rfl (subc (k := 6) rfl sub0))))
        · replace h13 := ite_f h13 b17
          refine cx_skip ?_
          refine kseq ?_
          refine cx_seq ?_
          refine cx_reg rfl ?_
          refine rq (so_move rfl) rfl ?_
          refine rq (so_lenR rfl (live_of (lk_own (length_lows _ _) rfl) (by simp [vers])) k_24) rfl ?_
          refine rq (so_assign rfl) rfl ?_
          refine rx_nil ?_
          refine kseq ?_
          obtain ⟨t18, h19, h13⟩ := bnd_inv h13
          refine cx_meet (τ := Bool) (fun t => [(0, (.fn 29 [] [(.ptr L0 K0 0 []), (.ptr L1 K1 0 [])])), (3, (.ref S.length 0 p5.length 0 p5.length false 37)), (4, (intTV p4)), (5, (intTV (p5.length : Int))), (6, (intTV p4)), (26, (boolTV t))]) (fun t => ([⟨(.row 37 (p5.map e37)), false⟩] :: (lows S [(L0, K0, ⟨(e42 x0), false⟩), (L1, K1, ⟨(e42 x1), false⟩)]))) (fun t => t18 = t) (fun _ => by simp [length_lows]) ?_ ?_
          · refine cx_reg rfl ?_
            refine rq (so_move rfl) rfl ?_
            refine rq (so_bin rfl rfl rfl rfl) rfl ?_
            refine rq (so_move rfl) rfl ?_
            rcases Bool.eq_false_or_eq_true (decide ((p5.length : Int) > 0)) with b21 | b21
            · replace h19 := ite_t h19 b21
              refine gy rfl rfl b21 ?_
              refine rq (so_move rfl) rfl ?_
              refine gy rfl rfl b21 ?_
              refine rq (so_move rfl) rfl ?_
              refine gy rfl rfl b21 ?_
              refine rq (so_bin rfl rfl rfl rfl) rfl ?_
              obtain ⟨w22, c23, h19⟩ := bnd_inv h19
              refine gy rfl rfl b21 ?_
              refine rq (so_ixR0 rfl rfl sl_24 (live_of (lk_own (length_lows _ _) rfl) (by simp [vers])) (idx_bnd c23 (by first | rfl | simp))) rfl ?_
              refine gy rfl rfl b21 ?_
              refine rq (so_faddr rfl fok_37_1 (live_of (lk_own (length_lows _ _) rfl) (by simp [vers]))) rfl ?_
              refine gy rfl rfl b21 ?_
              refine rq (so_load rfl (lk_own (length_lows _ _) rfl) (by simp [vers]) (gpr (map_at (idx_some c23).2.1) (gpf rfl gp0)) (fo_3 rfl)) rfl ?_
              refine gy rfl rfl b21 ?_
              refine rq (so_move rfl) rfl ?_
              refine gy rfl rfl b21 ?_
              refine rq (so_bin rfl rfl rfl rfl) rfl ?_
              refine rq (so_pick_t rfl b21 rfl) rfl ?_
              refine rx_nil ?_
              have e_ := some_inj h19; subst e_
              exact jk_n (w22.To == p4) rfl (wxs (subc (k := 0) rfl (subc (k := 3) rfl (subc (k := 4) rfl (subc (k := 5) rfl (subc (k := 6) rfl (subc (k := 26) rfl sub0)))))))
            · replace h19 := ite_f h19 b21
              refine gn rfl rfl b21 (dnone rfl) ?_
              refine gn rfl rfl b21 (dnone rfl) ?_
              refine gn rfl rfl b21 (dnone rfl) ?_
              refine gn rfl rfl b21 (dnone rfl) ?_
              refine gn rfl rfl b21 (dnone rfl) ?_
              refine gn rfl rfl b21 (dnone rfl) ?_
              refine gn rfl rfl b21 (dnone rfl) ?_
              refine gn rfl rfl b21 (dnone rfl) ?_
              refine rq (so_pick_f rfl b21 rfl) rfl ?_
              refine rx_nil ?_
              have e_ := some_inj h19; subst e_
              exact jk_n false rfl (wxs (subc (k := 0) rfl (subc (k := 3) rfl (subc (k := 4) rfl (subc (k := 5) rfl (subc (k := 6) rfl (subc (k := 26) rfl sub0)))))))
          · intro t20 ht
            rw [ht] at h13
            try dsimp only at h13 ⊢
            refine cx_cond rfl rfl (fun b24 => ?_) (fun b24 => ?_)
            · replace h13 := ite_t h13 b24
              refine cx_reg rfl ?_
              refine rq (so_move rfl) rfl ?_
              refine rq (so_move rfl) rfl ?_
              refine rq (so_bin rfl rfl rfl rfl) rfl ?_
              refine rq (so_move rfl) rfl ?_
              refine rq (so_bin rfl rfl rfl rfl) rfl ?_
              obtain ⟨w25, c26, h13⟩ := bnd_inv h13
              refine rq (so_ixR0 rfl rfl sl_24 (live_of (lk_own (length_lows _ _) rfl) (by simp [vers])) (idx_bnd c26 (by first | rfl | simp))) rfl ?_
              refine rq (so_faddr rfl fok_37_1 (live_of (lk_own (length_lows _ _) rfl) (by simp [vers]))) rfl ?_
              refine rs (so_store rfl rfl (lk_own (length_lows _ _) rfl) (by simp [vers]) rfl (gpr (map_at (idx_some c26).2.1) (gpf rfl gp0)) rfl (fo_3 rfl) (fo_3 rfl) (spM (x' := { w25 with To := (IntKind.wrap .i64 (p4 + 1)) }) (idx_some c26).2.1 (spf rfl sp0 (.succ .zero)) rfl) (up_own (length_lows _ _) .zero)) (by have := hB; omega) ?_
              refine rx_nil ?_
              refine kb_n ?_
              have e_ := some_inj h13; subst e_
              exact jk_n (p5.set ((IntKind.wrap .i64 ((p5.length : Int) - 1)).toNat) ({ w25 with To := (IntKind.wrap .i64 (p4 + 1)) })) rfl (WX.trans (wxeq (i := 3) (v' := (.ref S.length 0 ((p5.set ((IntKind.wrap .i64 ((p5.length : Int) - 1)).toNat) ({ w25 with To := (IntKind.wrap .i64 (p4 + 1)) })).length) 0 ((p5.set ((IntKind.wrap .i64 ((p5.length : Int) - 1)).toNat) ({ w25 with To := (IntKind.wrap .i64 (p4 + 1)) })).length) false 37)) rfl (by first | rfl | simp)) (wxs (subc (k := 0) rfl (subc (k := 3) rfl (subc (k := 6) rfl sub0)))))
            · replace h13 := ite_f h13 b24
              refine cx_reg rfl ?_
              refine rq (so_move rfl) rfl ?_
              refine rq (so_move rfl) rfl ?_
              refine rq (so_move rfl) rfl ?_
              refine rq (so_bin rfl rfl rfl rfl) rfl ?_
              refine rq (so_build rfl zero_37 sz_37 (.cons ft_37_0 (fo_3 rfl) .zero (.cons ft_37_1 (fo_3 rfl) (.succ .zero) .nil))) rfl ?_
              refine rq (so_to (so_bslice (l := [(e37 (⟨p4, (IntKind.wrap .i64 (p4 + 1))⟩ : S37))]) (ks := []) rfl sl_24 zero_37 (snapL_solid (solc (so_e37 (⟨p4, (IntKind.wrap .i64 (p4 + 1))⟩ : S37)) sol0)) rfl rfl (by decide) (fl_memc fo_37 (so_e37 (⟨p4, (IntKind.wrap .i64 (p4 + 1))⟩ : S37)) fl_mem0) rfl) (rfl : _ = TV.sl true 37 (List.map e37 [(⟨p4, (IntKind.wrap .i64 (p4 + 1))⟩ : S37)]))) rfl ?_
              obtain ⟨c27, h13⟩ := chk_inv h13
              refine rw' (so_appR (g := e37) (c := p5) (m := [(⟨p4, (IntKind.wrap .i64 (p4 + 1))⟩ : S37)]) rfl rfl (by rw [k_24]; decide) sl_24 (lk_own (length_lows _ _) rfl) (by simp) (by simp) (addends_of elems_sl) (so_e37) c27 (up_own (length_lows _ _) .zero)) (by have := hB; omega) rfl ?_
              refine rq (so_assign rfl) rfl ?_
              refine rx_nil ?_
              refine kb_n ?_
              have e_ := some_inj h13; subst e_
              exact jk_n (p5 ++ [(⟨p4, (IntKind.wrap .i64 (p4 + 1))⟩ : S37)]) rfl (wxs (subc (k := 0) rfl (subc (k := 3) rfl (subc (k := 6) rfl sub0))))
      · intro t14 ht
        rw [ht] at h7
        try dsimp only at h7 ⊢
        refine cx_reg rfl ?_
        refine rq (so_bin rfl rfl rfl rfl) rfl ?_
        refine rq (so_move rfl) rfl ?_
        refine rx_nil ?_
        have e_ := some_inj h7; subst e_
        exact lnext rfl (wxs (subc (k := 0) rfl (subc (k := 3) rfl (subc (k := 6) rfl sub0))))
    · replace h7 := ite_f h7 b11
      refine cx_exit ?_
      refine ks_x ?_
      have e_ := some_inj h7; subst e_
      have e_ := h8 _ rfl; subst e_
      refine ldone rfl ?_
      refine kb_e ?_
      have e_ := some_inj h2; subst e_
      exact jk_n p5 rfl (wxs (subc (k := 3) rfl sub0))
  · intro t3 ht
    rw [ht] at h
    try dsimp only at h ⊢
    refine cx_seq ?_
    refine cx_reg rfl ?_
    refine rq (so_move rfl) rfl ?_
    refine rq (so_assign rfl) rfl ?_
    refine rx_nil ?_
    refine kseq ?_
    refine cx_ret ?_
    have e_ := some_inj h; subst e_
    refine qx_ret (.inr rfl) [] (.tmp rfl .nil) (ret0 (snapL_of (sulc (su_ref (elems_all (lk_own (length_lows _ _) rfl) (by simp) (by simp))) sul0) rfl) (mk_own (length_lows _ _) rfl .zero mk0) (solc rfl sol0)) cor
/-- flagstone.traffic.Minus -/
noncomputable def F9 (x0 : List S37) (x1 : List S37) : Option (List S37) :=
  bnd (F25 [x0]) fun r1 => bnd (F25 [x1]) fun r3 => bnd (F26_2 r1 r3) fun r5 => some r5
theorem C9 {x0 : List S37} {x1 : List S37} {r : List S37} (h : F9 x0 x1 = some r) (S : Stk) : Con Proofs.Try.prog full 9 [(.sl false 37 (x0.map e37)), (.sl false 37 (x1.map e37))] S S.length (.sl false 37 (r.map e37)) [] S := by
  have hB : S.length ≤ S.length := Nat.le_refl _
  refine con_of' (n := 15) (rs := [.tmp 4]) (A := [(0, (.sl false 37 (x0.map e37))), (1, (.sl false 37 (x1.map e37)))]) Proofs.Try.func9 rfl rfl rfl rfl hB rfl ?_
  unfold F9 at h
  refine cx_seq ?_
  refine cx_reg rfl ?_
  refine rq (so_assign rfl) rfl ?_
  refine rx_nil ?_
  refine kseq ?_
  refine cx_seq ?_
  refine cx_reg rfl ?_
  refine rq (so_move rfl) rfl ?_
  refine rq (so_to (so_bslice (l := [(.sl false 37 (x0.map e37))]) (ks := []) rfl sl_51 zero_24 (snapL_solid (solc rfl sol0)) rfl rfl (by decide) (fl_memc (fo_24 rfl) rfl fl_mem0) rfl) (rfl : _ = TV.sl true 24 (List.map e24 [x0]))) rfl ?_
  obtain ⟨r1, c2, h⟩ := bnd_inv h
  refine rcp rfl rfl (con_cv (.cons (co1 rfl cvx) .nil) (C25 c2 _)) rfl ?_
  refine rq (so_move rfl) rfl ?_
  refine rq (so_to (so_bslice (l := [(.sl false 37 (x1.map e37))]) (ks := []) rfl sl_51 zero_24 (snapL_solid (solc rfl sol0)) rfl rfl (by decide) (fl_memc (fo_24 rfl) rfl fl_mem0) rfl) (rfl : _ = TV.sl true 24 (List.map e24 [x1]))) rfl ?_
  obtain ⟨r3, c4, h⟩ := bnd_inv h
  refine rcp rfl rfl (con_cv (.cons (co1 rfl cvx) .nil) (C25 c4 _)) rfl ?_
  refine rq (so_alloc (k := 0) zero_42 rfl rfl .nil) rfl ?_
  refine rq (so_alloc (k := 1) zero_42 rfl rfl (.cons .nil)) rfl ?_
  refine rs (so_store0 rfl rfl (lk_own rfl rfl) rfl rfl gp0 rfl rfl fo_42 fo_42 sp0 (up_own rfl .zero)) (Nat.le_refl _) ?_
  refine rs (so_store0 rfl rfl (lk_own rfl rfl) rfl rfl gp0 rfl rfl fo_42 fo_42 sp0 (up_own rfl (.succ .zero))) (Nat.le_refl _) ?_
  refine rx_nil ?_
  refine kseq ?_
  refine cx_seq ?_
  refine cx_reg rfl ?_
  refine rq (so_fn rfl rfl rfl) rfl ?_
  obtain ⟨r5, c6, h⟩ := bnd_inv h
  refine rc rfl rfl (con_lows (C26_2 c6 (lic (lk_own rfl rfl) (nqc (.inr (by decide)) nq0) (lic (lk_own rfl rfl) nq0 li0)) (by have := hB; first | omega | (simp only [length_lows, List.length_cons]; omega))) (.cons (.cons .nil (up_own rfl (.succ .zero))) (up_own rfl .zero))) (fun _ => Nat.le_refl _) rfl (by simp [length_lows]) rfl ?_
  refine rq (so_assign rfl) rfl ?_
  refine rx_nil ?_
  refine kseq ?_
  refine cx_ret ?_
  have e_ := some_inj h; subst e_
  refine qx_ret (.inr rfl) [] (.tmp rfl .nil) (ret0s (solc rfl sol0)) cor
noncomputable def B11_2 (x0 : List S37) (x1 : List S37) (p5 : Int) : Option (Stp (Int) (Bool ⊕ Unit)) :=
  if (decide (p5 < (x0.length : Int))) then (bnd (idx x0 p5) fun w12 => bnd (idx x1 p5) fun w14 => if (!((w12.From == w14.From) && ((w12.To == w14.To) && true))) then (some (.done (.inl false))) else (some (.next (IntKind.wrap .i64 (p5 + 1))))) else (some (.done (.inr ())))
/-- flagstone.flagstoneref6.SameSpans -/
noncomputable def F11 (x0 : List S37) (x1 : List S37) : Option (Bool) :=
  if ((x0.length : Int) != (x1.length : Int)) then (some false) else (bnd (α := Unit ⊕ Bool) (bnd (loopO (σ := Int) (ρ := Bool ⊕ Unit) (fun s => B11_2 x0 x1 s) 0) fun z9 => match z9 with | .inl a17 => (some (.inr a17)) | .inr a18 => (some (.inl ()))) fun z19 => match z19 with | .inl a20 => (some true) | .inr a21 => (some a21))
theorem C11 {x0 : List S37} {x1 : List S37} {r : Bool} (h : F11 x0 x1 = some r) (S : Stk) : Con Proofs.Try.prog full 11 [(.sl false 37 (x0.map e37)), (.sl false 37 (x1.map e37))] S S.length (boolTV r) [] S := by
  have hB : S.length ≤ S.length := Nat.le_refl _
  refine con_of' (n := 26) (rs := [.tmp 4]) (A := [(0, (.sl false 37 (x0.map e37))), (1, (.sl false 37 (x1.map e37)))]) Proofs.Try.func11 rfl rfl rfl rfl hB rfl ?_
  unfold F11 at h
  refine cx_seq ?_
  refine cx_reg rfl ?_
  refine rq (so_assign rfl) rfl ?_
  refine rx_nil ?_
  refine kseq ?_
  refine cx_seq ?_
  refine cx_seq ?_
  refine cx_reg rfl ?_
  refine rq (so_move rfl) rfl ?_
  refine rq (so_lenM rfl k_24) rfl ?_
  refine rq (so_move rfl) rfl ?_
  refine rq (so_lenM rfl k_24) rfl ?_
  refine rq (so_bin rfl rfl rfl rfl) rfl ?_
  refine rx_nil ?_
  refine kseq ?_
  refine cx_cond rfl rfl (fun b1 => ?_) (fun b1 => ?_)
  · replace h := ite_t h b1
    refine cx_seq ?_
    refine cx_reg rfl ?_
    refine rq (so_assign rfl) rfl ?_
    refine rx_nil ?_
    refine kseq ?_
    refine cx_ret ?_
    refine ks_r ?_
    have e_ := some_inj h; subst e_
    refine qx_ret (.inr rfl) [] (.tmp rfl .nil) (ret0s (solc rfl sol0)) cor
  · replace h := ite_f h b1
    refine cx_skip ?_
    refine kseq ?_
    obtain ⟨t2, h3, h⟩ := bnd_inv h
    refine cx_meet (τ := Unit) (fun t => []) (fun t => ([] :: S)) (fun t => t2 = (.inl t)) (fun _ => rfl) ?_ ?_
    · refine cx_seq ?_
      refine cx_reg rfl ?_
      refine rq (so_assign rfl) rfl ?_
      refine rx_nil ?_
      refine kseq ?_
      refine cx_block ?_
      obtain ⟨z9, h10, h3⟩ := bnd_inv h3
      refine cx_loop _ (fun s => [(0, (.sl false 37 (x0.map e37))), (1, (.sl false 37 (x1.map e37))), (5, (intTV s))]) (fun s => ([] :: S)) h10 (fun _ => rfl) (wxs (subc (k := 0) rfl (subc (k := 1) rfl (subc (k := 5) rfl sub0)))) ?_
      rintro p5 y6 h7 h8
      try dsimp only at h7 ⊢
      unfold B11_2 at h7
      refine cx_seq ?_
      refine cx_seq ?_
      refine cx_reg rfl ?_
      refine rq (so_move rfl) rfl ?_
      refine rq (so_move rfl) rfl ?_
      refine rq (so_lenM rfl k_24) rfl ?_
      refine rq (so_bin rfl rfl rfl rfl) rfl ?_
      refine rx_nil ?_
      refine kseq ?_
      refine cx_cond rfl rfl (fun b11 => ?_) (fun b11 => ?_)
      · replace h7 := ite_t h7 b11
        refine cx_skip ?_
        refine kseq ?_
        refine cx_seq ?_
        refine cx_block ?_
        refine cx_seq ?_
        refine cx_draw (b := #[0, 0, 3, 7, 0, 0, 48, 112, 255]) rfl (by kernel_rfl) ?_
        refine dz (so_move rfl) rfl rfl ?_
        refine dz (so_move rfl) rfl rfl ?_
        obtain ⟨w12, c13, h7⟩ := bnd_inv h7
        refine dz (so_ixM rfl rfl sl_24 c13) rfl rfl ?_
        refine dq (so_loadE rfl fo_37) rfl rfl rfl ?_
        refine dz (so_move rfl) rfl rfl ?_
        refine dz (so_move rfl) rfl rfl ?_
        obtain ⟨w14, c15, h7⟩ := bnd_inv h7
        refine dz (so_ixM rfl rfl sl_24 c15) rfl rfl ?_
        refine dq (so_loadE rfl fo_37) rfl rfl rfl ?_
        refine dz (aggeq_37_neq (a := w12) (b := w14) rfl rfl) rfl rfl ?_
        refine dx_nil ?_
        refine kseq ?_
        refine cx_cond rfl rfl (fun b16 => ?_) (fun b16 => ?_)
        · replace h7 := ite_t h7 b16
          refine cx_seq ?_
          refine cx_reg rfl ?_
          refine rq (so_assign rfl) rfl ?_
          refine rx_nil ?_
          refine kseq ?_
          refine cx_ret ?_
          refine kb_r ?_
          refine ks_r ?_
          have e_ := some_inj h7; subst e_
          have e_ := h8 _ rfl; subst e_
          refine lret rfl ?_
          refine kb_r ?_
          have e_ := some_inj h3; subst e_
          refine jk_r ?_
          have e_ := some_inj h; subst e_
          refine qx_ret (.inr rfl) [] (.tmp rfl .nil) (ret0s (solc rfl sol0)) cor
        · replace h7 := ite_f h7 b16
          refine cx_skip ?_
          refine kb_n ?_
          refine kseq ?_
          refine cx_reg rfl ?_
          refine rq (so_move rfl) rfl ?_
          refine rq (so_bin rfl rfl rfl rfl) rfl ?_
          refine rq (so_assign rfl) rfl ?_
          refine rx_nil ?_
          have e_ := some_inj h7; subst e_
          exact lnext rfl (wxs (subc (k := 0) rfl (subc (k := 1) rfl (subc (k := 5) rfl sub0))))
      · replace h7 := ite_f h7 b11
        refine cx_exit ?_
        refine ks_x ?_
        have e_ := some_inj h7; subst e_
        have e_ := h8 _ rfl; subst e_
        refine ldone rfl ?_
        refine kb_e ?_
        have e_ := some_inj h3; subst e_
        exact jk_n () rfl (wxs sub0)
    · intro t4 ht
      rw [ht] at h
      try dsimp only at h ⊢
      refine cx_seq ?_
      refine cx_reg rfl ?_
      refine rq (so_assign rfl) rfl ?_
      refine rx_nil ?_
      refine kseq ?_
      refine cx_ret ?_
      have e_ := some_inj h; subst e_
      refine qx_ret (.inr rfl) [] (.tmp rfl .nil) (ret0s (solc rfl sol0)) cor
/-- flagstone.flagstonelaw14.TrafficAlgebra -/
noncomputable def F3 (x0 : List UInt8) (x1 : List UInt8) (x2 : List UInt8) : Option (Bool) :=
  bnd (F5) fun r1 => if (!r1) then (some false) else (bnd (F6 x0) fun r4 => bnd (F6 x1) fun r6 => bnd (F6 x2) fun r8 => bnd (F7 r4 r6) fun r10 => bnd (F8 r4 r6) fun r12 => bnd (F9 r4 r6) fun r14 => bnd (α := Bool) (bnd (F10 r10) fun r19 => bnd (F10 r12) fun r21 => bnd (F10 r4) fun r23 => bnd (F10 r6) fun r25 => if ((IntKind.wrap .i64 (r19 + r21)) != (IntKind.wrap .i64 (r23 + r25))) then (some true) else (bnd (F10 r12) fun r28 => bnd (F10 r14) fun r30 => bnd (F10 r4) fun r32 => if ((IntKind.wrap .i64 (r28 + r30)) != r32) then (some true) else (bnd (F8 r14 r6) fun r35 => some (decide ((r35.length : Int) > 0))))) fun t18 => if t18 then (some false) else (bnd (α := Bool) (bnd (F7 r14 r12) fun r41 => bnd (F12 r4) fun r43 => bnd (F11 r41 r43) fun r45 => if r45 then (bnd (F7 r10 r8) fun r48 => bnd (F7 r6 r8) fun r50 => bnd (F7 r4 r50) fun r52 => bnd (F11 r48 r52) fun r54 => if r54 then (bnd (F7 r6 r8) fun r57 => bnd (F9 r4 r57) fun r59 => bnd (F9 r4 r8) fun r61 => bnd (F8 r14 r61) fun r63 => bnd (F11 r59 r63) fun r65 => some r65) else (some false)) else (some false)) fun t40 => some t40))
theorem C3 {x0 : List UInt8} {x1 : List UInt8} {x2 : List UInt8} {r : Bool} (h : F3 x0 x1 x2 = some r) (S : Stk) : Con Proofs.Try.prog full 3 [(.sl false 5 (x0.map byteTV)), (.sl false 5 (x1.map byteTV)), (.sl false 5 (x2.map byteTV))] S S.length (boolTV r) [] S := by
  have hB : S.length ≤ S.length := Nat.le_refl _
  refine con_of' (n := 88) (rs := [.tmp 6]) (A := [(0, (.sl false 5 (x0.map byteTV))), (1, (.sl false 5 (x1.map byteTV))), (2, (.sl false 5 (x2.map byteTV)))]) Proofs.Try.func3 rfl rfl rfl rfl hB rfl ?_
  unfold F3 at h
  refine cx_seq ?_
  refine cx_reg rfl ?_
  refine rq (so_assign rfl) rfl ?_
  refine rx_nil ?_
  refine kseq ?_
  refine cx_seq ?_
  refine cx_seq ?_
  refine cx_reg rfl ?_
  obtain ⟨r1, c2, h⟩ := bnd_inv h
  refine rcp rfl rfl (C5 c2 _) rfl ?_
  refine rq (so_un rfl rfl rfl) rfl ?_
  refine rx_nil ?_
  refine kseq ?_
  refine cx_cond rfl rfl (fun b3 => ?_) (fun b3 => ?_)
  · replace h := ite_t h b3
    refine cx_seq ?_
    refine cx_reg rfl ?_
    refine rq (so_assign rfl) rfl ?_
    refine rx_nil ?_
    refine kseq ?_
    refine cx_ret ?_
    refine ks_r ?_
    have e_ := some_inj h; subst e_
    refine qx_ret (.inr rfl) [] (.tmp rfl .nil) (ret0s (solc rfl sol0)) cor
  · replace h := ite_f h b3
    refine cx_skip ?_
    refine kseq ?_
    refine cx_seq ?_
    refine cx_reg rfl ?_
    refine rq (so_move rfl) rfl ?_
    obtain ⟨r4, c5, h⟩ := bnd_inv h
    refine rcp rfl rfl (C6 c5 _) rfl ?_
    refine rq (so_move rfl) rfl ?_
    obtain ⟨r6, c7, h⟩ := bnd_inv h
    refine rcp rfl rfl (C6 c7 _) rfl ?_
    refine rq (so_move rfl) rfl ?_
    obtain ⟨r8, c9, h⟩ := bnd_inv h
    refine rcp rfl rfl (C6 c9 _) rfl ?_
    refine rq (so_assign rfl) rfl ?_
    refine rq (so_assign rfl) rfl ?_
    refine rq (so_assign rfl) rfl ?_
    refine rx_nil ?_
    refine kseq ?_
    refine cx_seq ?_
    refine cx_reg rfl ?_
    refine rq (so_move rfl) rfl ?_
    refine rq (so_move rfl) rfl ?_
    obtain ⟨r10, c11, h⟩ := bnd_inv h
    refine rcp rfl rfl (C7 c11 _) rfl ?_
    refine rq (so_move rfl) rfl ?_
    refine rq (so_move rfl) rfl ?_
    obtain ⟨r12, c13, h⟩ := bnd_inv h
    refine rcp rfl rfl (C8 c13 _) rfl ?_
    refine rq (so_move rfl) rfl ?_
    refine rq (so_move rfl) rfl ?_
    obtain ⟨r14, c15, h⟩ := bnd_inv h
    refine rcp rfl rfl (C9 c15 _) rfl ?_
    refine rq (so_assign rfl) rfl ?_
    refine rq (so_assign rfl) rfl ?_
    refine rq (so_assign rfl) rfl ?_
    refine rx_nil ?_
    refine kseq ?_
    refine cx_seq ?_
    obtain ⟨t16, h17, h⟩ := bnd_inv h
    refine cx_meet (τ := Bool) (fun t => [(7, (.sl false 37 (r4.map e37))), (8, (.sl false 37 (r6.map e37))), (9, (.sl false 37 (r8.map e37))), (10, (.sl false 37 (r10.map e37))), (11, (.sl false 37 (r12.map e37))), (12, (.sl false 37 (r14.map e37))), (57, (boolTV t))]) (fun t => ([] :: S)) (fun t => t16 = t) (fun _ => rfl) ?_ ?_
    · refine cx_reg rfl ?_
      refine rq (so_move rfl) rfl ?_
      obtain ⟨r19, c20, h17⟩ := bnd_inv h17
      refine rcp rfl rfl (C10 c20 _) rfl ?_
      refine rq (so_move rfl) rfl ?_
      obtain ⟨r21, c22, h17⟩ := bnd_inv h17
      refine rcp rfl rfl (C10 c22 _) rfl ?_
      refine rq (so_bin rfl rfl rfl rfl) rfl ?_
      refine rq (so_move rfl) rfl ?_
      obtain ⟨r23, c24, h17⟩ := bnd_inv h17
      refine rcp rfl rfl (C10 c24 _) rfl ?_
      refine rq (so_move rfl) rfl ?_
      obtain ⟨r25, c26, h17⟩ := bnd_inv h17
      refine rcp rfl rfl (C10 c26 _) rfl ?_
      refine rq (so_bin rfl rfl rfl rfl) rfl ?_
      refine rq (so_bin rfl rfl rfl rfl) rfl ?_
      refine rq (so_move rfl) rfl ?_
      rcases Bool.eq_false_or_eq_true ((IntKind.wrap .i64 (r19 + r21)) != (IntKind.wrap .i64 (r23 + r25))) with b27 | b27
      · replace h17 := ite_t h17 b27
        refine gn rfl rfl b27 (dnone rfl) ?_
        refine gn rfl rfl b27 (dnone rfl) ?_
        refine gn rfl rfl b27 (dnone rfl) ?_
        refine gn rfl rfl b27 (dnone rfl) ?_
        refine gn rfl rfl b27 (dnone rfl) ?_
        refine gn rfl rfl b27 (dnone rfl) ?_
        refine gn rfl rfl b27 (dnone rfl) ?_
        refine gn rfl rfl b27 (dnone rfl) ?_
        refine rq (so_pick_t rfl b27 rfl) rfl ?_
        refine rq (so_move rfl) rfl ?_
        refine gn rfl rfl rfl (dnone rfl) ?_
        refine gn rfl rfl rfl (dnone rfl) ?_
        refine gn rfl rfl rfl (dnone rfl) ?_
        refine gn rfl rfl rfl (dnone rfl) ?_
        refine gn rfl rfl rfl (dnone rfl) ?_
        refine rq (so_pick_t rfl rfl rfl) rfl ?_
        refine rx_nil ?_
        have e_ := some_inj h17; subst e_
        exact jk_n true rfl (wxs (subc (k := 7) rfl (subc (k := 8) rfl (subc (k := 9) rfl (subc (k := 10) rfl (subc (k := 11) rfl (subc (k := 12) rfl (subc (k := 57) rfl sub0))))))))
      · replace h17 := ite_f h17 b27
        refine gy rfl rfl b27 ?_
        refine rq (so_move rfl) rfl ?_
        obtain ⟨r28, c29, h17⟩ := bnd_inv h17
        refine gy rfl rfl b27 ?_
        refine rcp rfl rfl (C10 c29 _) rfl ?_
        refine gy rfl rfl b27 ?_
        refine rq (so_move rfl) rfl ?_
        obtain ⟨r30, c31, h17⟩ := bnd_inv h17
        refine gy rfl rfl b27 ?_
        refine rcp rfl rfl (C10 c31 _) rfl ?_
        refine gy rfl rfl b27 ?_
        refine rq (so_bin rfl rfl rfl rfl) rfl ?_
        refine gy rfl rfl b27 ?_
        refine rq (so_move rfl) rfl ?_
        obtain ⟨r32, c33, h17⟩ := bnd_inv h17
        refine gy rfl rfl b27 ?_
        refine rcp rfl rfl (C10 c33 _) rfl ?_
        refine gy rfl rfl b27 ?_
        refine rq (so_bin rfl rfl rfl rfl) rfl ?_
        refine rq (so_pick_f rfl b27 rfl) rfl ?_
        refine rq (so_move rfl) rfl ?_
        rcases Bool.eq_false_or_eq_true ((IntKind.wrap .i64 (r28 + r30)) != r32) with b34 | b34
        · replace h17 := ite_t h17 b34
          refine gn rfl rfl b34 (dnone rfl) ?_
          refine gn rfl rfl b34 (dnone rfl) ?_
          refine gn rfl rfl b34 (dnone rfl) ?_
          refine gn rfl rfl b34 (dnone rfl) ?_
          refine gn rfl rfl b34 (dnone rfl) ?_
          refine rq (so_pick_t rfl b34 rfl) rfl ?_
          refine rx_nil ?_
          have e_ := some_inj h17; subst e_
          exact jk_n true rfl (wxs (subc (k := 7) rfl (subc (k := 8) rfl (subc (k := 9) rfl (subc (k := 10) rfl (subc (k := 11) rfl (subc (k := 12) rfl (subc (k := 57) rfl sub0))))))))
        · replace h17 := ite_f h17 b34
          refine gy rfl rfl b34 ?_
          refine rq (so_move rfl) rfl ?_
          refine gy rfl rfl b34 ?_
          refine rq (so_move rfl) rfl ?_
          obtain ⟨r35, c36, h17⟩ := bnd_inv h17
          refine gy rfl rfl b34 ?_
          refine rcp rfl rfl (C8 c36 _) rfl ?_
          refine gy rfl rfl b34 ?_
          refine rq (so_lenM rfl k_24) rfl ?_
          refine gy rfl rfl b34 ?_
          refine rq (so_bin rfl rfl rfl rfl) rfl ?_
          refine rq (so_pick_f rfl b34 rfl) rfl ?_
          refine rx_nil ?_
          have e_ := some_inj h17; subst e_
          exact jk_n (decide ((r35.length : Int) > 0)) rfl (wxs (subc (k := 7) rfl (subc (k := 8) rfl (subc (k := 9) rfl (subc (k := 10) rfl (subc (k := 11) rfl (subc (k := 12) rfl (subc (k := 57) rfl sub0))))))))
    · intro t18 ht
      rw [ht] at h
      try dsimp only at h ⊢
      refine cx_cond rfl rfl (fun b37 => ?_) (fun b37 => ?_)
      · replace h := ite_t h b37
        refine cx_seq ?_
        refine cx_reg rfl ?_
        refine rq (so_assign rfl) rfl ?_
        refine rx_nil ?_
        refine kseq ?_
        refine cx_ret ?_
        refine ks_r ?_
        have e_ := some_inj h; subst e_
        refine qx_ret (.inr rfl) [] (.tmp rfl .nil) (ret0s (solc rfl sol0)) cor
      · replace h := ite_f h b37
        refine cx_skip ?_
        refine kseq ?_
        obtain ⟨t38, h39, h⟩ := bnd_inv h
        refine cx_meet (τ := Bool) (fun t => [(6, (boolTV t))]) (fun t => ([] :: S)) (fun t => t38 = t) (fun _ => rfl) ?_ ?_
        · refine cx_reg rfl ?_
          refine rq (so_move rfl) rfl ?_
          refine rq (so_move rfl) rfl ?_
          obtain ⟨r41, c42, h39⟩ := bnd_inv h39
          refine rcp rfl rfl (C7 c42 _) rfl ?_
          refine rq (so_move rfl) rfl ?_
          obtain ⟨r43, c44, h39⟩ := bnd_inv h39
          refine rcp rfl rfl (C12 c44 _) rfl ?_
          obtain ⟨r45, c46, h39⟩ := bnd_inv h39
          refine rcp rfl rfl (C11 c46 _) rfl ?_
          refine rq (so_move rfl) rfl ?_
          rcases Bool.eq_false_or_eq_true r45 with b47 | b47
          · replace h39 := ite_t h39 b47
            refine gy rfl rfl b47 ?_
            refine rq (so_move rfl) rfl ?_
            refine gy rfl rfl b47 ?_
            refine rq (so_move rfl) rfl ?_
            obtain ⟨r48, c49, h39⟩ := bnd_inv h39
            refine gy rfl rfl b47 ?_
            refine rcp rfl rfl (C7 c49 _) rfl ?_
            refine gy rfl rfl b47 ?_
            refine rq (so_move rfl) rfl ?_
            refine gy rfl rfl b47 ?_
            refine rq (so_move rfl) rfl ?_
            refine gy rfl rfl b47 ?_
            refine rq (so_move rfl) rfl ?_
            obtain ⟨r50, c51, h39⟩ := bnd_inv h39
            refine gy rfl rfl b47 ?_
            refine rcp rfl rfl (C7 c51 _) rfl ?_
            obtain ⟨r52, c53, h39⟩ := bnd_inv h39
            refine gy rfl rfl b47 ?_
            refine rcp rfl rfl (C7 c53 _) rfl ?_
            obtain ⟨r54, c55, h39⟩ := bnd_inv h39
            refine gy rfl rfl b47 ?_
            refine rcp rfl rfl (C11 c55 _) rfl ?_
            refine rq (so_pick_t rfl b47 rfl) rfl ?_
            refine rq (so_move rfl) rfl ?_
            rcases Bool.eq_false_or_eq_true r54 with b56 | b56
            · replace h39 := ite_t h39 b56
              refine gy rfl rfl b56 ?_
              refine rq (so_move rfl) rfl ?_
              refine gy rfl rfl b56 ?_
              refine rq (so_move rfl) rfl ?_
              refine gy rfl rfl b56 ?_
              refine rq (so_move rfl) rfl ?_
              obtain ⟨r57, c58, h39⟩ := bnd_inv h39
              refine gy rfl rfl b56 ?_
              refine rcp rfl rfl (C7 c58 _) rfl ?_
              obtain ⟨r59, c60, h39⟩ := bnd_inv h39
              refine gy rfl rfl b56 ?_
              refine rcp rfl rfl (C9 c60 _) rfl ?_
              refine gy rfl rfl b56 ?_
              refine rq (so_move rfl) rfl ?_
              refine gy rfl rfl b56 ?_
              refine rq (so_move rfl) rfl ?_
              refine gy rfl rfl b56 ?_
              refine rq (so_move rfl) rfl ?_
              obtain ⟨r61, c62, h39⟩ := bnd_inv h39
              refine gy rfl rfl b56 ?_
              refine rcp rfl rfl (C9 c62 _) rfl ?_
              obtain ⟨r63, c64, h39⟩ := bnd_inv h39
              refine gy rfl rfl b56 ?_
              refine rcp rfl rfl (C8 c64 _) rfl ?_
              obtain ⟨r65, c66, h39⟩ := bnd_inv h39
              refine gy rfl rfl b56 ?_
              refine rcp rfl rfl (C11 c66 _) rfl ?_
              refine rq (so_pick_t rfl b56 rfl) rfl ?_
              refine rq (so_assign rfl) rfl ?_
              refine rx_nil ?_
              have e_ := some_inj h39; subst e_
              exact jk_n r65 rfl (wxs (subc (k := 6) rfl sub0))
            · replace h39 := ite_f h39 b56
              refine gn rfl rfl b56 (dnone rfl) ?_
              refine gn rfl rfl b56 (dnone rfl) ?_
              refine gn rfl rfl b56 (dnone rfl) ?_
              refine gn rfl rfl b56 (dnone rfl) ?_
              refine gn rfl rfl b56 (dnone rfl) ?_
              refine gn rfl rfl b56 (dnone rfl) ?_
              refine gn rfl rfl b56 (dnone rfl) ?_
              refine gn rfl rfl b56 (dnone rfl) ?_
              refine gn rfl rfl b56 (dnone rfl) ?_
              refine gn rfl rfl b56 (dnone rfl) ?_
              refine gn rfl rfl b56 (dnone rfl) ?_
              refine rq (so_pick_f rfl b56 rfl) rfl ?_
              refine rq (so_assign rfl) rfl ?_
              refine rx_nil ?_
              have e_ := some_inj h39; subst e_
              exact jk_n false rfl (wxs (subc (k := 6) rfl sub0))
          · replace h39 := ite_f h39 b47
            refine gn rfl rfl b47 (dnone rfl) ?_
            refine gn rfl rfl b47 (dnone rfl) ?_
            refine gn rfl rfl b47 (dnone rfl) ?_
            refine gn rfl rfl b47 (dnone rfl) ?_
            refine gn rfl rfl b47 (dnone rfl) ?_
            refine gn rfl rfl b47 (dnone rfl) ?_
            refine gn rfl rfl b47 (dnone rfl) ?_
            refine gn rfl rfl b47 (dnone rfl) ?_
            refine gn rfl rfl b47 (dnone rfl) ?_
            refine rq (so_pick_f rfl b47 rfl) rfl ?_
            refine rq (so_move rfl) rfl ?_
            refine gn rfl rfl rfl (dnone rfl) ?_
            refine gn rfl rfl rfl (dnone rfl) ?_
            refine gn rfl rfl rfl (dnone rfl) ?_
            refine gn rfl rfl rfl (dnone rfl) ?_
            refine gn rfl rfl rfl (dnone rfl) ?_
            refine gn rfl rfl rfl (dnone rfl) ?_
            refine gn rfl rfl rfl (dnone rfl) ?_
            refine gn rfl rfl rfl (dnone rfl) ?_
            refine gn rfl rfl rfl (dnone rfl) ?_
            refine gn rfl rfl rfl (dnone rfl) ?_
            refine gn rfl rfl rfl (dnone rfl) ?_
            refine rq (so_pick_f rfl rfl rfl) rfl ?_
            refine rq (so_assign rfl) rfl ?_
            refine rx_nil ?_
            have e_ := some_inj h39; subst e_
            exact jk_n false rfl (wxs (subc (k := 6) rfl sub0))
        · intro t40 ht
          rw [ht] at h
          try dsimp only at h ⊢
          refine cx_ret ?_
          have e_ := some_inj h; subst e_
          refine qx_ret (.inr rfl) [] (.tmp rfl .nil) (ret0s (solc rfl sol0)) cor
/-- flagstone.flagstonedraw.Mod -/
noncomputable def F13 (x0 : Int) (x1 : Int) : Option (Int) :=
  chk (x1 ≠ 0) <| bnd (α := Int) (if (decide ((x0.tmod x1) < 0)) then (some (IntKind.wrap .i64 ((x0.tmod x1) + x1))) else (some (x0.tmod x1))) fun t4 => some t4
theorem C13 {x0 : Int} {x1 : Int} {r : Int} (h : F13 x0 x1 = some r) (S : Stk) : Con Proofs.Try.prog full 13 [(intTV x0), (intTV x1)] S S.length (intTV r) [] S := by
  have hB : S.length ≤ S.length := Nat.le_refl _
  refine con_of' (n := 14) (rs := [.tmp 4]) (A := [(0, (intTV x0)), (1, (intTV x1))]) Proofs.Try.func13 rfl rfl rfl rfl hB rfl ?_
  unfold F13 at h
  refine cx_seq ?_
  refine cx_reg rfl ?_
  refine rq (so_assign rfl) rfl ?_
  refine rx_nil ?_
  refine kseq ?_
  refine cx_seq ?_
  refine cx_reg rfl ?_
  refine rq (so_move rfl) rfl ?_
  refine rq (so_move rfl) rfl ?_
  obtain ⟨c1, h⟩ := chk_inv h
  refine rq (so_rem rfl rfl c1) rfl ?_
  refine rq (so_assign rfl) rfl ?_
  refine rx_nil ?_
  refine kseq ?_
  obtain ⟨t2, h3, h⟩ := bnd_inv h
  refine cx_meet (τ := Int) (fun t => [(0, (intTV t))]) (fun t => ([] :: S)) (fun t => t2 = t) (fun _ => rfl) ?_ ?_
  · refine cx_seq ?_
    refine cx_reg rfl ?_
    refine rq (so_move rfl) rfl ?_
    refine rq (so_bin rfl rfl rfl rfl) rfl ?_
    refine rx_nil ?_
    refine kseq ?_
    refine cx_cond rfl rfl (fun b5 => ?_) (fun b5 => ?_)
    · replace h3 := ite_t h3 b5
      refine cx_reg rfl ?_
      refine rq (so_move rfl) rfl ?_
      refine rq (so_move rfl) rfl ?_
      refine rq (so_bin rfl rfl rfl rfl) rfl ?_
      refine rq (so_assign rfl) rfl ?_
      refine rx_nil ?_
      have e_ := some_inj h3; subst e_
      exact jk_n (IntKind.wrap .i64 ((x0.tmod x1) + x1)) rfl (wxs (subc (k := 0) rfl sub0))
    · replace h3 := ite_f h3 b5
      refine cx_skip ?_
      have e_ := some_inj h3; subst e_
      exact jk_n (x0.tmod x1) rfl (wxs (subc (k := 0) rfl sub0))
  · intro t4 ht
    rw [ht] at h
    try dsimp only at h ⊢
    refine cx_seq ?_
    refine cx_reg rfl ?_
    refine rq (so_move rfl) rfl ?_
    refine rq (so_assign rfl) rfl ?_
    refine rx_nil ?_
    refine kseq ?_
    refine cx_ret ?_
    have e_ := some_inj h; subst e_
    refine qx_ret (.inr rfl) [] (.tmp rfl .nil) (ret0s (solc rfl sol0)) cor
noncomputable def B31_13 (x0 : List S37) (p4 : Int) (p17 : Int) (p18 : List Bool) : Option (Stp (Int × (List Bool)) (List Bool)) :=
  bnd (idx x0 p4) fun w24 => if (decide (p17 < (min w24.To 10000))) then (bnd (idx p18 p17) fun w27 => some (.next ((IntKind.wrap .i64 (p17 + 1)), (p18.set p17.toNat true)))) else (some (.done p18))
noncomputable def B31_14 (x0 : List S37) (p4 : Int) (p5 : List Bool) : Option (Stp (Int × (List Bool)) (List Bool)) :=
  if (decide (p4 < (x0.length : Int))) then (bnd (α := List Bool) (bnd (idx x0 p4) fun w15 => bnd (loopO (σ := Int × (List Bool)) (ρ := List Bool) (fun s => B31_13 x0 p4 s.1 s.2) ((max w15.From 0), p5)) fun z22 => some z22) fun t14 => some (.next ((IntKind.wrap .i64 (p4 + 1)), t14))) else (some (.done p5))
/-- flagstone.flagstoneref14.Set -/
noncomputable def F31 (x0 : List S37) : Option (List Bool) :=
  bnd (α := List Bool) (bnd (loopO (σ := Int × (List Bool)) (ρ := List Bool) (fun s => B31_14 x0 s.1 s.2) (0, (List.replicate 10000 (false : Bool)))) fun z9 => some z9) fun t3 => some t3
theorem C31 {x0 : List S37} {r : List Bool} (h : F31 x0 = some r) (S : Stk) : Con Proofs.Try.prog full 31 [(.sl false 37 (x0.map e37))] S S.length (.ref S.length 0 r.length 0 r.length false 4) [⟨(.row 4 (r.map boolTV)), false⟩] S := by
  have hB : S.length ≤ S.length := Nat.le_refl _
  refine con_of' (n := 33) (rs := [.tmp 2]) (A := [(0, (.sl false 37 (x0.map e37)))]) Proofs.Try.func31 rfl rfl rfl rfl hB rfl ?_
  unfold F31 at h
  refine cx_seq ?_
  refine cx_reg rfl ?_
  refine rq (so_assign rfl) rfl ?_
  refine rx_nil ?_
  refine kseq ?_
  refine cx_seq ?_
  refine cx_reg rfl ?_
  refine rq (so_makeE (k := 0) (v := false) rfl rfl sl_47 zero_4 (by decide) rfl rfl .nil) rfl ?_
  refine rq (so_assign rfl) rfl ?_
  refine rx_nil ?_
  refine kseq ?_
  obtain ⟨t1, h2, h⟩ := bnd_inv h
  refine cx_meet (τ := List Bool) (fun t => [(3, (.ref S.length 0 t.length 0 t.length true 4))]) (fun t => ([⟨(.row 4 (t.map boolTV)), false⟩] :: S)) (fun t => t1 = t) (fun _ => rfl) ?_ ?_
  · refine cx_seq ?_
    refine cx_reg rfl ?_
    refine rq (so_assign rfl) rfl ?_
    refine rx_nil ?_
    refine kseq ?_
    refine cx_block ?_
    obtain ⟨z9, h10, h2⟩ := bnd_inv h2
    refine cx_loop _ (fun s => [(0, (.sl false 37 (x0.map e37))), (3, (.ref S.length 0 s.2.length 0 s.2.length true 4)), (4, (intTV s.1))]) (fun s => ([⟨(.row 4 (s.2.map boolTV)), false⟩] :: S)) h10 (fun _ => rfl) (wxs (subc (k := 0) rfl (subc (k := 3) rfl (subc (k := 4) rfl sub0)))) ?_
    rintro ⟨p4, p5⟩ y6 h7 h8
    try dsimp only at h7 ⊢
    unfold B31_14 at h7
    refine cx_seq ?_
    refine cx_seq ?_
    refine cx_reg rfl ?_
    refine rq (so_move rfl) rfl ?_
    refine rq (so_move rfl) rfl ?_
    refine rq (so_lenM rfl k_24) rfl ?_
    refine rq (so_bin rfl rfl rfl rfl) rfl ?_
    refine rx_nil ?_
    refine kseq ?_
    refine cx_cond rfl rfl (fun b11 => ?_) (fun b11 => ?_)
    · replace h7 := ite_t h7 b11
      refine cx_skip ?_
      refine kseq ?_
      obtain ⟨t12, h13, h7⟩ := bnd_inv h7
      refine cx_meet (τ := List Bool) (fun t => [(0, (.sl false 37 (x0.map e37))), (3, (.ref S.length 0 t.length 0 t.length true 4)), (4, (intTV p4))]) (fun t => ([⟨(.row 4 (t.map boolTV)), false⟩] :: S)) (fun t => t12 = t) (fun _ => rfl) ?_ ?_
      · refine cx_block ?_
        refine cx_seq ?_
        refine cx_reg rfl ?_
        refine rq (so_move rfl) rfl ?_
        refine rq (so_move rfl) rfl ?_
        obtain ⟨w15, c16, h13⟩ := bnd_inv h13
        refine rq (so_ixM rfl rfl sl_24 c16) rfl ?_
        refine rq (so_faddrE rfl fok_37_0 rfl) rfl ?_
        refine rq (so_loadE rfl (fo_3 rfl)) rfl ?_
        refine rq (so_max rfl rfl) rfl ?_
        refine rq (so_assign rfl) rfl ?_
        refine rx_nil ?_
        refine kseq ?_
        refine cx_block ?_
        obtain ⟨z22, h23, h13⟩ := bnd_inv h13
        refine cx_loop _ (fun s => [(0, (.sl false 37 (x0.map e37))), (3, (.ref S.length 0 s.2.length 0 s.2.length true 4)), (4, (intTV p4)), (5, (intTV s.1))]) (fun s => ([⟨(.row 4 (s.2.map boolTV)), false⟩] :: S)) h23 (fun _ => rfl) (wxs (subc (k := 0) rfl (subc (k := 3) rfl (subc (k := 4) rfl (subc (k := 5) rfl sub0))))) ?_
        rintro ⟨p17, p18⟩ y19 h20 h21
        try dsimp only at h20 ⊢
        unfold B31_13 at h20
        refine cx_seq ?_
        refine cx_seq ?_
        refine cx_reg rfl ?_
        refine rq (so_move rfl) rfl ?_
        refine rq (so_move rfl) rfl ?_
        refine rq (so_move rfl) rfl ?_
        obtain ⟨w24, c25, h20⟩ := bnd_inv h20
        refine rq (so_ixM rfl rfl sl_24 c25) rfl ?_
        refine rq (so_faddrE rfl fok_37_1 rfl) rfl ?_
        refine rq (so_loadE rfl (fo_3 rfl)) rfl ?_
        refine rq (so_min rfl rfl) rfl ?_
        refine rq (so_bin rfl rfl rfl rfl) rfl ?_
        refine rx_nil ?_
        refine kseq ?_
        refine cx_cond rfl rfl (fun b26 => ?_) (fun b26 => ?_)
        · replace h20 := ite_t h20 b26
          refine cx_skip ?_
          refine kseq ?_
          refine cx_seq ?_
          refine cx_block ?_
          refine cx_reg rfl ?_
          refine rq (so_move rfl) rfl ?_
          refine rq (so_move rfl) rfl ?_
          obtain ⟨w27, c28, h20⟩ := bnd_inv h20
          refine rq (so_ixR0 rfl rfl sl_47 (live_of (lk_own rfl rfl) (by simp [vers])) (idx_bnd c28 (by first | rfl | simp))) rfl ?_
          refine rs (so_store rfl rfl (lk_own rfl rfl) (by simp [vers]) rfl (gpr (map_at (idx_some c28).2.1) gp0) rfl (fo_4 rfl) (fo_4 rfl) (spM (x' := true) (idx_some c28).2.1 sp0 rfl) (up_own rfl .zero)) (Nat.le_refl _) ?_
          refine rx_nil ?_
          refine kb_n ?_
          refine kseq ?_
          refine cx_reg rfl ?_
          refine rq (so_move rfl) rfl ?_
          refine rq (so_bin rfl rfl rfl rfl) rfl ?_
          refine rq (so_assign rfl) rfl ?_
          refine rx_nil ?_
          have e_ := some_inj h20; subst e_
          exact lnext rfl (WX.trans (wxeq (i := 3) (v' := (.ref S.length 0 ((p18.set p17.toNat true).length) 0 ((p18.set p17.toNat true).length) true 4)) rfl (by first | rfl | simp)) (wxs (subc (k := 0) rfl (subc (k := 3) rfl (subc (k := 4) rfl (subc (k := 5) rfl sub0))))))
        · replace h20 := ite_f h20 b26
          refine cx_exit ?_
          refine ks_x ?_
          have e_ := some_inj h20; subst e_
          have e_ := h21 _ rfl; subst e_
          refine ldone rfl ?_
          refine kb_e ?_
          refine kb_n ?_
          have e_ := some_inj h13; subst e_
          exact jk_n p18 rfl (wxs (subc (k := 0) rfl (subc (k := 3) rfl (subc (k := 4) rfl sub0))))
      · intro t14 ht
        rw [ht] at h7
        try dsimp only at h7 ⊢
        refine cx_reg rfl ?_
        refine rq (so_move rfl) rfl ?_
        refine rq (so_bin rfl rfl rfl rfl) rfl ?_
        refine rq (so_assign rfl) rfl ?_
        refine rx_nil ?_
        have e_ := some_inj h7; subst e_
        exact lnext rfl (wxs (subc (k := 0) rfl (subc (k := 3) rfl (subc (k := 4) rfl sub0))))
    · replace h7 := ite_f h7 b11
      refine cx_exit ?_
      refine ks_x ?_
      have e_ := some_inj h7; subst e_
      have e_ := h8 _ rfl; subst e_
      refine ldone rfl ?_
      refine kb_e ?_
      have e_ := some_inj h2; subst e_
      exact jk_n p5 rfl (wxs (subc (k := 3) rfl sub0))
  · intro t3 ht
    rw [ht] at h
    try dsimp only at h ⊢
    refine cx_seq ?_
    refine cx_reg rfl ?_
    refine rq (so_move rfl) rfl ?_
    refine rq (so_assign rfl) rfl ?_
    refine rx_nil ?_
    refine kseq ?_
    refine cx_ret ?_
    have e_ := some_inj h; subst e_
    refine qx_ret (.inr rfl) [0] (.tmp rfl .nil) (retM (by simp) (rtc (rnk rfl rfl) rt0) rfl (rbc rnrow rb0) rfl rfl) (co1 rfl (cvrx.trans (cveq (by first | rfl | simp))))
noncomputable def B30_2 (x0 : List Bool) (p4 : Int) (p5 : List S37) : Option (Stp (Int × (List S37)) (List S37)) :=
  if (decide (p4 < (x0.length : Int))) then (bnd (α := List S37) (bnd (idx x0 p4) fun w15 => if (!w15) then (some p5) else (bnd (α := Bool) (if (decide (p4 > 0)) then (bnd (idx x0 (IntKind.wrap .i64 (p4 - 1))) fun w22 => some w22) else (some false)) fun t20 => if t20 then (bnd (idx p5 (IntKind.wrap .i64 ((p5.length : Int) - 1))) fun w25 => some (p5.set ((IntKind.wrap .i64 ((p5.length : Int) - 1)).toNat) ({ w25 with To := (IntKind.wrap .i64 (p4 + 1)) }))) else (chk (¬ (2 * (p5.length + [(⟨p4, (IntKind.wrap .i64 (p4 + 1))⟩ : S37)].length) + 400) * 16 > 281474976710656) <| some (p5 ++ [(⟨p4, (IntKind.wrap .i64 (p4 + 1))⟩ : S37)])))) fun t14 => some (.next ((IntKind.wrap .i64 (p4 + 1)), t14))) else (some (.done p5))
/-- flagstone.flagstoneref14.Spans -/
noncomputable def F30 (x0 : List Bool) : Option (List S37) :=
  bnd (α := List S37) (bnd (loopO (σ := Int × (List S37)) (ρ := List S37) (fun s => B30_2 x0 s.1 s.2) (0, [])) fun z9 => some z9) fun t3 => some t3
theorem C30 {x0 : List Bool} {r : List S37} (h : F30 x0 = some r) (S : Stk) : Con Proofs.Try.prog full 30 [(.sl false 4 (x0.map boolTV))] S S.length (.sl false 37 (r.map e37)) [] S := by
  have hB : S.length ≤ S.length := Nat.le_refl _
  refine con_of' (n := 43) (rs := [.tmp 2]) (A := [(0, (.sl false 4 (x0.map boolTV)))]) Proofs.Try.func30 rfl rfl rfl rfl hB rfl ?_
  unfold F30 at h
  refine cx_seq ?_
  refine cx_reg rfl ?_
  refine rq (so_assign rfl) rfl ?_
  refine rx_nil ?_
  refine kseq ?_
  refine cx_seq ?_
  refine cx_reg rfl ?_
  refine rq (so_assign rfl) rfl ?_
  refine rx_nil ?_
  refine kseq ?_
  obtain ⟨t1, h2, h⟩ := bnd_inv h
  refine cx_meet (τ := List S37) (fun t => [(3, (.ref S.length 0 t.length 0 t.length false 37))]) (fun t => ([⟨(.row 37 (t.map e37)), false⟩] :: S)) (fun t => t1 = t) (fun _ => rfl) ?_ ?_
  · refine cx_seq ?_
    refine cx_reg rfl ?_
    refine rq (so_assign rfl) rfl ?_
    refine rx_nil ?_
    refine kseq ?_
    refine cx_block ?_
    obtain ⟨z9, h10, h2⟩ := bnd_inv h2
    refine cx_loop _ (fun s => [(0, (.sl false 4 (x0.map boolTV))), (3, (.ref S.length 0 s.2.length 0 s.2.length false 37)), (4, (intTV s.1))]) (fun s => ([⟨(.row 37 (s.2.map e37)), false⟩] :: S)) h10 (fun _ => rfl) (WX.trans (wxgrow (i := 3) 37 rfl rfl rfl .nil) (wxs (subc (k := 0) rfl (subc (k := 3) rfl (subc (k := 4) rfl sub0))))) ?_
    rintro ⟨p4, p5⟩ y6 h7 h8
    try dsimp only at h7 ⊢
    unfold B30_2 at h7
    refine cx_seq ?_
    refine cx_seq ?_
    refine cx_reg rfl ?_
    refine rq (so_move rfl) rfl ?_
    refine rq (so_move rfl) rfl ?_
    refine rq (so_lenM rfl k_47) rfl ?_
    refine rq (so_bin rfl rfl rfl rfl) rfl ?_
    refine rx_nil ?_
    refine kseq ?_
    refine cx_cond rfl rfl (fun b11 => ?_) (fun b11 => ?_)
    · replace h7 := ite_t h7 b11
      refine cx_skip ?_
      refine kseq ?_
      obtain ⟨t12, h13, h7⟩ := bnd_inv h7
      refine cx_meet (τ := List S37) (fun t => [(0, (.sl false 4 (x0.map boolTV))), (3, (.ref S.length 0 t.length 0 t.length false 37)), (4, (intTV p4))]) (fun t => ([⟨(.row 37 (t.map e37)), false⟩] :: S)) (fun t => t12 = t) (fun _ => rfl) ?_ ?_
      · refine cx_block ?_
        refine cx_block ?_
        refine cx_seq ?_
        refine cx_reg rfl ?_
        refine rq (so_move rfl) rfl ?_
        refine rq (so_move rfl) rfl ?_
        obtain ⟨w15, c16, h13⟩ := bnd_inv h13
        refine rq (so_ixM rfl rfl sl_47 c16) rfl ?_
        refine rq (so_loadE rfl (fo_4 rfl)) rfl ?_
        refine rq (so_un rfl rfl rfl) rfl ?_
        refine rq (so_assign rfl) rfl ?_
        refine rx_nil ?_
        refine kseq ?_
        refine cx_cond rfl rfl (fun b17 => ?_) (fun b17 => ?_)
        · replace h13 := ite_t h13 b17
          refine cx_skip ?_
          refine kb_n ?_
          refine kb_n ?_
          have e_ := some_inj h13; subst e_
          exact jk_n p5 rfl (wxs (subc (k := 0) rfl (subc (k := 3) rfl (subc (k := 4) rfl sub0))))
        · replace h13 := ite_f h13 b17
          obtain ⟨t18, h19, h13⟩ := bnd_inv h13
          refine cx_meet (τ := Bool) (fun t => [(0, (.sl false 4 (x0.map boolTV))), (3, (.ref S.length 0 p5.length 0 p5.length false 37)), (4, (intTV p4)), (24, (boolTV t))]) (fun t => ([⟨(.row 37 (p5.map e37)), false⟩] :: S)) (fun t => t18 = t) (fun _ => rfl) ?_ ?_
          · refine cx_reg rfl ?_
            refine rq (so_move rfl) rfl ?_
            refine rq (so_bin rfl rfl rfl rfl) rfl ?_
            refine rq (so_move rfl) rfl ?_
            rcases Bool.eq_false_or_eq_true (decide (p4 > 0)) with b21 | b21
            · replace h19 := ite_t h19 b21
              refine gy rfl rfl b21 ?_
              refine rq (so_move rfl) rfl ?_
              refine gy rfl rfl b21 ?_
              refine rq (so_move rfl) rfl ?_
              refine gy rfl rfl b21 ?_
              refine rq (so_bin rfl rfl rfl rfl) rfl ?_
              obtain ⟨w22, c23, h19⟩ := bnd_inv h19
              refine gy rfl rfl b21 ?_
              refine rq (so_ixM rfl rfl sl_47 c23) rfl ?_
              refine gy rfl rfl b21 ?_
              refine rq (so_loadE rfl (fo_4 rfl)) rfl ?_
              refine rq (so_pick_t rfl b21 rfl) rfl ?_
              refine rq (so_assign rfl) rfl ?_
              refine rx_nil ?_
              have e_ := some_inj h19; subst e_
              exact jk_n w22 rfl (wxs (subc (k := 0) rfl (subc (k := 3) rfl (subc (k := 4) rfl (subc (k := 24) rfl sub0)))))
            · replace h19 := ite_f h19 b21
              refine gn rfl rfl b21 (dnone rfl) ?_
              refine gn rfl rfl b21 (dnone rfl) ?_
              refine gn rfl rfl b21 (dnone rfl) ?_
              refine gn rfl rfl b21 (dnone rfl) ?_
              refine gn rfl rfl b21 (dnone rfl) ?_
              refine rq (so_pick_f rfl b21 rfl) rfl ?_
              refine rq (so_assign rfl) rfl ?_
              refine rx_nil ?_
              have e_ := some_inj h19; subst e_
              exact jk_n false rfl (wxs (subc (k := 0) rfl (subc (k := 3) rfl (subc (k := 4) rfl (subc (k := 24) rfl sub0)))))
          · intro t20 ht
            rw [ht] at h13
            try dsimp only at h13 ⊢
            refine cx_cond rfl rfl (fun b24 => ?_) (fun b24 => ?_)
            · replace h13 := ite_t h13 b24
              refine cx_reg rfl ?_
              refine rq (so_move rfl) rfl ?_
              refine rq (so_move rfl) rfl ?_
              refine rq (so_lenR rfl (live_of (lk_own rfl rfl) (by simp [vers])) k_24) rfl ?_
              refine rq (so_bin rfl rfl rfl rfl) rfl ?_
              refine rq (so_move rfl) rfl ?_
              refine rq (so_bin rfl rfl rfl rfl) rfl ?_
              obtain ⟨w25, c26, h13⟩ := bnd_inv h13
              refine rq (so_ixR0 rfl rfl sl_24 (live_of (lk_own rfl rfl) (by simp [vers])) (idx_bnd c26 (by first | rfl | simp))) rfl ?_
              refine rq (so_faddr rfl fok_37_1 (live_of (lk_own rfl rfl) (by simp [vers]))) rfl ?_
              refine rs (so_store rfl rfl (lk_own rfl rfl) (by simp [vers]) rfl (gpr (map_at (idx_some c26).2.1) (gpf rfl gp0)) rfl (fo_3 rfl) (fo_3 rfl) (spM (x' := { w25 with To := (IntKind.wrap .i64 (p4 + 1)) }) (idx_some c26).2.1 (spf rfl sp0 (.succ .zero)) rfl) (up_own rfl .zero)) (Nat.le_refl _) ?_
              refine rx_nil ?_
              refine kb_n ?_
              refine kb_n ?_
              have e_ := some_inj h13; subst e_
              exact jk_n (p5.set ((IntKind.wrap .i64 ((p5.length : Int) - 1)).toNat) ({ w25 with To := (IntKind.wrap .i64 (p4 + 1)) })) rfl (WX.trans (wxeq (i := 3) (v' := (.ref S.length 0 ((p5.set ((IntKind.wrap .i64 ((p5.length : Int) - 1)).toNat) ({ w25 with To := (IntKind.wrap .i64 (p4 + 1)) })).length) 0 ((p5.set ((IntKind.wrap .i64 ((p5.length : Int) - 1)).toNat) ({ w25 with To := (IntKind.wrap .i64 (p4 + 1)) })).length) false 37)) rfl (by first | rfl | simp)) (wxs (subc (k := 0) rfl (subc (k := 3) rfl (subc (k := 4) rfl sub0)))))
            · replace h13 := ite_f h13 b24
              refine cx_reg rfl ?_
              refine rq (so_move rfl) rfl ?_
              refine rq (so_move rfl) rfl ?_
              refine rq (so_move rfl) rfl ?_
              refine rq (so_bin rfl rfl rfl rfl) rfl ?_
              refine rq (so_build rfl zero_37 sz_37 (.cons ft_37_0 (fo_3 rfl) .zero (.cons ft_37_1 (fo_3 rfl) (.succ .zero) .nil))) rfl ?_
              refine rq (so_to (so_bslice (l := [(e37 (⟨p4, (IntKind.wrap .i64 (p4 + 1))⟩ : S37))]) (ks := []) rfl sl_24 zero_37 (snapL_solid (solc (so_e37 (⟨p4, (IntKind.wrap .i64 (p4 + 1))⟩ : S37)) sol0)) rfl rfl (by decide) (fl_memc fo_37 (so_e37 (⟨p4, (IntKind.wrap .i64 (p4 + 1))⟩ : S37)) fl_mem0) rfl) (rfl : _ = TV.sl true 37 (List.map e37 [(⟨p4, (IntKind.wrap .i64 (p4 + 1))⟩ : S37)]))) rfl ?_
              obtain ⟨c27, h13⟩ := chk_inv h13
              refine rw' (so_appR (g := e37) (c := p5) (m := [(⟨p4, (IntKind.wrap .i64 (p4 + 1))⟩ : S37)]) rfl rfl (by rw [k_24]; decide) sl_24 (lk_own rfl rfl) (by simp) (by simp) (addends_of elems_sl) (so_e37) c27 (up_own rfl .zero)) (Nat.le_refl _) rfl ?_
              refine rq (so_assign rfl) rfl ?_
              refine rx_nil ?_
              refine kb_n ?_
              refine kb_n ?_
              have e_ := some_inj h13; subst e_
              exact jk_n (p5 ++ [(⟨p4, (IntKind.wrap .i64 (p4 + 1))⟩ : S37)]) rfl (wxs (subc (k := 0) rfl (subc (k := 3) rfl (subc (k := 4) rfl sub0))))
      · intro t14 ht
        rw [ht] at h7
        try dsimp only at h7 ⊢
        refine cx_reg rfl ?_
        refine rq (so_move rfl) rfl ?_
        refine rq (so_bin rfl rfl rfl rfl) rfl ?_
        refine rq (so_assign rfl) rfl ?_
        refine rx_nil ?_
        have e_ := some_inj h7; subst e_
        exact lnext rfl (wxs (subc (k := 0) rfl (subc (k := 3) rfl (subc (k := 4) rfl sub0))))
    · replace h7 := ite_f h7 b11
      refine cx_exit ?_
      refine ks_x ?_
      have e_ := some_inj h7; subst e_
      have e_ := h8 _ rfl; subst e_
      refine ldone rfl ?_
      refine kb_e ?_
      have e_ := some_inj h2; subst e_
      exact jk_n p5 rfl (wxs (subc (k := 3) rfl sub0))
  · intro t3 ht
    rw [ht] at h
    try dsimp only at h ⊢
    refine cx_seq ?_
    refine cx_reg rfl ?_
    refine rq (so_move rfl) rfl ?_
    refine rq (so_assign rfl) rfl ?_
    refine rx_nil ?_
    refine kseq ?_
    refine cx_ret ?_
    have e_ := some_inj h; subst e_
    refine qx_ret (.inr rfl) [] (.tmp rfl .nil) (ret0 (snapL_of (sulc (su_ref (elems_all (lk_own rfl rfl) (by simp) (by simp))) sul0) rfl) (mk_own rfl rfl .zero mk0) (solc rfl sol0)) cor
/-- flagstone.flagstoneref14.Normal -/
noncomputable def F14 (x0 : List S37) : Option (List S37) :=
  bnd (F31 x0) fun r1 => bnd (F30 r1) fun r3 => some r3
theorem C14 {x0 : List S37} {r : List S37} (h : F14 x0 = some r) (S : Stk) : Con Proofs.Try.prog full 14 [(.sl false 37 (x0.map e37))] S S.length (.sl false 37 (r.map e37)) [] S := by
  have hB : S.length ≤ S.length := Nat.le_refl _
  refine con_of' (n := 6) (rs := [.tmp 2]) (A := [(0, (.sl false 37 (x0.map e37)))]) Proofs.Try.func14 rfl rfl rfl rfl hB rfl ?_
  unfold F14 at h
  refine cx_seq ?_
  refine cx_reg rfl ?_
  refine rq (so_assign rfl) rfl ?_
  refine rx_nil ?_
  refine kseq ?_
  refine cx_seq ?_
  refine cx_reg rfl ?_
  refine rq (so_move rfl) rfl ?_
  obtain ⟨r1, c2, h⟩ := bnd_inv h
  refine rc rfl rfl (C31 c2 _) (fun h => Nat.le_of_lt h) (mgR (by simp) (rnh (k := 0) rfl rfl rfl) (rbc rnrow rb0) .nil) rfl rfl ?_
  obtain ⟨r3, c4, h⟩ := bnd_inv h
  refine rc rfl rfl (con_callM (cnc (t := 47) (cref (elems_all (lk_own rfl rfl) (by simp) (by simp))) (cn0 (ts := []))) (mk_own rfl rfl .zero mk0) (C30 c4 _)) (fun h => Nat.le_of_lt h) rfl rfl rfl ?_
  refine rq (so_assign rfl) rfl ?_
  refine rx_nil ?_
  refine kseq ?_
  refine cx_ret ?_
  have e_ := some_inj h; subst e_
  refine qx_ret (.inr rfl) [] (.tmp rfl .nil) (ret0s (solc rfl sol0)) cor
noncomputable def B15_2 (r3 : List Bool) (p8 : Int) (p9 : List Bool) : Option (Stp (Int × (List Bool)) (List Bool)) :=
  if (decide (p8 < (p9.length : Int))) then (bnd (α := List Bool) (bnd (idx p9 p8) fun w19 => if w19 then (bnd (idx p9 p8) fun w22 => some (p9.set p8.toNat true)) else (bnd (idx r3 p8) fun w24 => bnd (idx p9 p8) fun w26 => some (p9.set p8.toNat w24))) fun t18 => some (.next ((IntKind.wrap .i64 (p8 + 1)), t18))) else (some (.done p9))
/-- flagstone.flagstoneref14.Union -/
noncomputable def F15 (x0 : List S37) (x1 : List S37) : Option (List S37) :=
  bnd (F31 x0) fun r1 => bnd (F31 x1) fun r3 => bnd (α := List Bool) (bnd (loopO (σ := Int × (List Bool)) (ρ := List Bool) (fun s => B15_2 r3 s.1 s.2) (0, r1)) fun z13 => some z13) fun t7 => bnd (F30 t7) fun r28 => some r28
theorem C15 {x0 : List S37} {x1 : List S37} {r : List S37} (h : F15 x0 x1 = some r) (S : Stk) : Con Proofs.Try.prog full 15 [(.sl false 37 (x0.map e37)), (.sl false 37 (x1.map e37))] S S.length (.sl false 37 (r.map e37)) [] S := by
  have hB : S.length ≤ S.length := Nat.le_refl _
  refine con_of' (n := 33) (rs := [.tmp 4]) (A := [(0, (.sl false 37 (x0.map e37))), (1, (.sl false 37 (x1.map e37)))]) Proofs.Try.func15 rfl rfl rfl rfl hB rfl ?_
  unfold F15 at h
  refine cx_seq ?_
  refine cx_reg rfl ?_
  refine rq (so_assign rfl) rfl ?_
  refine rx_nil ?_
  refine kseq ?_
  refine cx_seq ?_
  refine cx_reg rfl ?_
  refine rq (so_move rfl) rfl ?_
  obtain ⟨r1, c2, h⟩ := bnd_inv h
  refine rc rfl rfl (C31 c2 _) (fun h => Nat.le_of_lt h) (mgR (by simp) (rnh (k := 0) rfl rfl rfl) (rbc rnrow rb0) .nil) rfl rfl ?_
  refine rq (so_move rfl) rfl ?_
  obtain ⟨r3, c4, h⟩ := bnd_inv h
  refine rc rfl rfl (C31 c4 _) (fun h => Nat.le_of_lt h) (mgR (by simp) (rnh (k := 1) rfl rfl rfl) (rbc rnrow rb0) (.cons .nil)) rfl rfl ?_
  refine rq (so_assign rfl) rfl ?_
  refine rq (so_assign rfl) rfl ?_
  refine rx_nil ?_
  refine kseq ?_
  obtain ⟨t5, h6, h⟩ := bnd_inv h
  refine cx_meet (τ := List Bool) (fun t => [(5, (.ref S.length 0 t.length 0 t.length false 4))]) (fun t => ([⟨(.row 4 (t.map boolTV)), false⟩] :: S)) (fun t => t5 = t) (fun _ => rfl) ?_ ?_
  · refine cx_seq ?_
    refine cx_reg rfl ?_
    refine rq (so_assign rfl) rfl ?_
    refine rx_nil ?_
    refine kseq ?_
    refine cx_block ?_
    obtain ⟨z13, h14, h6⟩ := bnd_inv h6
    refine cx_loop _ (fun s => [(5, (.ref S.length 0 s.2.length 0 s.2.length false 4)), (6, (.ref S.length 1 r3.length 0 r3.length false 4)), (7, (intTV s.1))]) (fun s => ([⟨(.row 4 (s.2.map boolTV)), false⟩, ⟨(.row 4 (r3.map boolTV)), false⟩] :: S)) h14 (fun _ => rfl) (wxs (subc (k := 5) rfl (subc (k := 6) rfl (subc (k := 7) rfl sub0)))) ?_
    rintro ⟨p8, p9⟩ y10 h11 h12
    try dsimp only at h11 ⊢
    unfold B15_2 at h11
    refine cx_seq ?_
    refine cx_seq ?_
    refine cx_reg rfl ?_
    refine rq (so_move rfl) rfl ?_
    refine rq (so_move rfl) rfl ?_
    refine rq (so_lenR rfl (live_of (lk_own rfl rfl) (by simp [vers])) k_47) rfl ?_
    refine rq (so_bin rfl rfl rfl rfl) rfl ?_
    refine rx_nil ?_
    refine kseq ?_
    refine cx_cond rfl rfl (fun b15 => ?_) (fun b15 => ?_)
    · replace h11 := ite_t h11 b15
      refine cx_skip ?_
      refine kseq ?_
      obtain ⟨t16, h17, h11⟩ := bnd_inv h11
      refine cx_meet (τ := List Bool) (fun t => [(5, (.ref S.length 0 t.length 0 t.length false 4)), (6, (.ref S.length 1 r3.length 0 r3.length false 4)), (7, (intTV p8))]) (fun t => ([⟨(.row 4 (t.map boolTV)), false⟩, ⟨(.row 4 (r3.map boolTV)), false⟩] :: S)) (fun t => t16 = t) (fun _ => rfl) ?_ ?_
      · refine cx_block ?_
        refine cx_reg rfl ?_
        refine rq (so_move rfl) rfl ?_
        refine rq (so_move rfl) rfl ?_
        refine rq (so_move rfl) rfl ?_
        refine rq (so_move rfl) rfl ?_
        obtain ⟨w19, c20, h17⟩ := bnd_inv h17
        refine rq (so_ixR0 rfl rfl sl_47 (live_of (lk_own rfl rfl) (by simp [vers])) (idx_bnd c20 (by first | rfl | simp))) rfl ?_
        refine rq (so_load rfl (lk_own rfl rfl) (by simp [vers]) (gpr (map_at (idx_some c20).2.1) gp0) (fo_4 rfl)) rfl ?_
        refine rq (so_move rfl) rfl ?_
        rcases Bool.eq_false_or_eq_true w19 with b21 | b21
        · replace h17 := ite_t h17 b21
          refine gn rfl rfl b21 (dnone rfl) ?_
          refine gn rfl rfl b21 (dnone rfl) ?_
          refine gn rfl rfl b21 (dnone rfl) ?_
          refine gn rfl rfl b21 (dnone rfl) ?_
          refine rq (so_pick_t rfl b21 rfl) rfl ?_
          obtain ⟨w22, c23, h17⟩ := bnd_inv h17
          refine rq (so_ixR0 rfl rfl sl_47 (live_of (lk_own rfl rfl) (by simp [vers])) (idx_bnd c23 (by first | rfl | simp))) rfl ?_
          refine rs (so_store rfl rfl (lk_own rfl rfl) (by simp [vers]) rfl (gpr (map_at (idx_some c23).2.1) gp0) rfl (fo_4 rfl) (fo_4 rfl) (spM (x' := true) (idx_some c23).2.1 sp0 rfl) (up_own rfl .zero)) (Nat.le_refl _) ?_
          refine rx_nil ?_
          refine kb_n ?_
          have e_ := some_inj h17; subst e_
          exact jk_n (p9.set p8.toNat true) rfl (WX.trans (wxeq (i := 5) (v' := (.ref S.length 0 ((p9.set p8.toNat true).length) 0 ((p9.set p8.toNat true).length) false 4)) rfl (by first | rfl | simp)) (wxs (subc (k := 5) rfl (subc (k := 6) rfl (subc (k := 7) rfl sub0)))))
        · replace h17 := ite_f h17 b21
          refine gy rfl rfl b21 ?_
          refine rq (so_move rfl) rfl ?_
          refine gy rfl rfl b21 ?_
          refine rq (so_move rfl) rfl ?_
          obtain ⟨w24, c25, h17⟩ := bnd_inv h17
          refine gy rfl rfl b21 ?_
          refine rq (so_ixR0 rfl rfl sl_47 (live_of (lk_own rfl rfl) (by simp [vers])) (idx_bnd c25 (by first | rfl | simp))) rfl ?_
          refine gy rfl rfl b21 ?_
          refine rq (so_load rfl (lk_own rfl rfl) (by simp [vers]) (gpr (map_at (idx_some c25).2.1) gp0) (fo_4 rfl)) rfl ?_
          refine rq (so_pick_f rfl b21 rfl) rfl ?_
          obtain ⟨w26, c27, h17⟩ := bnd_inv h17
          refine rq (so_ixR0 rfl rfl sl_47 (live_of (lk_own rfl rfl) (by simp [vers])) (idx_bnd c27 (by first | rfl | simp))) rfl ?_
          refine rs (so_store rfl rfl (lk_own rfl rfl) (by simp [vers]) rfl (gpr (map_at (idx_some c27).2.1) gp0) rfl (fo_4 rfl) (fo_4 rfl) (spM (x' := w24) (idx_some c27).2.1 sp0 rfl) (up_own rfl .zero)) (Nat.le_refl _) ?_
          refine rx_nil ?_
          refine kb_n ?_
          have e_ := some_inj h17; subst e_
          exact jk_n (p9.set p8.toNat w24) rfl (WX.trans (wxeq (i := 5) (v' := (.ref S.length 0 ((p9.set p8.toNat w24).length) 0 ((p9.set p8.toNat w24).length) false 4)) rfl (by first | rfl | simp)) (wxs (subc (k := 5) rfl (subc (k := 6) rfl (subc (k := 7) rfl sub0)))))
      · intro t18 ht
        rw [ht] at h11
        try dsimp only at h11 ⊢
        refine cx_reg rfl ?_
        refine rq (so_move rfl) rfl ?_
        refine rq (so_bin rfl rfl rfl rfl) rfl ?_
        refine rq (so_assign rfl) rfl ?_
        refine rx_nil ?_
        have e_ := some_inj h11; subst e_
        exact lnext rfl (wxs (subc (k := 5) rfl (subc (k := 6) rfl (subc (k := 7) rfl sub0))))
    · replace h11 := ite_f h11 b15
      refine cx_exit ?_
      refine ks_x ?_
      have e_ := some_inj h11; subst e_
      have e_ := h12 _ rfl; subst e_
      refine ldone rfl ?_
      refine kb_e ?_
      have e_ := some_inj h6; subst e_
      exact jk_n p9 rfl (WX.trans (wxs (subc (k := 5) rfl sub0)) (WX.trans (wxcut (k := 1) rfl rfl (List.take_append_drop 1 _).symm (fac (fbr rfl) fa0) (ffc rfl ff0)) (wxs (subc (k := 5) rfl sub0))))
  · intro t7 ht
    rw [ht] at h
    try dsimp only at h ⊢
    refine cx_seq ?_
    refine cx_reg rfl ?_
    refine rq (so_move rfl) rfl ?_
    obtain ⟨r28, c29, h⟩ := bnd_inv h
    refine rc rfl rfl (con_callM (cnc (t := 47) (cref (elems_all (lk_own rfl rfl) (by simp) (by simp))) (cn0 (ts := []))) (mk_own rfl rfl .zero mk0) (C30 c29 _)) (fun h => Nat.le_of_lt h) rfl rfl rfl ?_
    refine rq (so_assign rfl) rfl ?_
    refine rx_nil ?_
    refine kseq ?_
    refine cx_ret ?_
    have e_ := some_inj h; subst e_
    refine qx_ret (.inr rfl) [] (.tmp rfl .nil) (ret0s (solc rfl sol0)) cor
noncomputable def B16_2 (r3 : List Bool) (p8 : Int) (p9 : List Bool) : Option (Stp (Int × (List Bool)) (List Bool)) :=
  if (decide (p8 < (p9.length : Int))) then (bnd (α := List Bool) (bnd (idx p9 p8) fun w19 => if w19 then (bnd (idx r3 p8) fun w22 => bnd (idx p9 p8) fun w24 => some (p9.set p8.toNat (!w22))) else (bnd (idx p9 p8) fun w26 => some (p9.set p8.toNat false))) fun t18 => some (.next ((IntKind.wrap .i64 (p8 + 1)), t18))) else (some (.done p9))
/-- flagstone.flagstoneref14.Minus -/
noncomputable def F16 (x0 : List S37) (x1 : List S37) : Option (List S37) :=
  bnd (F31 x0) fun r1 => bnd (F31 x1) fun r3 => bnd (α := List Bool) (bnd (loopO (σ := Int × (List Bool)) (ρ := List Bool) (fun s => B16_2 r3 s.1 s.2) (0, r1)) fun z13 => some z13) fun t7 => bnd (F30 t7) fun r28 => some r28
theorem C16 {x0 : List S37} {x1 : List S37} {r : List S37} (h : F16 x0 x1 = some r) (S : Stk) : Con Proofs.Try.prog full 16 [(.sl false 37 (x0.map e37)), (.sl false 37 (x1.map e37))] S S.length (.sl false 37 (r.map e37)) [] S := by
  have hB : S.length ≤ S.length := Nat.le_refl _
  refine con_of' (n := 34) (rs := [.tmp 4]) (A := [(0, (.sl false 37 (x0.map e37))), (1, (.sl false 37 (x1.map e37)))]) Proofs.Try.func16 rfl rfl rfl rfl hB rfl ?_
  unfold F16 at h
  refine cx_seq ?_
  refine cx_reg rfl ?_
  refine rq (so_assign rfl) rfl ?_
  refine rx_nil ?_
  refine kseq ?_
  refine cx_seq ?_
  refine cx_reg rfl ?_
  refine rq (so_move rfl) rfl ?_
  obtain ⟨r1, c2, h⟩ := bnd_inv h
  refine rc rfl rfl (C31 c2 _) (fun h => Nat.le_of_lt h) (mgR (by simp) (rnh (k := 0) rfl rfl rfl) (rbc rnrow rb0) .nil) rfl rfl ?_
  refine rq (so_move rfl) rfl ?_
  obtain ⟨r3, c4, h⟩ := bnd_inv h
  refine rc rfl rfl (C31 c4 _) (fun h => Nat.le_of_lt h) (mgR (by simp) (rnh (k := 1) rfl rfl rfl) (rbc rnrow rb0) (.cons .nil)) rfl rfl ?_
  refine rq (so_assign rfl) rfl ?_
  refine rq (so_assign rfl) rfl ?_
  refine rx_nil ?_
  refine kseq ?_
  obtain ⟨t5, h6, h⟩ := bnd_inv h
  refine cx_meet (τ := List Bool) (fun t => [(5, (.ref S.length 0 t.length 0 t.length false 4))]) (fun t => ([⟨(.row 4 (t.map boolTV)), false⟩] :: S)) (fun t => t5 = t) (fun _ => rfl) ?_ ?_
  · refine cx_seq ?_
    refine cx_reg rfl ?_
    refine rq (so_assign rfl) rfl ?_
    refine rx_nil ?_
    refine kseq ?_
    refine cx_block ?_
    obtain ⟨z13, h14, h6⟩ := bnd_inv h6
    refine cx_loop _ (fun s => [(5, (.ref S.length 0 s.2.length 0 s.2.length false 4)), (6, (.ref S.length 1 r3.length 0 r3.length false 4)), (7, (intTV s.1))]) (fun s => ([⟨(.row 4 (s.2.map boolTV)), false⟩, ⟨(.row 4 (r3.map boolTV)), false⟩] :: S)) h14 (fun _ => rfl) (wxs (subc (k := 5) rfl (subc (k := 6) rfl (subc (k := 7) rfl sub0)))) ?_
    rintro ⟨p8, p9⟩ y10 h11 h12
    try dsimp only at h11 ⊢
    unfold B16_2 at h11
    refine cx_seq ?_
    refine cx_seq ?_
    refine cx_reg rfl ?_
    refine rq (so_move rfl) rfl ?_
    refine rq (so_move rfl) rfl ?_
    refine rq (so_lenR rfl (live_of (lk_own rfl rfl) (by simp [vers])) k_47) rfl ?_
    refine rq (so_bin rfl rfl rfl rfl) rfl ?_
    refine rx_nil ?_
    refine kseq ?_
    refine cx_cond rfl rfl (fun b15 => ?_) (fun b15 => ?_)
    · replace h11 := ite_t h11 b15
      refine cx_skip ?_
      refine kseq ?_
      obtain ⟨t16, h17, h11⟩ := bnd_inv h11
      refine cx_meet (τ := List Bool) (fun t => [(5, (.ref S.length 0 t.length 0 t.length false 4)), (6, (.ref S.length 1 r3.length 0 r3.length false 4)), (7, (intTV p8))]) (fun t => ([⟨(.row 4 (t.map boolTV)), false⟩, ⟨(.row 4 (r3.map boolTV)), false⟩] :: S)) (fun t => t16 = t) (fun _ => rfl) ?_ ?_
      · refine cx_block ?_
        refine cx_reg rfl ?_
        refine rq (so_move rfl) rfl ?_
        refine rq (so_move rfl) rfl ?_
        refine rq (so_move rfl) rfl ?_
        refine rq (so_move rfl) rfl ?_
        obtain ⟨w19, c20, h17⟩ := bnd_inv h17
        refine rq (so_ixR0 rfl rfl sl_47 (live_of (lk_own rfl rfl) (by simp [vers])) (idx_bnd c20 (by first | rfl | simp))) rfl ?_
        refine rq (so_load rfl (lk_own rfl rfl) (by simp [vers]) (gpr (map_at (idx_some c20).2.1) gp0) (fo_4 rfl)) rfl ?_
        refine rq (so_move rfl) rfl ?_
        rcases Bool.eq_false_or_eq_true w19 with b21 | b21
        · replace h17 := ite_t h17 b21
          refine gy rfl rfl b21 ?_
          refine rq (so_move rfl) rfl ?_
          refine gy rfl rfl b21 ?_
          refine rq (so_move rfl) rfl ?_
          obtain ⟨w22, c23, h17⟩ := bnd_inv h17
          refine gy rfl rfl b21 ?_
          refine rq (so_ixR0 rfl rfl sl_47 (live_of (lk_own rfl rfl) (by simp [vers])) (idx_bnd c23 (by first | rfl | simp))) rfl ?_
          refine gy rfl rfl b21 ?_
          refine rq (so_load rfl (lk_own rfl rfl) (by simp [vers]) (gpr (map_at (idx_some c23).2.1) gp0) (fo_4 rfl)) rfl ?_
          refine gy rfl rfl b21 ?_
          refine rq (so_un rfl rfl rfl) rfl ?_
          refine rq (so_pick_t rfl b21 rfl) rfl ?_
          obtain ⟨w24, c25, h17⟩ := bnd_inv h17
          refine rq (so_ixR0 rfl rfl sl_47 (live_of (lk_own rfl rfl) (by simp [vers])) (idx_bnd c25 (by first | rfl | simp))) rfl ?_
          refine rs (so_store rfl rfl (lk_own rfl rfl) (by simp [vers]) rfl (gpr (map_at (idx_some c25).2.1) gp0) rfl (fo_4 rfl) (fo_4 rfl) (spM (x' := (!w22)) (idx_some c25).2.1 sp0 rfl) (up_own rfl .zero)) (Nat.le_refl _) ?_
          refine rx_nil ?_
          refine kb_n ?_
          have e_ := some_inj h17; subst e_
          exact jk_n (p9.set p8.toNat (!w22)) rfl (WX.trans (wxeq (i := 5) (v' := (.ref S.length 0 ((p9.set p8.toNat (!w22)).length) 0 ((p9.set p8.toNat (!w22)).length) false 4)) rfl (by first | rfl | simp)) (wxs (subc (k := 5) rfl (subc (k := 6) rfl (subc (k := 7) rfl sub0)))))
        · replace h17 := ite_f h17 b21
          refine gn rfl rfl b21 (dnone rfl) ?_
          refine gn rfl rfl b21 (dnone rfl) ?_
          refine gn rfl rfl b21 (dnone rfl) ?_
          refine gn rfl rfl b21 (dnone rfl) ?_
          refine gn rfl rfl b21 (dnone rfl) ?_
          refine rq (so_pick_f rfl b21 rfl) rfl ?_
          obtain ⟨w26, c27, h17⟩ := bnd_inv h17
          refine rq (so_ixR0 rfl rfl sl_47 (live_of (lk_own rfl rfl) (by simp [vers])) (idx_bnd c27 (by first | rfl | simp))) rfl ?_
          refine rs (so_store rfl rfl (lk_own rfl rfl) (by simp [vers]) rfl (gpr (map_at (idx_some c27).2.1) gp0) rfl (fo_4 rfl) (fo_4 rfl) (spM (x' := false) (idx_some c27).2.1 sp0 rfl) (up_own rfl .zero)) (Nat.le_refl _) ?_
          refine rx_nil ?_
          refine kb_n ?_
          have e_ := some_inj h17; subst e_
          exact jk_n (p9.set p8.toNat false) rfl (WX.trans (wxeq (i := 5) (v' := (.ref S.length 0 ((p9.set p8.toNat false).length) 0 ((p9.set p8.toNat false).length) false 4)) rfl (by first | rfl | simp)) (wxs (subc (k := 5) rfl (subc (k := 6) rfl (subc (k := 7) rfl sub0)))))
      · intro t18 ht
        rw [ht] at h11
        try dsimp only at h11 ⊢
        refine cx_reg rfl ?_
        refine rq (so_move rfl) rfl ?_
        refine rq (so_bin rfl rfl rfl rfl) rfl ?_
        refine rq (so_assign rfl) rfl ?_
        refine rx_nil ?_
        have e_ := some_inj h11; subst e_
        exact lnext rfl (wxs (subc (k := 5) rfl (subc (k := 6) rfl (subc (k := 7) rfl sub0))))
    · replace h11 := ite_f h11 b15
      refine cx_exit ?_
      refine ks_x ?_
      have e_ := some_inj h11; subst e_
      have e_ := h12 _ rfl; subst e_
      refine ldone rfl ?_
      refine kb_e ?_
      have e_ := some_inj h6; subst e_
      exact jk_n p9 rfl (WX.trans (wxs (subc (k := 5) rfl sub0)) (WX.trans (wxcut (k := 1) rfl rfl (List.take_append_drop 1 _).symm (fac (fbr rfl) fa0) (ffc rfl ff0)) (wxs (subc (k := 5) rfl sub0))))
  · intro t7 ht
    rw [ht] at h
    try dsimp only at h ⊢
    refine cx_seq ?_
    refine cx_reg rfl ?_
    refine rq (so_move rfl) rfl ?_
    obtain ⟨r28, c29, h⟩ := bnd_inv h
    refine rc rfl rfl (con_callM (cnc (t := 47) (cref (elems_all (lk_own rfl rfl) (by simp) (by simp))) (cn0 (ts := []))) (mk_own rfl rfl .zero mk0) (C30 c29 _)) (fun h => Nat.le_of_lt h) rfl rfl rfl ?_
    refine rq (so_assign rfl) rfl ?_
    refine rx_nil ?_
    refine kseq ?_
    refine cx_ret ?_
    have e_ := some_inj h; subst e_
    refine qx_ret (.inr rfl) [] (.tmp rfl .nil) (ret0s (solc rfl sol0)) cor
noncomputable def B17_2 (r3 : List Bool) (p8 : Int) (p9 : List Bool) : Option (Stp (Int × (List Bool)) (List Bool)) :=
  if (decide (p8 < (p9.length : Int))) then (bnd (α := List Bool) (bnd (idx p9 p8) fun w19 => if w19 then (bnd (idx r3 p8) fun w22 => bnd (idx p9 p8) fun w24 => some (p9.set p8.toNat w22)) else (bnd (idx p9 p8) fun w26 => some (p9.set p8.toNat false))) fun t18 => some (.next ((IntKind.wrap .i64 (p8 + 1)), t18))) else (some (.done p9))
/-- flagstone.flagstoneref14.Common -/
noncomputable def F17 (x0 : List S37) (x1 : List S37) : Option (List S37) :=
  bnd (F31 x0) fun r1 => bnd (F31 x1) fun r3 => bnd (α := List Bool) (bnd (loopO (σ := Int × (List Bool)) (ρ := List Bool) (fun s => B17_2 r3 s.1 s.2) (0, r1)) fun z13 => some z13) fun t7 => bnd (F30 t7) fun r28 => some r28
theorem C17 {x0 : List S37} {x1 : List S37} {r : List S37} (h : F17 x0 x1 = some r) (S : Stk) : Con Proofs.Try.prog full 17 [(.sl false 37 (x0.map e37)), (.sl false 37 (x1.map e37))] S S.length (.sl false 37 (r.map e37)) [] S := by
  have hB : S.length ≤ S.length := Nat.le_refl _
  refine con_of' (n := 33) (rs := [.tmp 4]) (A := [(0, (.sl false 37 (x0.map e37))), (1, (.sl false 37 (x1.map e37)))]) Proofs.Try.func17 rfl rfl rfl rfl hB rfl ?_
  unfold F17 at h
  refine cx_seq ?_
  refine cx_reg rfl ?_
  refine rq (so_assign rfl) rfl ?_
  refine rx_nil ?_
  refine kseq ?_
  refine cx_seq ?_
  refine cx_reg rfl ?_
  refine rq (so_move rfl) rfl ?_
  obtain ⟨r1, c2, h⟩ := bnd_inv h
  refine rc rfl rfl (C31 c2 _) (fun h => Nat.le_of_lt h) (mgR (by simp) (rnh (k := 0) rfl rfl rfl) (rbc rnrow rb0) .nil) rfl rfl ?_
  refine rq (so_move rfl) rfl ?_
  obtain ⟨r3, c4, h⟩ := bnd_inv h
  refine rc rfl rfl (C31 c4 _) (fun h => Nat.le_of_lt h) (mgR (by simp) (rnh (k := 1) rfl rfl rfl) (rbc rnrow rb0) (.cons .nil)) rfl rfl ?_
  refine rq (so_assign rfl) rfl ?_
  refine rq (so_assign rfl) rfl ?_
  refine rx_nil ?_
  refine kseq ?_
  obtain ⟨t5, h6, h⟩ := bnd_inv h
  refine cx_meet (τ := List Bool) (fun t => [(5, (.ref S.length 0 t.length 0 t.length false 4))]) (fun t => ([⟨(.row 4 (t.map boolTV)), false⟩] :: S)) (fun t => t5 = t) (fun _ => rfl) ?_ ?_
  · refine cx_seq ?_
    refine cx_reg rfl ?_
    refine rq (so_assign rfl) rfl ?_
    refine rx_nil ?_
    refine kseq ?_
    refine cx_block ?_
    obtain ⟨z13, h14, h6⟩ := bnd_inv h6
    refine cx_loop _ (fun s => [(5, (.ref S.length 0 s.2.length 0 s.2.length false 4)), (6, (.ref S.length 1 r3.length 0 r3.length false 4)), (7, (intTV s.1))]) (fun s => ([⟨(.row 4 (s.2.map boolTV)), false⟩, ⟨(.row 4 (r3.map boolTV)), false⟩] :: S)) h14 (fun _ => rfl) (wxs (subc (k := 5) rfl (subc (k := 6) rfl (subc (k := 7) rfl sub0)))) ?_
    rintro ⟨p8, p9⟩ y10 h11 h12
    try dsimp only at h11 ⊢
    unfold B17_2 at h11
    refine cx_seq ?_
    refine cx_seq ?_
    refine cx_reg rfl ?_
    refine rq (so_move rfl) rfl ?_
    refine rq (so_move rfl) rfl ?_
    refine rq (so_lenR rfl (live_of (lk_own rfl rfl) (by simp [vers])) k_47) rfl ?_
    refine rq (so_bin rfl rfl rfl rfl) rfl ?_
    refine rx_nil ?_
    refine kseq ?_
    refine cx_cond rfl rfl (fun b15 => ?_) (fun b15 => ?_)
    · replace h11 := ite_t h11 b15
      refine cx_skip ?_
      refine kseq ?_
      obtain ⟨t16, h17, h11⟩ := bnd_inv h11
      refine cx_meet (τ := List Bool) (fun t => [(5, (.ref S.length 0 t.length 0 t.length false 4)), (6, (.ref S.length 1 r3.length 0 r3.length false 4)), (7, (intTV p8))]) (fun t => ([⟨(.row 4 (t.map boolTV)), false⟩, ⟨(.row 4 (r3.map boolTV)), false⟩] :: S)) (fun t => t16 = t) (fun _ => rfl) ?_ ?_
      · refine cx_block ?_
        refine cx_reg rfl ?_
        refine rq (so_move rfl) rfl ?_
        refine rq (so_move rfl) rfl ?_
        refine rq (so_move rfl) rfl ?_
        refine rq (so_move rfl) rfl ?_
        obtain ⟨w19, c20, h17⟩ := bnd_inv h17
        refine rq (so_ixR0 rfl rfl sl_47 (live_of (lk_own rfl rfl) (by simp [vers])) (idx_bnd c20 (by first | rfl | simp))) rfl ?_
        refine rq (so_load rfl (lk_own rfl rfl) (by simp [vers]) (gpr (map_at (idx_some c20).2.1) gp0) (fo_4 rfl)) rfl ?_
        refine rq (so_move rfl) rfl ?_
        rcases Bool.eq_false_or_eq_true w19 with b21 | b21
        · replace h17 := ite_t h17 b21
          refine gy rfl rfl b21 ?_
          refine rq (so_move rfl) rfl ?_
          refine gy rfl rfl b21 ?_
          refine rq (so_move rfl) rfl ?_
          obtain ⟨w22, c23, h17⟩ := bnd_inv h17
          refine gy rfl rfl b21 ?_
          refine rq (so_ixR0 rfl rfl sl_47 (live_of (lk_own rfl rfl) (by simp [vers])) (idx_bnd c23 (by first | rfl | simp))) rfl ?_
          refine gy rfl rfl b21 ?_
          refine rq (so_load rfl (lk_own rfl rfl) (by simp [vers]) (gpr (map_at (idx_some c23).2.1) gp0) (fo_4 rfl)) rfl ?_
          refine rq (so_pick_t rfl b21 rfl) rfl ?_
          obtain ⟨w24, c25, h17⟩ := bnd_inv h17
          refine rq (so_ixR0 rfl rfl sl_47 (live_of (lk_own rfl rfl) (by simp [vers])) (idx_bnd c25 (by first | rfl | simp))) rfl ?_
          refine rs (so_store rfl rfl (lk_own rfl rfl) (by simp [vers]) rfl (gpr (map_at (idx_some c25).2.1) gp0) rfl (fo_4 rfl) (fo_4 rfl) (spM (x' := w22) (idx_some c25).2.1 sp0 rfl) (up_own rfl .zero)) (Nat.le_refl _) ?_
          refine rx_nil ?_
          refine kb_n ?_
          have e_ := some_inj h17; subst e_
          exact jk_n (p9.set p8.toNat w22) rfl (WX.trans (wxeq (i := 5) (v' := (.ref S.length 0 ((p9.set p8.toNat w22).length) 0 ((p9.set p8.toNat w22).length) false 4)) rfl (by first | rfl | simp)) (wxs (subc (k := 5) rfl (subc (k := 6) rfl (subc (k := 7) rfl sub0)))))
        · replace h17 := ite_f h17 b21
          refine gn rfl rfl b21 (dnone rfl) ?_
          refine gn rfl rfl b21 (dnone rfl) ?_
          refine gn rfl rfl b21 (dnone rfl) ?_
          refine gn rfl rfl b21 (dnone rfl) ?_
          refine rq (so_pick_f rfl b21 rfl) rfl ?_
          obtain ⟨w26, c27, h17⟩ := bnd_inv h17
          refine rq (so_ixR0 rfl rfl sl_47 (live_of (lk_own rfl rfl) (by simp [vers])) (idx_bnd c27 (by first | rfl | simp))) rfl ?_
          refine rs (so_store rfl rfl (lk_own rfl rfl) (by simp [vers]) rfl (gpr (map_at (idx_some c27).2.1) gp0) rfl (fo_4 rfl) (fo_4 rfl) (spM (x' := false) (idx_some c27).2.1 sp0 rfl) (up_own rfl .zero)) (Nat.le_refl _) ?_
          refine rx_nil ?_
          refine kb_n ?_
          have e_ := some_inj h17; subst e_
          exact jk_n (p9.set p8.toNat false) rfl (WX.trans (wxeq (i := 5) (v' := (.ref S.length 0 ((p9.set p8.toNat false).length) 0 ((p9.set p8.toNat false).length) false 4)) rfl (by first | rfl | simp)) (wxs (subc (k := 5) rfl (subc (k := 6) rfl (subc (k := 7) rfl sub0)))))
      · intro t18 ht
        rw [ht] at h11
        try dsimp only at h11 ⊢
        refine cx_reg rfl ?_
        refine rq (so_move rfl) rfl ?_
        refine rq (so_bin rfl rfl rfl rfl) rfl ?_
        refine rq (so_assign rfl) rfl ?_
        refine rx_nil ?_
        have e_ := some_inj h11; subst e_
        exact lnext rfl (wxs (subc (k := 5) rfl (subc (k := 6) rfl (subc (k := 7) rfl sub0))))
    · replace h11 := ite_f h11 b15
      refine cx_exit ?_
      refine ks_x ?_
      have e_ := some_inj h11; subst e_
      have e_ := h12 _ rfl; subst e_
      refine ldone rfl ?_
      refine kb_e ?_
      have e_ := some_inj h6; subst e_
      exact jk_n p9 rfl (WX.trans (wxs (subc (k := 5) rfl sub0)) (WX.trans (wxcut (k := 1) rfl rfl (List.take_append_drop 1 _).symm (fac (fbr rfl) fa0) (ffc rfl ff0)) (wxs (subc (k := 5) rfl sub0))))
  · intro t7 ht
    rw [ht] at h
    try dsimp only at h ⊢
    refine cx_seq ?_
    refine cx_reg rfl ?_
    refine rq (so_move rfl) rfl ?_
    obtain ⟨r28, c29, h⟩ := bnd_inv h
    refine rc rfl rfl (con_callM (cnc (t := 47) (cref (elems_all (lk_own rfl rfl) (by simp) (by simp))) (cn0 (ts := []))) (mk_own rfl rfl .zero mk0) (C30 c29 _)) (fun h => Nat.le_of_lt h) rfl rfl rfl ?_
    refine rq (so_assign rfl) rfl ?_
    refine rx_nil ?_
    refine kseq ?_
    refine cx_ret ?_
    have e_ := some_inj h; subst e_
    refine qx_ret (.inr rfl) [] (.tmp rfl .nil) (ret0s (solc rfl sol0)) cor
noncomputable def B18_2 (r1 : List Bool) (p6 : Int) (p7 : Int) : Option (Stp (Int × Int) (Int)) :=
  if (decide (p7 < (r1.length : Int))) then (bnd (α := Int) (bnd (idx r1 p7) fun w17 => if w17 then (some (IntKind.wrap .i64 (p6 + 1))) else (some p6)) fun t16 => some (.next (t16, (IntKind.wrap .i64 (p7 + 1))))) else (some (.done p6))
/-- flagstone.flagstoneref14.Size -/
noncomputable def F18 (x0 : List S37) : Option (Int) :=
  bnd (F31 x0) fun r1 => bnd (α := Int) (bnd (loopO (σ := Int × Int) (ρ := Int) (fun s => B18_2 r1 s.1 s.2) (0, 0)) fun z11 => some z11) fun t5 => some t5
theorem C18 {x0 : List S37} {r : Int} (h : F18 x0 = some r) (S : Stk) : Con Proofs.Try.prog full 18 [(.sl false 37 (x0.map e37))] S S.length (intTV r) [] S := by
  have hB : S.length ≤ S.length := Nat.le_refl _
  refine con_of' (n := 21) (rs := [.tmp 2]) (A := [(0, (.sl false 37 (x0.map e37)))]) Proofs.Try.func18 rfl rfl rfl rfl hB rfl ?_
  unfold F18 at h
  refine cx_seq ?_
  refine cx_reg rfl ?_
  refine rq (so_assign rfl) rfl ?_
  refine rx_nil ?_
  refine kseq ?_
  refine cx_seq ?_
  refine cx_reg rfl ?_
  refine rq (so_assign rfl) rfl ?_
  refine rx_nil ?_
  refine kseq ?_
  refine cx_seq ?_
  refine cx_reg rfl ?_
  refine rq (so_move rfl) rfl ?_
  obtain ⟨r1, c2, h⟩ := bnd_inv h
  refine rc rfl rfl (C31 c2 _) (fun h => Nat.le_of_lt h) (mgR (by simp) (rnh (k := 0) rfl rfl rfl) (rbc rnrow rb0) .nil) rfl rfl ?_
  refine rq (so_assign rfl) rfl ?_
  refine rx_nil ?_
  refine kseq ?_
  obtain ⟨t3, h4, h⟩ := bnd_inv h
  refine cx_meet (τ := Int) (fun t => [(3, (intTV t))]) (fun t => ([] :: S)) (fun t => t3 = t) (fun _ => rfl) ?_ ?_
  · refine cx_seq ?_
    refine cx_reg rfl ?_
    refine rq (so_assign rfl) rfl ?_
    refine rx_nil ?_
    refine kseq ?_
    refine cx_block ?_
    obtain ⟨z11, h12, h4⟩ := bnd_inv h4
    refine cx_loop _ (fun s => [(3, (intTV s.1)), (4, (.ref S.length 0 r1.length 0 r1.length false 4)), (5, (intTV s.2))]) (fun s => ([⟨(.row 4 (r1.map boolTV)), false⟩] :: S)) h12 (fun _ => rfl) (wxs (subc (k := 3) rfl (subc (k := 4) rfl (subc (k := 5) rfl sub0)))) ?_
    rintro ⟨p6, p7⟩ y8 h9 h10
    try dsimp only at h9 ⊢
    unfold B18_2 at h9
    refine cx_seq ?_
    refine cx_seq ?_
    refine cx_reg rfl ?_
    refine rq (so_move rfl) rfl ?_
    refine rq (so_move rfl) rfl ?_
    refine rq (so_lenR rfl (live_of (lk_own rfl rfl) (by simp [vers])) k_47) rfl ?_
    refine rq (so_bin rfl rfl rfl rfl) rfl ?_
    refine rx_nil ?_
    refine kseq ?_
    refine cx_cond rfl rfl (fun b13 => ?_) (fun b13 => ?_)
    · replace h9 := ite_t h9 b13
      refine cx_skip ?_
      refine kseq ?_
      obtain ⟨t14, h15, h9⟩ := bnd_inv h9
      refine cx_meet (τ := Int) (fun t => [(3, (intTV t)), (4, (.ref S.length 0 r1.length 0 r1.length false 4)), (5, (intTV p7))]) (fun t => ([⟨(.row 4 (r1.map boolTV)), false⟩] :: S)) (fun t => t14 = t) (fun _ => rfl) ?_ ?_
      · refine cx_block ?_
        refine cx_seq ?_
        refine cx_reg rfl ?_
        refine rq (so_move rfl) rfl ?_
        refine rq (so_move rfl) rfl ?_
        obtain ⟨w17, c18, h15⟩ := bnd_inv h15
        refine rq (so_ixR0 rfl rfl sl_47 (live_of (lk_own rfl rfl) (by simp [vers])) (idx_bnd c18 (by first | rfl | simp))) rfl ?_
        refine rq (so_load rfl (lk_own rfl rfl) (by simp [vers]) (gpr (map_at (idx_some c18).2.1) gp0) (fo_4 rfl)) rfl ?_
        refine rx_nil ?_
        refine kseq ?_
        refine cx_cond rfl rfl (fun b19 => ?_) (fun b19 => ?_)
        · replace h15 := ite_t h15 b19
          refine cx_reg rfl ?_
          refine rq (so_move rfl) rfl ?_
          refine rq (so_bin rfl rfl rfl rfl) rfl ?_
          refine rq (so_assign rfl) rfl ?_
          refine rx_nil ?_
          refine kb_n ?_
          have e_ := some_inj h15; subst e_
          exact jk_n (IntKind.wrap .i64 (p6 + 1)) rfl (wxs (subc (k := 3) rfl (subc (k := 4) rfl (subc (k := 5) rfl sub0))))
        · replace h15 := ite_f h15 b19
          refine cx_skip ?_
          refine kb_n ?_
          have e_ := some_inj h15; subst e_
          exact jk_n p6 rfl (wxs (subc (k := 3) rfl (subc (k := 4) rfl (subc (k := 5) rfl sub0))))
      · intro t16 ht
        rw [ht] at h9
        try dsimp only at h9 ⊢
        refine cx_reg rfl ?_
        refine rq (so_move rfl) rfl ?_
        refine rq (so_bin rfl rfl rfl rfl) rfl ?_
        refine rq (so_assign rfl) rfl ?_
        refine rx_nil ?_
        have e_ := some_inj h9; subst e_
        exact lnext rfl (wxs (subc (k := 3) rfl (subc (k := 4) rfl (subc (k := 5) rfl sub0))))
    · replace h9 := ite_f h9 b13
      refine cx_exit ?_
      refine ks_x ?_
      have e_ := some_inj h9; subst e_
      have e_ := h10 _ rfl; subst e_
      refine ldone rfl ?_
      refine kb_e ?_
      have e_ := some_inj h4; subst e_
      exact jk_n p6 rfl (WX.trans (wxs (subc (k := 3) rfl sub0)) (WX.trans (wxcut (k := 0) rfl rfl (List.take_append_drop 0 _).symm (fac (fbs rfl) fa0) ff0) (wxs (subc (k := 3) rfl sub0))))
  · intro t5 ht
    rw [ht] at h
    try dsimp only at h ⊢
    refine cx_seq ?_
    refine cx_reg rfl ?_
    refine rq (so_move rfl) rfl ?_
    refine rq (so_assign rfl) rfl ?_
    refine rx_nil ?_
    refine kseq ?_
    refine cx_ret ?_
    have e_ := some_inj h; subst e_
    refine qx_ret (.inr rfl) [] (.tmp rfl .nil) (ret0s (solc rfl sol0)) cor
/-- flagstone.traffic.First$1 -/
noncomputable def F32 (x0 : Int) (x1 : Vector Bool 10000) (x2 : Int) : Option (Bool × Int) :=
  bnd (α := Bool) (bnd (idx x1.toList x0) fun w4 => if (!w4) then (some true) else (some (decide (x2 ≤ 0)))) fun t3 => if t3 then (some (false, x2)) else (some (true, (IntKind.wrap .i64 (x2 - 1))))
theorem C32 {x0 : Int} {x1 : Vector Bool 10000} {x2 : Int} {r : Bool × Int} (h : F32 x0 x1 x2 = some r) {S : Stk} {L0 K0 L1 K1 : Nat} (hL : LowIn S [(L0, K0, ⟨(e42 x1), false⟩), (L1, K1, ⟨(intTV x2), false⟩)]) {B : Nat} (hB : B ≤ S.length ∧ B ≤ L1) : Con Proofs.Try.prog full 32 [(intTV x0), (.ptr L0 K0 0 []), (.ptr L1 K1 0 [])] S B (boolTV r.1) [] (lows S [(L0, K0, ⟨(e42 x1), false⟩), (L1, K1, ⟨(intTV r.2), false⟩)]) := by
  refine con_of' (n := 15) (rs := [.tmp 4]) (A := [(0, (intTV x0)), (1, (.ptr L0 K0 0 [])), (2, (.ptr L1 K1 0 []))]) Proofs.Try.func32 rfl rfl rfl rfl (by omega) rfl ?_
  refine cx_lows hL ?_
  unfold F32 at h
  refine cx_seq ?_
  refine cx_reg rfl ?_
  refine rq (so_assign rfl) rfl ?_
  refine rx_nil ?_
  refine kseq ?_
  refine cx_seq ?_
  obtain ⟨t1, h2, h⟩ := bnd_inv h
  refine cx_meet (τ := Bool) (fun t => [(2, (.ptr L1 K1 0 [])), (12, (boolTV t))]) (fun t => ([] :: (lows S [(L0, K0, ⟨(e42 x1), false⟩), (L1, K1, ⟨(intTV x2), false⟩)]))) (fun t => t1 = t) (fun _ => by simp [length_lows]) ?_ ?_
  · refine cx_reg rfl ?_
    refine rq (so_move rfl) rfl ?_
    obtain ⟨w4, c5, h2⟩ := bnd_inv h2
    refine rq (so_ixP rfl rfl ar_42 (live_of (lk_lows (i := 0) (hL.ok.keys (cs := [(L0, K0, ⟨(e42 x1), false⟩), (L1, K1, ⟨(intTV x2), false⟩)]) rfl) rfl) rfl) (idx_bnd c5 (by simp))) rfl ?_
    refine rq (so_load rfl (lk_lows (i := 0) (hL.ok.keys (cs := [(L0, K0, ⟨(e42 x1), false⟩), (L1, K1, ⟨(intTV x2), false⟩)]) rfl) rfl) rfl (gpa (map_at (idx_some c5).2.1) gp0) (fo_4 rfl)) rfl ?_
    refine rq (so_un rfl rfl rfl) rfl ?_
    refine rq (so_move rfl) rfl ?_
    rcases Bool.eq_false_or_eq_true (!w4) with b6 | b6
    · replace h2 := ite_t h2 b6
      refine gn rfl rfl b6 (dnone rfl) ?_
      refine gn rfl rfl b6 (dnone rfl) ?_
      refine rq (so_pick_t rfl b6 rfl) rfl ?_
      refine rx_nil ?_
      have e_ := some_inj h2; subst e_
      exact jk_n true rfl (wxs (subc (k := 2) rfl (subc (k := 12) rfl sub0)))
    · replace h2 := ite_f h2 b6
      refine gy rfl rfl b6 ?_
      refine rq (so_load rfl (lk_lows (i := 1) (hL.ok.keys (cs := [(L0, K0, ⟨(e42 x1), false⟩), (L1, K1, ⟨(intTV x2), false⟩)]) rfl) rfl) rfl gp0 (fo_3 rfl)) rfl ?_
      refine gy rfl rfl b6 ?_
      refine rq (so_bin rfl rfl rfl rfl) rfl ?_
      refine rq (so_pick_f rfl b6 rfl) rfl ?_
      refine rx_nil ?_
      have e_ := some_inj h2; subst e_
      exact jk_n (decide (x2 ≤ 0)) rfl (wxs (subc (k := 2) rfl (subc (k := 12) rfl sub0)))
  · intro t3 ht
    rw [ht] at h
    try dsimp only at h ⊢
    refine cx_cond rfl rfl (fun b7 => ?_) (fun b7 => ?_)
    · replace h := ite_t h b7
      refine cx_seq ?_
      refine cx_reg rfl ?_
      refine rq (so_assign rfl) rfl ?_
      refine rx_nil ?_
      refine kseq ?_
      refine cx_ret ?_
      refine ks_r ?_
      have e_ := some_inj h; subst e_
      refine qx_ret (.inr rfl) [] (.tmp rfl .nil) (ret0s (solc rfl sol0)) cor
    · replace h := ite_f h b7
      refine cx_skip ?_
      refine kseq ?_
      refine cx_seq ?_
      refine cx_reg rfl ?_
      refine rq (so_load rfl (lk_lows (i := 1) (hL.ok.keys (cs := [(L0, K0, ⟨(e42 x1), false⟩), (L1, K1, ⟨(intTV x2), false⟩)]) rfl) rfl) rfl gp0 (fo_3 rfl)) rfl ?_
      refine rq (so_bin rfl rfl rfl rfl) rfl ?_
      refine rs (so_store rfl rfl (lk_lows (i := 1) (hL.ok.keys (cs := [(L0, K0, ⟨(e42 x1), false⟩), (L1, K1, ⟨(intTV x2), false⟩)]) rfl) rfl) rfl rfl gp0 rfl (fo_3 rfl) (fo_3 rfl) sp0 (up_lows (i := 1) (hL.ok.keys (cs := [(L0, K0, ⟨(e42 x1), false⟩), (L1, K1, ⟨(intTV x2), false⟩)]) rfl) rfl (.succ .zero))) (by have := hB; omega) ?_
      refine rx_nil ?_
      refine kseq ?_
      refine cx_seq ?_
      refine cx_reg rfl ?_
      refine rq (so_assign rfl) rfl ?_
      refine rx_nil ?_
      refine kseq ?_
      refine cx_ret ?_
      have e_ := some_inj h; subst e_
      refine qx_ret (.inr rfl) [] (.tmp rfl .nil) (ret0s (solc rfl sol0)) cor
noncomputable def B26_3_2 (x0 : Vector Bool 10000) (p4 : Int) (p5 : List S37) (p6 : Int) : Option (Stp (Int × (List S37) × Int) ((List S37) × Int)) :=
  if (decide (p4 < 10000)) then (bnd (α := (List S37) × Int) (bnd (F32 p4 x0 p6) fun r16 => if (!r16.1) then (some (p5, r16.2)) else (bnd (α := Bool) (if (decide ((p5.length : Int) > 0)) then (bnd (idx p5 (IntKind.wrap .i64 ((p5.length : Int) - 1))) fun w23 => some (w23.To == p4)) else (some false)) fun t21 => if t21 then (bnd (idx p5 (IntKind.wrap .i64 ((p5.length : Int) - 1))) fun w26 => some ((p5.set ((IntKind.wrap .i64 ((p5.length : Int) - 1)).toNat) ({ w26 with To := (IntKind.wrap .i64 (p4 + 1)) })), r16.2)) else (chk (¬ (2 * (p5.length + [(⟨p4, (IntKind.wrap .i64 (p4 + 1))⟩ : S37)].length) + 400) * 16 > 281474976710656) <| some ((p5 ++ [(⟨p4, (IntKind.wrap .i64 (p4 + 1))⟩ : S37)]), r16.2)))) fun t15 => some (.next ((IntKind.wrap .i64 (p4 + 1)), t15.1, t15.2))) else (some (.done (p5, p6)))
/-- flagstone.traffic.spans -/
noncomputable def F26_3 (x0 : Vector Bool 10000) (x1 : Int) : Option ((List S37) × Int) :=
  bnd (α := (List S37) × Int) (bnd (loopO (σ := Int × (List S37) × Int) (ρ := (List S37) × Int) (fun s => B26_3_2 x0 s.1 s.2.1 s.2.2) (0, [], x1)) fun z10 => some (z10.1, z10.2)) fun t3 => some (t3.1, t3.2)
theorem C26_3 {x0 : Vector Bool 10000} {x1 : Int} {r : (List S37) × Int} (h : F26_3 x0 x1 = some r) {S : Stk} {L0 K0 L1 K1 : Nat} (hL : LowIn S [(L0, K0, ⟨(e42 x0), false⟩), (L1, K1, ⟨(intTV x1), false⟩)]) {B : Nat} (hB : B ≤ S.length ∧ B ≤ L1) : Con Proofs.Try.prog full 26 [(.fn 32 [] [(.ptr L0 K0 0 []), (.ptr L1 K1 0 [])])] S B (.sl false 37 (r.1.map e37)) [] (lows S [(L0, K0, ⟨(e42 x0), false⟩), (L1, K1, ⟨(intTV r.2), false⟩)]) := by
  refine con_of' (n := 43) (rs := [.tmp 2]) (A := [(0, (.fn 32 [] [(.ptr L0 K0 0 []), (.ptr L1 K1 0 [])]))]) Proofs.Try.func26 rfl rfl rfl rfl (by omega) rfl ?_
  refine cx_lows hL ?_
  unfold F26_3 at h
  refine cx_seq ?_
  refine cx_reg rfl ?_
  refine rq (so_assign rfl) rfl ?_
  refine rx_nil ?_
  refine kseq ?_
  refine cx_seq ?_
  refine cx_reg rfl ?_
  refine rq (so_assign rfl) rfl ?_
  refine rx_nil ?_
  refine kseq ?_
  obtain ⟨t1, h2, h⟩ := bnd_inv h
  refine cx_meet (τ := (List S37) × Int) (fun t => [(3, (.ref S.length 0 t.1.length 0 t.1.length false 37))]) (fun t => ([⟨(.row 37 (t.1.map e37)), false⟩] :: (lows S [(L0, K0, ⟨(e42 x0), false⟩), (L1, K1, ⟨(intTV t.2), false⟩)]))) (fun t => t1 = t) (fun _ => by simp [length_lows]) ?_ ?_
  · refine cx_seq ?_
    refine cx_reg rfl ?_
    refine rq (so_move rfl) rfl ?_
    refine rx_nil ?_
    refine kseq ?_
    refine cx_block ?_
    obtain ⟨z10, h11, h2⟩ := bnd_inv h2
    refine cx_loop _ (fun s => [(0, (.fn 32 [] [(.ptr L0 K0 0 []), (.ptr L1 K1 0 [])])), (3, (.ref S.length 0 s.2.1.length 0 s.2.1.length false 37)), (6, (intTV s.1))]) (fun s => ([⟨(.row 37 (s.2.1.map e37)), false⟩] :: (lows S [(L0, K0, ⟨(e42 x0), false⟩), (L1, K1, ⟨(intTV s.2.2), false⟩)]))) h11 (fun _ => by simp [length_lows]) (WX.trans (wxgrow (i := 3) 37 rfl (length_lows _ _) rfl .nil) (wxs (subc (k := 0) rfl (subc (k := 3) rfl (subc (k := 6) rfl sub0))))) ?_
    rintro ⟨p4, p5, p6⟩ y7 h8 h9
    try dsimp only at h8 ⊢
    unfold B26_3_2 at h8
    refine cx_seq ?_
    refine cx_reg rfl ?_
    refine rq (so_bin rfl rfl rfl rfl) rfl ?_
    refine rx_nil ?_
    refine kseq ?_
    refine cx_seq ?_
    refine cx_cond rfl rfl (fun b12 => ?_) (fun b12 => ?_)
    · replace h8 := ite_t h8 b12
      refine cx_skip ?_
      refine kseq ?_
      obtain ⟨t13, h14, h8⟩ := bnd_inv h8
      refine cx_meet (τ := (List S37) × Int) (fun t => [(0, (.fn 32 [] [(.ptr L0 K0 0 []), (.ptr L1 K1 0 [])])), (3, (.ref S.length 0 t.1.length 0 t.1.length false 37)), (6, (intTV p4))]) (fun t => ([⟨(.row 37 (t.1.map e37)), false⟩] :: (lows S [(L0, K0, ⟨(e42 x0), false⟩), (L1, K1, ⟨(intTV t.2), false⟩)]))) (fun t => t13 = t) (fun _ => by simp [length_lows]) ?_ ?_
      · refine cx_block ?_
        refine cx_seq ?_
        refine cx_reg rfl ?_
        refine rq (so_move rfl) rfl ?_
        refine rq (so_assign rfl) rfl ?_
        refine rx_nil ?_
        refine kseq ?_
        refine cx_seq ?_
        refine cx_seq ?_
        refine cx_reg rfl ?_
        refine rq (so_move rfl) rfl ?_
        refine rq (so_move rfl) rfl ?_
        obtain ⟨r16, c17, h14⟩ := bnd_inv h14
        refine rc rfl rfl (con_lows (C32 c17 (lic (lk_lows (i := 0) (hL.ok.keys (cs := [(L0, K0, ⟨(e42 x0), false⟩), (L1, K1, ⟨(intTV p6), false⟩)]) rfl) rfl) (nqc (by have := hL.2.1 _ (.head _); simp only at this; omega) nq0) (lic (lk_lows (i := 1) (hL.ok.keys (cs := [(L0, K0, ⟨(e42 x0), false⟩), (L1, K1, ⟨(intTV p6), false⟩)]) rfl) rfl) nq0 li0)) ⟨(by have := hB; first | omega | (simp only [length_lows, List.length_cons]; omega)), (by have := hB; first | omega | (simp only [length_lows, List.length_cons]; omega))⟩) (.cons (.cons .nil (up_lows (i := 1) (hL.ok.keys (cs := [(L0, K0, ⟨(e42 x0), false⟩), (L1, K1, ⟨(intTV p6), false⟩)]) rfl) rfl (.succ .zero))) (up_lows (i := 0) (hL.ok.keys (cs := [(L0, K0, ⟨(e42 x0), false⟩), (L1, K1, ⟨(intTV r16.2), false⟩)]) rfl) rfl .zero))) (fun _ => Nat.le_refl _) rfl (by simp [length_lows]) rfl ?_
        refine rq (so_un rfl rfl rfl) rfl ?_
        refine rx_nil ?_
        refine kseq ?_
        refine cx_cond rfl rfl (fun b18 => ?_) (fun b18 => ?_)
        · replace h14 := ite_t h14 b18
          refine cx_exit ?_
          refine ks_x ?_
          refine kb_e ?_
          have e_ := some_inj h14; subst e_
          exact jk_n (p5, r16.2) rfl (wxs (subc (k := 0) rfl (subc (k := 3) rfl (subc (k := 6) rfl sub0))))
        · replace h14 := ite_f h14 b18
          refine cx_skip ?_
          refine kseq ?_
          refine cx_seq ?_
          refine cx_reg rfl ?_
          refine rq (so_move rfl) rfl ?_
          refine rq (so_lenR rfl (live_of (lk_own (length_lows _ _) rfl) (by simp [vers])) k_24) rfl ?_
          refine rq (so_assign rfl) rfl ?_
          refine rx_nil ?_
          refine kseq ?_
          obtain ⟨t19, h20, h14⟩ := bnd_inv h14
          refine cx_meet (τ := Bool) (fun t => [(0, (.fn 32 [] [(.ptr L0 K0 0 []), (.ptr L1 K1 0 [])])), (3, (.ref S.length 0 p5.length 0 p5.length false 37)), (4, (intTV p4)), (5, (intTV (p5.length : Int))), (6, (intTV p4)), (26, (boolTV t))]) (fun t => ([⟨(.row 37 (p5.map e37)), false⟩] :: (lows S [(L0, K0, ⟨(e42 x0), false⟩), (L1, K1, ⟨(intTV r16.2), false⟩)]))) (fun t => t19 = t) (fun _ => by simp [length_lows]) ?_ ?_
          · refine cx_reg rfl ?_
            refine rq (so_move rfl) rfl ?_
            refine rq (so_bin rfl rfl rfl rfl) rfl ?_
            refine rq (so_move rfl) rfl ?_
            rcases Bool.eq_false_or_eq_true (decide ((p5.length : Int) > 0)) with b22 | b22
            · replace h20 := ite_t h20 b22
              refine gy rfl rfl b22 ?_
              refine rq (so_move rfl) rfl ?_
              refine gy rfl rfl b22 ?_
              refine rq (so_move rfl) rfl ?_
              refine gy rfl rfl b22 ?_
              refine rq (so_bin rfl rfl rfl rfl) rfl ?_
              obtain ⟨w23, c24, h20⟩ := bnd_inv h20
              refine gy rfl rfl b22 ?_
              refine rq (so_ixR0 rfl rfl sl_24 (live_of (lk_own (length_lows _ _) rfl) (by simp [vers])) (idx_bnd c24 (by first | rfl | simp))) rfl ?_
              refine gy rfl rfl b22 ?_
              refine rq (so_faddr rfl fok_37_1 (live_of (lk_own (length_lows _ _) rfl) (by simp [vers]))) rfl ?_
              refine gy rfl rfl b22 ?_
              refine rq (so_load rfl (lk_own (length_lows _ _) rfl) (by simp [vers]) (gpr (map_at (idx_some c24).2.1) (gpf rfl gp0)) (fo_3 rfl)) rfl ?_
              refine gy rfl rfl b22 ?_
              refine rq (so_move rfl) rfl ?_
              refine gy rfl rfl b22 ?_
              refine rq (so_bin rfl rfl rfl rfl) rfl ?_
              refine rq (so_pick_t rfl b22 rfl) rfl ?_
              refine rx_nil ?_
              have e_ := some_inj h20; subst e_
              exact jk_n (w23.To == p4) rfl (wxs (subc (k := 0) rfl (subc (k := 3) rfl (subc (k := 4) rfl (subc (k := 5) rfl (subc (k := 6) rfl (subc (k := 26) rfl sub0)))))))
            · replace h20 := ite_f h20 b22
              refine gn rfl rfl b22 (dnone rfl) ?_
              refine gn rfl rfl b22 (dnone rfl) ?_
              refine gn rfl rfl b22 (dnone rfl) ?_
              refine gn rfl rfl b22 (dnone rfl) ?_
              refine gn rfl rfl b22 (dnone rfl) ?_
              refine gn rfl rfl b22 (dnone rfl) ?_
              refine gn rfl rfl b22 (dnone rfl) ?_
              refine gn rfl rfl b22 (dnone rfl) ?_
              refine rq (so_pick_f rfl b22 rfl) rfl ?_
              refine rx_nil ?_
              have e_ := some_inj h20; subst e_
              exact jk_n false rfl (wxs (subc (k := 0) rfl (subc (k := 3) rfl (subc (k := 4) rfl (subc (k := 5) rfl (subc (k := 6) rfl (subc (k := 26) rfl sub0)))))))
          · intro t21 ht
            rw [ht] at h14
            try dsimp only at h14 ⊢
            refine cx_cond rfl rfl (fun b25 => ?_) (fun b25 => ?_)
            · replace h14 := ite_t h14 b25
              refine cx_reg rfl ?_
              refine rq (so_move rfl) rfl ?_
              refine rq (so_move rfl) rfl ?_
              refine rq (so_bin rfl rfl rfl rfl) rfl ?_
              refine rq (so_move rfl) rfl ?_
              refine rq (so_bin rfl rfl rfl rfl) rfl ?_
              obtain ⟨w26, c27, h14⟩ := bnd_inv h14
              refine rq (so_ixR0 rfl rfl sl_24 (live_of (lk_own (length_lows _ _) rfl) (by simp [vers])) (idx_bnd c27 (by first | rfl | simp))) rfl ?_
              refine rq (so_faddr rfl fok_37_1 (live_of (lk_own (length_lows _ _) rfl) (by simp [vers]))) rfl ?_
              refine rs (so_store rfl rfl (lk_own (length_lows _ _) rfl) (by simp [vers]) rfl (gpr (map_at (idx_some c27).2.1) (gpf rfl gp0)) rfl (fo_3 rfl) (fo_3 rfl) (spM (x' := { w26 with To := (IntKind.wrap .i64 (p4 + 1)) }) (idx_some c27).2.1 (spf rfl sp0 (.succ .zero)) rfl) (up_own (length_lows _ _) .zero)) (by have := hB; omega) ?_
              refine rx_nil ?_
              refine kb_n ?_
              have e_ := some_inj h14; subst e_
              exact jk_n ((p5.set ((IntKind.wrap .i64 ((p5.length : Int) - 1)).toNat) ({ w26 with To := (IntKind.wrap .i64 (p4 + 1)) })), r16.2) rfl (WX.trans (wxeq (i := 3) (v' := (.ref S.length 0 ((p5.set ((IntKind.wrap .i64 ((p5.length : Int) - 1)).toNat) ({ w26 with To := (IntKind.wrap .i64 (p4 + 1)) })).length) 0 ((p5.set ((IntKind.wrap .i64 ((p5.length : Int) - 1)).toNat) ({ w26 with To := (IntKind.wrap .i64 (p4 + 1)) })).length) false 37)) rfl (by first | rfl | simp)) (wxs (subc (k := 0) rfl (subc (k := 3) rfl (subc (k := 6) rfl sub0)))))
            · replace h14 := ite_f h14 b25
              refine cx_reg rfl ?_
              refine rq (so_move rfl) rfl ?_
              refine rq (so_move rfl) rfl ?_
              refine rq (so_move rfl) rfl ?_
              refine rq (so_bin rfl rfl rfl rfl) rfl ?_
              refine rq (so_build rfl zero_37 sz_37 (.cons ft_37_0 (fo_3 rfl) .zero (.cons ft_37_1 (fo_3 rfl) (.succ .zero) .nil))) rfl ?_
              refine rq (so_to (so_bslice (l := [(e37 (⟨p4, (IntKind.wrap .i64 (p4 + 1))⟩ : S37))]) (ks := []) rfl sl_24 zero_37 (snapL_solid (solc (so_e37 (⟨p4, (IntKind.wrap .i64 (p4 + 1))⟩ : S37)) sol0)) rfl rfl (by decide) (fl_memc fo_37 (so_e37 (⟨p4, (IntKind.wrap .i64 (p4 + 1))⟩ : S37)) fl_mem0) rfl) (rfl : _ = TV.sl true 37 (List.map e37 [(⟨p4, (IntKind.wrap .i64 (p4 + 1))⟩ : S37)]))) rfl ?_
              obtain ⟨c28, h14⟩ := chk_inv h14
              refine rw' (so_appR (g := e37) (c := p5) (m := [(⟨p4, (IntKind.wrap .i64 (p4 + 1))⟩ : S37)]) rfl rfl (by rw [k_24]; decide) sl_24 (lk_own (length_lows _ _) rfl) (by simp) (by simp) (addends_of elems_sl) (so_e37) c28 (up_own (length_lows _ _) .zero)) (by have := hB; omega) rfl ?_
              refine rq (so_assign rfl) rfl ?_
              refine rx_nil ?_
              refine kb_n ?_
              have e_ := some_inj h14; subst e_
              exact jk_n ((p5 ++ [(⟨p4, (IntKind.wrap .i64 (p4 + 1))⟩ : S37)]), r16.2) rfl (wxs (subc (k := 0) rfl (subc (k := 3) rfl (subc (k := 6) rfl sub0))))
      · intro t15 ht
        rw [ht] at h8
        try dsimp only at h8 ⊢
        refine cx_reg rfl ?_
        refine rq (so_bin rfl rfl rfl rfl) rfl ?_
        refine rq (so_move rfl) rfl ?_
        refine rx_nil ?_
        have e_ := some_inj h8; subst e_
        exact lnext rfl (wxs (subc (k := 0) rfl (subc (k := 3) rfl (subc (k := 6) rfl sub0))))
    · replace h8 := ite_f h8 b12
      refine cx_exit ?_
      refine ks_x ?_
      have e_ := some_inj h8; subst e_
      have e_ := h9 _ rfl; subst e_
      refine ldone rfl ?_
      refine kb_e ?_
      have e_ := some_inj h2; subst e_
      exact jk_n (p5, p6) rfl (wxs (subc (k := 3) rfl sub0))
  · intro t3 ht
    rw [ht] at h
    try dsimp only at h ⊢
    refine cx_seq ?_
    refine cx_reg rfl ?_
    refine rq (so_move rfl) rfl ?_
    refine rq (so_assign rfl) rfl ?_
    refine rx_nil ?_
    refine kseq ?_
    refine cx_ret ?_
    have e_ := some_inj h; subst e_
    refine qx_ret (.inr rfl) [] (.tmp rfl .nil) (ret0 (snapL_of (sulc (su_ref (elems_all (lk_own (length_lows _ _) rfl) (by simp) (by simp))) sul0) rfl) (mk_own (length_lows _ _) rfl .zero mk0) (solc rfl sol0)) cor
/-- flagstone.traffic.First -/
noncomputable def F19 (x0 : List S37) (x1 : Int) : Option (List S37) :=
  bnd (F25 [x0]) fun r1 => bnd (F26_3 r1 x1) fun r3 => some r3.1
theorem C19 {x0 : List S37} {x1 : Int} {r : List S37} (h : F19 x0 x1 = some r) (S : Stk) : Con Proofs.Try.prog full 19 [(.sl false 37 (x0.map e37)), (intTV x1)] S S.length (.sl false 37 (r.map e37)) [] S := by
  have hB : S.length ≤ S.length := Nat.le_refl _
  refine con_of' (n := 11) (rs := [.tmp 4]) (A := [(0, (.sl false 37 (x0.map e37))), (1, (intTV x1))]) Proofs.Try.func19 rfl rfl rfl rfl hB rfl ?_
  unfold F19 at h
  refine cx_seq ?_
  refine cx_reg rfl ?_
  refine rq (so_box (k := 0) rfl rfl rfl rfl rfl .nil) rfl ?_
  refine rq (so_assign rfl) rfl ?_
  refine rx_nil ?_
  refine kseq ?_
  refine cx_seq ?_
  refine cx_reg rfl ?_
  refine rq (so_move rfl) rfl ?_
  refine rq (so_to (so_bslice (l := [(.sl false 37 (x0.map e37))]) (ks := []) rfl sl_51 zero_24 (snapL_solid (solc rfl sol0)) rfl rfl (by decide) (fl_memc (fo_24 rfl) rfl fl_mem0) rfl) (rfl : _ = TV.sl true 24 (List.map e24 [x0]))) rfl ?_
  obtain ⟨r1, c2, h⟩ := bnd_inv h
  refine rcp rfl rfl (con_cv (.cons (co1 rfl cvx) .nil) (C25 c2 _)) rfl ?_
  refine rq (so_alloc (k := 1) zero_42 rfl rfl (.cons .nil)) rfl ?_
  refine rs (so_store0 rfl rfl (lk_own rfl rfl) rfl rfl gp0 rfl rfl fo_42 fo_42 sp0 (up_own rfl (.succ .zero))) (Nat.le_refl _) ?_
  refine rx_nil ?_
  refine kseq ?_
  refine cx_seq ?_
  refine cx_reg rfl ?_
  refine rq (so_fn rfl rfl rfl) rfl ?_
  obtain ⟨r3, c4, h⟩ := bnd_inv h
  refine rc rfl rfl (con_lows (C26_3 c4 (lic (lk_own rfl rfl) (nqc (.inr (by decide)) nq0) (lic (lk_own rfl rfl) nq0 li0)) ⟨(by have := hB; first | omega | (simp only [length_lows, List.length_cons]; omega)), (by have := hB; first | omega | (simp only [length_lows, List.length_cons]; omega))⟩) (.cons (.cons .nil (up_own rfl .zero)) (up_own rfl (.succ .zero)))) (fun _ => Nat.le_refl _) rfl (by simp [length_lows]) rfl ?_
  refine rq (so_assign rfl) rfl ?_
  refine rx_nil ?_
  refine kseq ?_
  refine cx_ret ?_
  have e_ := some_inj h; subst e_
  refine qx_ret (.inr rfl) [] (.tmp rfl .nil) (ret0s (solc rfl sol0)) cor
noncomputable def B20_2 (p6 : Int) (p7 : Int) (p8 : List Bool) : Option (Stp (Int × Int × (List Bool)) (List Bool)) :=
  if (decide (p7 < (p8.length : Int))) then (bnd (α := Int × (List Bool)) (bnd (α := Bool) (bnd (idx p8 p7) fun w21 => if w21 then (some (decide (p6 ≤ 0))) else (some false)) fun t20 => if t20 then (bnd (idx p8 p7) fun w25 => some (p6, (p8.set p7.toNat false))) else (bnd (idx p8 p7) fun w27 => if w27 then (some ((IntKind.wrap .i64 (p6 - 1)), p8)) else (some (p6, p8)))) fun t17 => some (.next (t17.1, (IntKind.wrap .i64 (p7 + 1)), t17.2))) else (some (.done p8))
/-- flagstone.flagstoneref14.First -/
noncomputable def F20 (x0 : List S37) (x1 : Int) : Option (List S37) :=
  bnd (F31 x0) fun r1 => bnd (α := List Bool) (bnd (loopO (σ := Int × Int × (List Bool)) (ρ := List Bool) (fun s => B20_2 s.1 s.2.1 s.2.2) (x1, 0, r1)) fun z12 => some z12) fun t5 => bnd (F30 t5) fun r30 => some r30
theorem C20 {x0 : List S37} {x1 : Int} {r : List S37} (h : F20 x0 x1 = some r) (S : Stk) : Con Proofs.Try.prog full 20 [(.sl false 37 (x0.map e37)), (intTV x1)] S S.length (.sl false 37 (r.map e37)) [] S := by
  have hB : S.length ≤ S.length := Nat.le_refl _
  refine con_of' (n := 34) (rs := [.tmp 4]) (A := [(0, (.sl false 37 (x0.map e37))), (1, (intTV x1))]) Proofs.Try.func20 rfl rfl rfl rfl hB rfl ?_
  unfold F20 at h
  refine cx_seq ?_
  refine cx_reg rfl ?_
  refine rq (so_assign rfl) rfl ?_
  refine rx_nil ?_
  refine kseq ?_
  refine cx_seq ?_
  refine cx_reg rfl ?_
  refine rq (so_move rfl) rfl ?_
  obtain ⟨r1, c2, h⟩ := bnd_inv h
  refine rc rfl rfl (C31 c2 _) (fun h => Nat.le_of_lt h) (mgR (by simp) (rnh (k := 0) rfl rfl rfl) (rbc rnrow rb0) .nil) rfl rfl ?_
  refine rq (so_assign rfl) rfl ?_
  refine rx_nil ?_
  refine kseq ?_
  obtain ⟨t3, h4, h⟩ := bnd_inv h
  refine cx_meet (τ := List Bool) (fun t => [(5, (.ref S.length 0 t.length 0 t.length false 4))]) (fun t => ([⟨(.row 4 (t.map boolTV)), false⟩] :: S)) (fun t => t3 = t) (fun _ => rfl) ?_ ?_
  · refine cx_seq ?_
    refine cx_reg rfl ?_
    refine rq (so_assign rfl) rfl ?_
    refine rx_nil ?_
    refine kseq ?_
    refine cx_block ?_
    obtain ⟨z12, h13, h4⟩ := bnd_inv h4
    refine cx_loop _ (fun s => [(1, (intTV s.1)), (5, (.ref S.length 0 s.2.2.length 0 s.2.2.length false 4)), (6, (intTV s.2.1))]) (fun s => ([⟨(.row 4 (s.2.2.map boolTV)), false⟩] :: S)) h13 (fun _ => rfl) (wxs (subc (k := 1) rfl (subc (k := 5) rfl (subc (k := 6) rfl sub0)))) ?_
    rintro ⟨p6, p7, p8⟩ y9 h10 h11
    try dsimp only at h10 ⊢
    unfold B20_2 at h10
    refine cx_seq ?_
    refine cx_seq ?_
    refine cx_reg rfl ?_
    refine rq (so_move rfl) rfl ?_
    refine rq (so_move rfl) rfl ?_
    refine rq (so_lenR rfl (live_of (lk_own rfl rfl) (by simp [vers])) k_47) rfl ?_
    refine rq (so_bin rfl rfl rfl rfl) rfl ?_
    refine rx_nil ?_
    refine kseq ?_
    refine cx_cond rfl rfl (fun b14 => ?_) (fun b14 => ?_)
    · replace h10 := ite_t h10 b14
      refine cx_skip ?_
      refine kseq ?_
      obtain ⟨t15, h16, h10⟩ := bnd_inv h10
      refine cx_meet (τ := Int × (List Bool)) (fun t => [(1, (intTV t.1)), (5, (.ref S.length 0 t.2.length 0 t.2.length false 4)), (6, (intTV p7))]) (fun t => ([⟨(.row 4 (t.2.map boolTV)), false⟩] :: S)) (fun t => t15 = t) (fun _ => rfl) ?_ ?_
      · refine cx_block ?_
        obtain ⟨t18, h19, h16⟩ := bnd_inv h16
        refine cx_meet (τ := Bool) (fun t => [(1, (intTV p6)), (5, (.ref S.length 0 p8.length 0 p8.length false 4)), (6, (intTV p7)), (22, (boolTV t))]) (fun t => ([⟨(.row 4 (p8.map boolTV)), false⟩] :: S)) (fun t => t18 = t) (fun _ => rfl) ?_ ?_
        · refine cx_reg rfl ?_
          refine rq (so_move rfl) rfl ?_
          refine rq (so_move rfl) rfl ?_
          obtain ⟨w21, c22, h19⟩ := bnd_inv h19
          refine rq (so_ixR0 rfl rfl sl_47 (live_of (lk_own rfl rfl) (by simp [vers])) (idx_bnd c22 (by first | rfl | simp))) rfl ?_
          refine rq (so_load rfl (lk_own rfl rfl) (by simp [vers]) (gpr (map_at (idx_some c22).2.1) gp0) (fo_4 rfl)) rfl ?_
          refine rq (so_move rfl) rfl ?_
          rcases Bool.eq_false_or_eq_true w21 with b23 | b23
          · replace h19 := ite_t h19 b23
            refine gy rfl rfl b23 ?_
            refine rq (so_move rfl) rfl ?_
            refine gy rfl rfl b23 ?_
            refine rq (so_bin rfl rfl rfl rfl) rfl ?_
            refine rq (so_pick_t rfl b23 rfl) rfl ?_
            refine rx_nil ?_
            have e_ := some_inj h19; subst e_
            exact jk_n (decide (p6 ≤ 0)) rfl (wxs (subc (k := 1) rfl (subc (k := 5) rfl (subc (k := 6) rfl (subc (k := 22) rfl sub0)))))
          · replace h19 := ite_f h19 b23
            refine gn rfl rfl b23 (dnone rfl) ?_
            refine gn rfl rfl b23 (dnone rfl) ?_
            refine rq (so_pick_f rfl b23 rfl) rfl ?_
            refine rx_nil ?_
            have e_ := some_inj h19; subst e_
            exact jk_n false rfl (wxs (subc (k := 1) rfl (subc (k := 5) rfl (subc (k := 6) rfl (subc (k := 22) rfl sub0)))))
        · intro t20 ht
          rw [ht] at h16
          try dsimp only at h16 ⊢
          refine cx_cond rfl rfl (fun b24 => ?_) (fun b24 => ?_)
          · replace h16 := ite_t h16 b24
            refine cx_reg rfl ?_
            refine rq (so_move rfl) rfl ?_
            refine rq (so_move rfl) rfl ?_
            obtain ⟨w25, c26, h16⟩ := bnd_inv h16
            refine rq (so_ixR0 rfl rfl sl_47 (live_of (lk_own rfl rfl) (by simp [vers])) (idx_bnd c26 (by first | rfl | simp))) rfl ?_
            refine rs (so_store rfl rfl (lk_own rfl rfl) (by simp [vers]) rfl (gpr (map_at (idx_some c26).2.1) gp0) rfl (fo_4 rfl) (fo_4 rfl) (spM (x' := false) (idx_some c26).2.1 sp0 rfl) (up_own rfl .zero)) (Nat.le_refl _) ?_
            refine rx_nil ?_
            refine kb_n ?_
            have e_ := some_inj h16; subst e_
            exact jk_n (p6, (p8.set p7.toNat false)) rfl (WX.trans (wxeq (i := 5) (v' := (.ref S.length 0 ((p8.set p7.toNat false).length) 0 ((p8.set p7.toNat false).length) false 4)) rfl (by first | rfl | simp)) (wxs (subc (k := 1) rfl (subc (k := 5) rfl (subc (k := 6) rfl sub0)))))
          · replace h16 := ite_f h16 b24
            refine cx_seq ?_
            refine cx_reg rfl ?_
            refine rq (so_move rfl) rfl ?_
            refine rq (so_move rfl) rfl ?_
            obtain ⟨w27, c28, h16⟩ := bnd_inv h16
            refine rq (so_ixR0 rfl rfl sl_47 (live_of (lk_own rfl rfl) (by simp [vers])) (idx_bnd c28 (by first | rfl | simp))) rfl ?_
            refine rq (so_load rfl (lk_own rfl rfl) (by simp [vers]) (gpr (map_at (idx_some c28).2.1) gp0) (fo_4 rfl)) rfl ?_
            refine rx_nil ?_
            refine kseq ?_
            refine cx_cond rfl rfl (fun b29 => ?_) (fun b29 => ?_)
            · replace h16 := ite_t h16 b29
              refine cx_reg rfl ?_
              refine rq (so_move rfl) rfl ?_
              refine rq (so_bin rfl rfl rfl rfl) rfl ?_
              refine rq (so_assign rfl) rfl ?_
              refine rx_nil ?_
              refine kb_n ?_
              have e_ := some_inj h16; subst e_
              exact jk_n ((IntKind.wrap .i64 (p6 - 1)), p8) rfl (wxs (subc (k := 1) rfl (subc (k := 5) rfl (subc (k := 6) rfl sub0))))
            · replace h16 := ite_f h16 b29
              refine cx_skip ?_
              refine kb_n ?_
              have e_ := some_inj h16; subst e_
              exact jk_n (p6, p8) rfl (wxs (subc (k := 1) rfl (subc (k := 5) rfl (subc (k := 6) rfl sub0))))
      · intro t17 ht
        rw [ht] at h10
        try dsimp only at h10 ⊢
        refine cx_reg rfl ?_
        refine rq (so_move rfl) rfl ?_
        refine rq (so_bin rfl rfl rfl rfl) rfl ?_
        refine rq (so_assign rfl) rfl ?_
        refine rx_nil ?_
        have e_ := some_inj h10; subst e_
        exact lnext rfl (wxs (subc (k := 1) rfl (subc (k := 5) rfl (subc (k := 6) rfl sub0))))
    · replace h10 := ite_f h10 b14
      refine cx_exit ?_
      refine ks_x ?_
      have e_ := some_inj h10; subst e_
      have e_ := h11 _ rfl; subst e_
      refine ldone rfl ?_
      refine kb_e ?_
      have e_ := some_inj h4; subst e_
      exact jk_n p8 rfl (wxs (subc (k := 5) rfl sub0))
  · intro t5 ht
    rw [ht] at h
    try dsimp only at h ⊢
    refine cx_seq ?_
    refine cx_reg rfl ?_
    refine rq (so_move rfl) rfl ?_
    obtain ⟨r30, c31, h⟩ := bnd_inv h
    refine rc rfl rfl (con_callM (cnc (t := 47) (cref (elems_all (lk_own rfl rfl) (by simp) (by simp))) (cn0 (ts := []))) (mk_own rfl rfl .zero mk0) (C30 c31 _)) (fun h => Nat.le_of_lt h) rfl rfl rfl ?_
    refine rq (so_assign rfl) rfl ?_
    refine rx_nil ?_
    refine kseq ?_
    refine cx_ret ?_
    have e_ := some_inj h; subst e_
    refine qx_ret (.inr rfl) [] (.tmp rfl .nil) (ret0s (solc rfl sol0)) cor
noncomputable def B4_2 (x2 : List S37) (x3 : List S37) (x4 : Int) (r12 : List S37) (r14 : List S37) (r16 : List S37) (p18 : Int) : Option (Stp (Int) (Bool ⊕ Unit)) :=
  if (decide (p18 < ([(Vector.mk (n := 2) #[r12, r14] rfl), (Vector.mk (n := 2) #[x2, x3] rfl), (Vector.mk (n := 2) #[r16, x2] rfl)].length : Int))) then (bnd (idx [(Vector.mk (n := 2) #[r12, r14] rfl), (Vector.mk (n := 2) #[x2, x3] rfl), (Vector.mk (n := 2) #[r16, x2] rfl)] p18) fun w25 => bnd (idx w25.toList 0) fun w27 => bnd (idx w25.toList 1) fun w29 => bnd (F13 x4 10000) fun r31 => bnd (α := Bool) (bnd (F12 w27) fun r36 => bnd (F14 w27) fun r38 => bnd (F11 r36 r38) fun r40 => if (!r40) then (some true) else (bnd (F7 w27 w29) fun r43 => bnd (F15 w27 w29) fun r45 => bnd (F11 r43 r45) fun r47 => if (!r47) then (some true) else (bnd (F9 w27 w29) fun r50 => bnd (F16 w27 w29) fun r52 => bnd (F11 r50 r52) fun r54 => if (!r54) then (some true) else (bnd (F8 w27 w29) fun r57 => bnd (F17 w27 w29) fun r59 => bnd (F11 r57 r59) fun r61 => some (!r61))))) fun t35 => if t35 then (some (.done (.inl false))) else (bnd (α := Bool) (bnd (F10 w27) fun r67 => bnd (F18 w27) fun r69 => if (r67 != r69) then (some true) else (bnd (F19 w27 x4) fun r72 => bnd (F20 w27 x4) fun r74 => bnd (F11 r72 r74) fun r76 => if (!r76) then (some true) else (bnd (F19 w27 r31) fun r79 => bnd (F20 w27 r31) fun r81 => bnd (F11 r79 r81) fun r83 => some (!r83)))) fun t66 => if t66 then (some (.done (.inl false))) else (some (.next (IntKind.wrap .i64 (p18 + 1)))))) else (some (.done (.inr ())))
/-- flagstone.flagstonelaw14.TrafficSets -/
noncomputable def F4 (x0 : List UInt8) (x1 : List UInt8) (x2 : List S37) (x3 : List S37) (x4 : Int) : Option (Bool) :=
  bnd (F5) fun r1 => if (!r1) then (some false) else (bnd (α := Bool) (if (decide ((x2.length : Int) > 30)) then (some true) else (some (decide ((x3.length : Int) > 30)))) fun t6 => if t6 then (some true) else (bnd (α := Unit ⊕ Bool) (bnd (F6 x0) fun r12 => bnd (F6 x1) fun r14 => bnd (F6 x0) fun r16 => bnd (loopO (σ := Int) (ρ := Bool ⊕ Unit) (fun s => B4_2 x2 x3 x4 r12 r14 r16 s) 0) fun z22 => match z22 with | .inl a86 => (some (.inr a86)) | .inr a87 => (some (.inl ()))) fun z88 => match z88 with | .inl a89 => (some true) | .inr a90 => (some a90)))
theorem C4 {x0 : List UInt8} {x1 : List UInt8} {x2 : List S37} {x3 : List S37} {x4 : Int} {r : Bool} (h : F4 x0 x1 x2 x3 x4 = some r) (S : Stk) : Con Proofs.Try.prog full 4 [(.sl false 5 (x0.map byteTV)), (.sl false 5 (x1.map byteTV)), (.sl false 37 (x2.map e37)), (.sl false 37 (x3.map e37)), (intTV x4)] S S.length (boolTV r) [] S := by
  have hB : S.length ≤ S.length := Nat.le_refl _
  refine con_of' (n := 112) (rs := [.tmp 10]) (A := [(0, (.sl false 5 (x0.map byteTV))), (1, (.sl false 5 (x1.map byteTV))), (2, (.sl false 37 (x2.map e37))), (3, (.sl false 37 (x3.map e37))), (4, (intTV x4))]) Proofs.Try.func4 rfl rfl rfl rfl hB rfl ?_
  unfold F4 at h
  refine cx_seq ?_
  refine cx_reg rfl ?_
  refine rq (so_assign rfl) rfl ?_
  refine rx_nil ?_
  refine kseq ?_
  refine cx_seq ?_
  refine cx_seq ?_
  refine cx_reg rfl ?_
  obtain ⟨r1, c2, h⟩ := bnd_inv h
  refine rcp rfl rfl (C5 c2 _) rfl ?_
  refine rq (so_un rfl rfl rfl) rfl ?_
  refine rx_nil ?_
  refine kseq ?_
  refine cx_cond rfl rfl (fun b3 => ?_) (fun b3 => ?_)
  · replace h := ite_t h b3
    refine cx_seq ?_
    refine cx_reg rfl ?_
    refine rq (so_assign rfl) rfl ?_
    refine rx_nil ?_
    refine kseq ?_
    refine cx_ret ?_
    refine ks_r ?_
    have e_ := some_inj h; subst e_
    refine qx_ret (.inr rfl) [] (.tmp rfl .nil) (ret0s (solc rfl sol0)) cor
  · replace h := ite_f h b3
    refine cx_skip ?_
    refine kseq ?_
    refine cx_seq ?_
    obtain ⟨t4, h5, h⟩ := bnd_inv h
    refine cx_meet (τ := Bool) (fun t => [(0, (.sl false 5 (x0.map byteTV))), (1, (.sl false 5 (x1.map byteTV))), (2, (.sl false 37 (x2.map e37))), (3, (.sl false 37 (x3.map e37))), (4, (intTV x4)), (25, (boolTV t))]) (fun t => ([] :: S)) (fun t => t4 = t) (fun _ => rfl) ?_ ?_
    · refine cx_reg rfl ?_
      refine rq (so_move rfl) rfl ?_
      refine rq (so_lenM rfl k_24) rfl ?_
      refine rq (so_bin rfl rfl rfl rfl) rfl ?_
      refine rq (so_move rfl) rfl ?_
      rcases Bool.eq_false_or_eq_true (decide ((x2.length : Int) > 30)) with b7 | b7
      · replace h5 := ite_t h5 b7
        refine gn rfl rfl b7 (dnone rfl) ?_
        refine gn rfl rfl b7 (dnone rfl) ?_
        refine gn rfl rfl b7 (dnone rfl) ?_
        refine rq (so_pick_t rfl b7 rfl) rfl ?_
        refine rx_nil ?_
        have e_ := some_inj h5; subst e_
        exact jk_n true rfl (wxs (subc (k := 0) rfl (subc (k := 1) rfl (subc (k := 2) rfl (subc (k := 3) rfl (subc (k := 4) rfl (subc (k := 25) rfl sub0)))))))
      · replace h5 := ite_f h5 b7
        refine gy rfl rfl b7 ?_
        refine rq (so_move rfl) rfl ?_
        refine gy rfl rfl b7 ?_
        refine rq (so_lenM rfl k_24) rfl ?_
        refine gy rfl rfl b7 ?_
        refine rq (so_bin rfl rfl rfl rfl) rfl ?_
        refine rq (so_pick_f rfl b7 rfl) rfl ?_
        refine rx_nil ?_
        have e_ := some_inj h5; subst e_
        exact jk_n (decide ((x3.length : Int) > 30)) rfl (wxs (subc (k := 0) rfl (subc (k := 1) rfl (subc (k := 2) rfl (subc (k := 3) rfl (subc (k := 4) rfl (subc (k := 25) rfl sub0)))))))
    · intro t6 ht
      rw [ht] at h
      try dsimp only at h ⊢
      refine cx_cond rfl rfl (fun b8 => ?_) (fun b8 => ?_)
      · replace h := ite_t h b8
        refine cx_seq ?_
        refine cx_reg rfl ?_
        refine rq (so_assign rfl) rfl ?_
        refine rx_nil ?_
        refine kseq ?_
        refine cx_ret ?_
        refine ks_r ?_
        have e_ := some_inj h; subst e_
        refine qx_ret (.inr rfl) [] (.tmp rfl .nil) (ret0s (solc rfl sol0)) cor
      · replace h := ite_f h b8
        refine cx_skip ?_
        refine kseq ?_
        obtain ⟨t9, h10, h⟩ := bnd_inv h
        refine cx_meet (τ := Unit) (fun t => []) (fun t => ([] :: S)) (fun t => t9 = (.inl t)) (fun _ => rfl) ?_ ?_
        · refine cx_seq ?_
          refine cx_reg rfl ?_
          refine rq (so_move rfl) rfl ?_
          obtain ⟨r12, c13, h10⟩ := bnd_inv h10
          refine rcp rfl rfl (C6 c13 _) rfl ?_
          refine rq (so_move rfl) rfl ?_
          obtain ⟨r14, c15, h10⟩ := bnd_inv h10
          refine rcp rfl rfl (C6 c15 _) rfl ?_
          refine rq (so_to (so_arr (l := [(.sl false 37 (r12.map e37)), (.sl false 37 (r14.map e37))]) rfl zero_31 ar_31 rfl (fl_memc (fo_24 rfl) rfl (fl_memc (fo_24 rfl) rfl fl_mem0))) (rfl : _ = e31 (Vector.mk (n := 2) #[r12, r14] rfl))) rfl ?_
          refine rq (so_move rfl) rfl ?_
          refine rq (so_move rfl) rfl ?_
          refine rq (so_to (so_arr (l := [(.sl false 37 (x2.map e37)), (.sl false 37 (x3.map e37))]) rfl zero_31 ar_31 rfl (fl_memc (fo_24 rfl) rfl (fl_memc (fo_24 rfl) rfl fl_mem0))) (rfl : _ = e31 (Vector.mk (n := 2) #[x2, x3] rfl))) rfl ?_
          refine rq (so_move rfl) rfl ?_
          obtain ⟨r16, c17, h10⟩ := bnd_inv h10
          refine rcp rfl rfl (C6 c17 _) rfl ?_
          refine rq (so_move rfl) rfl ?_
          refine rq (so_to (so_arr (l := [(.sl false 37 (r16.map e37)), (.sl false 37 (x2.map e37))]) rfl zero_31 ar_31 rfl (fl_memc (fo_24 rfl) rfl (fl_memc (fo_24 rfl) rfl fl_mem0))) (rfl : _ = e31 (Vector.mk (n := 2) #[r16, x2] rfl))) rfl ?_
          refine rq (so_to (so_bslice (l := [(e31 ((Vector.mk (n := 2) #[r12, r14] rfl))), (e31 ((Vector.mk (n := 2) #[x2, x3] rfl))), (e31 ((Vector.mk (n := 2) #[r16, x2] rfl)))]) (ks := []) rfl sl_32 zero_31 (snapL_solid (solc rfl (solc rfl (solc rfl sol0)))) rfl rfl (by decide) (fl_memc fo_31 rfl (fl_memc fo_31 rfl (fl_memc fo_31 rfl fl_mem0))) rfl) (rfl : _ = TV.sl true 31 (List.map e31 [(Vector.mk (n := 2) #[r12, r14] rfl), (Vector.mk (n := 2) #[x2, x3] rfl), (Vector.mk (n := 2) #[r16, x2] rfl)]))) rfl ?_
          refine rq (so_lenM rfl k_32) rfl ?_
          refine rq (so_move rfl) rfl ?_
          refine rx_nil ?_
          refine kseq ?_
          refine cx_block ?_
          obtain ⟨z22, h23, h10⟩ := bnd_inv h10
          refine cx_loop _ (fun s => [(4, (intTV x4)), (38, (.sl true 31 ([(Vector.mk (n := 2) #[r12, r14] rfl), (Vector.mk (n := 2) #[x2, x3] rfl), (Vector.mk (n := 2) #[r16, x2] rfl)].map e31))), (39, (intTV ([(Vector.mk (n := 2) #[r12, r14] rfl), (Vector.mk (n := 2) #[x2, x3] rfl), (Vector.mk (n := 2) #[r16, x2] rfl)].length : Int))), (40, (intTV s))]) (fun s => ([] :: S)) h23 (fun _ => rfl) (wxs (subc (k := 4) rfl (subc (k := 38) rfl (subc (k := 39) rfl (subc (k := 40) rfl sub0))))) ?_
          rintro p18 y19 h20 h21
          try dsimp only at h20 ⊢
          unfold B4_2 at h20
          refine cx_seq ?_
          refine cx_reg rfl ?_
          refine rq (so_bin rfl rfl rfl rfl) rfl ?_
          refine rx_nil ?_
          refine kseq ?_
          refine cx_seq ?_
          refine cx_cond rfl rfl (fun b24 => ?_) (fun b24 => ?_)
          · replace h20 := ite_t h20 b24
            refine cx_skip ?_
            refine kseq ?_
            refine cx_seq ?_
            refine cx_block ?_
            refine cx_seq ?_
            refine cx_reg rfl ?_
            obtain ⟨w25, c26, h20⟩ := bnd_inv h20
            refine rq (so_ixM rfl rfl sl_32 c26) rfl ?_
            refine rq (so_loadE rfl fo_31) rfl ?_
            refine rq (so_alloc (k := 0) zero_31 rfl rfl .nil) rfl ?_
            refine rs (so_store0 rfl rfl (lk_own rfl rfl) rfl rfl gp0 rfl rfl fz_31 fo_31 sp0 (up_own rfl .zero)) (Nat.le_refl _) ?_
            refine rx_nil ?_
            refine kseq ?_
            refine cx_seq ?_
            refine cx_draw (b := #[0, 1, 0, 4, 3, 31]) rfl (by kernel_rfl) ?_
            obtain ⟨w27, c28, h20⟩ := bnd_inv h20
            refine dz (so_ixP rfl rfl ar_31 (live_of (lk_own rfl rfl) rfl) (idx_bnd c28 (by simp))) rfl rfl ?_
            refine dq (so_load rfl (lk_own rfl rfl) rfl (gpa (map_at (idx_some c28).2.1) gp0) (fo_24 rfl)) rfl rfl rfl ?_
            obtain ⟨w29, c30, h20⟩ := bnd_inv h20
            refine dz (so_ixP rfl rfl ar_31 (live_of (lk_own rfl rfl) rfl) (idx_bnd c30 (by simp))) rfl rfl ?_
            refine dq (so_load rfl (lk_own rfl rfl) rfl (gpa (map_at (idx_some c30).2.1) gp0) (fo_24 rfl)) rfl rfl rfl ?_
            refine dz (so_assign rfl) rfl rfl ?_
            refine dz (so_assign rfl) rfl rfl ?_
            refine dx_nil ?_
            refine kseq ?_
            refine cx_seq ?_
            refine cx_reg rfl ?_
            refine rq (so_move rfl) rfl ?_
            obtain ⟨r31, c32, h20⟩ := bnd_inv h20
            refine rcp rfl rfl (C13 c32 _) rfl ?_
            refine rq (so_assign rfl) rfl ?_
            refine rx_nil ?_
            refine kseq ?_
            refine cx_seq ?_
            obtain ⟨t33, h34, h20⟩ := bnd_inv h20
            refine cx_meet (τ := Bool) (fun t => [(4, (intTV x4)), (13, (.sl false 37 (w27.map e37))), (15, (intTV r31)), (38, (.sl true 31 ([(Vector.mk (n := 2) #[r12, r14] rfl), (Vector.mk (n := 2) #[x2, x3] rfl), (Vector.mk (n := 2) #[r16, x2] rfl)].map e31))), (39, (intTV ([(Vector.mk (n := 2) #[r12, r14] rfl), (Vector.mk (n := 2) #[x2, x3] rfl), (Vector.mk (n := 2) #[r16, x2] rfl)].length : Int))), (40, (intTV p18)), (85, (boolTV t))]) (fun t => ([] :: S)) (fun t => t33 = t) (fun _ => rfl) ?_ ?_
            · refine cx_reg rfl ?_
              refine rq (so_move rfl) rfl ?_
              obtain ⟨r36, c37, h34⟩ := bnd_inv h34
              refine rcp rfl rfl (C12 c37 _) rfl ?_
              refine rq (so_move rfl) rfl ?_
              obtain ⟨r38, c39, h34⟩ := bnd_inv h34
              refine rcp rfl rfl (C14 c39 _) rfl ?_
              obtain ⟨r40, c41, h34⟩ := bnd_inv h34
              refine rcp rfl rfl (C11 c41 _) rfl ?_
              refine rq (so_un rfl rfl rfl) rfl ?_
              refine rq (so_move rfl) rfl ?_
              rcases Bool.eq_false_or_eq_true (!r40) with b42 | b42
              · replace h34 := ite_t h34 b42
                refine gn rfl rfl b42 (dnone rfl) ?_
                refine gn rfl rfl b42 (dnone rfl) ?_
                refine gn rfl rfl b42 (dnone rfl) ?_
                refine gn rfl rfl b42 (dnone rfl) ?_
                refine gn rfl rfl b42 (dnone rfl) ?_
                refine gn rfl rfl b42 (dnone rfl) ?_
                refine gn rfl rfl b42 (dnone rfl) ?_
                refine gn rfl rfl b42 (dnone rfl) ?_
                refine rq (so_pick_t rfl b42 rfl) rfl ?_
                refine rq (so_move rfl) rfl ?_
                refine gn rfl rfl rfl (dnone rfl) ?_
                refine gn rfl rfl rfl (dnone rfl) ?_
                refine gn rfl rfl rfl (dnone rfl) ?_
                refine gn rfl rfl rfl (dnone rfl) ?_
                refine gn rfl rfl rfl (dnone rfl) ?_
                refine gn rfl rfl rfl (dnone rfl) ?_
                refine gn rfl rfl rfl (dnone rfl) ?_
                refine gn rfl rfl rfl (dnone rfl) ?_
                refine rq (so_pick_t rfl rfl rfl) rfl ?_
                refine rq (so_move rfl) rfl ?_
                refine gn rfl rfl rfl (dnone rfl) ?_
                refine gn rfl rfl rfl (dnone rfl) ?_
                refine gn rfl rfl rfl (dnone rfl) ?_
                refine gn rfl rfl rfl (dnone rfl) ?_
                refine gn rfl rfl rfl (dnone rfl) ?_
                refine gn rfl rfl rfl (dnone rfl) ?_
                refine gn rfl rfl rfl (dnone rfl) ?_
                refine gn rfl rfl rfl (dnone rfl) ?_
                refine rq (so_pick_t rfl rfl rfl) rfl ?_
                refine rx_nil ?_
                have e_ := some_inj h34; subst e_
                exact jk_n true rfl (WX.trans (wxs (subc (k := 4) rfl (subc (k := 13) rfl (subc (k := 15) rfl (subc (k := 38) rfl (subc (k := 39) rfl (subc (k := 40) rfl (subc (k := 85) rfl sub0)))))))) (WX.trans (wxcut (k := 0) rfl rfl (List.take_append_drop 0 _).symm (fac (fbs rfl) (fac (fbs rfl) (fac (fbs rfl) (fac (fbs rfl) (fac (fbs rfl) (fac (fbs rfl) (fac (fbs rfl) fa0))))))) ff0) (wxs (subc (k := 4) rfl (subc (k := 13) rfl (subc (k := 15) rfl (subc (k := 38) rfl (subc (k := 39) rfl (subc (k := 40) rfl (subc (k := 85) rfl sub0))))))))))
              · replace h34 := ite_f h34 b42
                refine gy rfl rfl b42 ?_
                refine rq (so_move rfl) rfl ?_
                refine gy rfl rfl b42 ?_
                refine rq (so_move rfl) rfl ?_
                obtain ⟨r43, c44, h34⟩ := bnd_inv h34
                refine gy rfl rfl b42 ?_
                refine rcp rfl rfl (C7 c44 _) rfl ?_
                refine gy rfl rfl b42 ?_
                refine rq (so_move rfl) rfl ?_
                refine gy rfl rfl b42 ?_
                refine rq (so_move rfl) rfl ?_
                obtain ⟨r45, c46, h34⟩ := bnd_inv h34
                refine gy rfl rfl b42 ?_
                refine rcp rfl rfl (C15 c46 _) rfl ?_
                obtain ⟨r47, c48, h34⟩ := bnd_inv h34
                refine gy rfl rfl b42 ?_
                refine rcp rfl rfl (C11 c48 _) rfl ?_
                refine gy rfl rfl b42 ?_
                refine rq (so_un rfl rfl rfl) rfl ?_
                refine rq (so_pick_f rfl b42 rfl) rfl ?_
                refine rq (so_move rfl) rfl ?_
                rcases Bool.eq_false_or_eq_true (!r47) with b49 | b49
                · replace h34 := ite_t h34 b49
                  refine gn rfl rfl b49 (dnone rfl) ?_
                  refine gn rfl rfl b49 (dnone rfl) ?_
                  refine gn rfl rfl b49 (dnone rfl) ?_
                  refine gn rfl rfl b49 (dnone rfl) ?_
                  refine gn rfl rfl b49 (dnone rfl) ?_
                  refine gn rfl rfl b49 (dnone rfl) ?_
                  refine gn rfl rfl b49 (dnone rfl) ?_
                  refine gn rfl rfl b49 (dnone rfl) ?_
                  refine rq (so_pick_t rfl b49 rfl) rfl ?_
                  refine rq (so_move rfl) rfl ?_
                  refine gn rfl rfl rfl (dnone rfl) ?_
                  refine gn rfl rfl rfl (dnone rfl) ?_
                  refine gn rfl rfl rfl (dnone rfl) ?_
                  refine gn rfl rfl rfl (dnone rfl) ?_
                  refine gn rfl rfl rfl (dnone rfl) ?_
                  refine gn rfl rfl rfl (dnone rfl) ?_
                  refine gn rfl rfl rfl (dnone rfl) ?_
                  refine gn rfl rfl rfl (dnone rfl) ?_
                  refine rq (so_pick_t rfl rfl rfl) rfl ?_
                  refine rx_nil ?_
                  have e_ := some_inj h34; subst e_
                  exact jk_n true rfl (WX.trans (wxs (subc (k := 4) rfl (subc (k := 13) rfl (subc (k := 15) rfl (subc (k := 38) rfl (subc (k := 39) rfl (subc (k := 40) rfl (subc (k := 85) rfl sub0)))))))) (WX.trans (wxcut (k := 0) rfl rfl (List.take_append_drop 0 _).symm (fac (fbs rfl) (fac (fbs rfl) (fac (fbs rfl) (fac (fbs rfl) (fac (fbs rfl) (fac (fbs rfl) (fac (fbs rfl) fa0))))))) ff0) (wxs (subc (k := 4) rfl (subc (k := 13) rfl (subc (k := 15) rfl (subc (k := 38) rfl (subc (k := 39) rfl (subc (k := 40) rfl (subc (k := 85) rfl sub0))))))))))
                · replace h34 := ite_f h34 b49
                  refine gy rfl rfl b49 ?_
                  refine rq (so_move rfl) rfl ?_
                  refine gy rfl rfl b49 ?_
                  refine rq (so_move rfl) rfl ?_
                  obtain ⟨r50, c51, h34⟩ := bnd_inv h34
                  refine gy rfl rfl b49 ?_
                  refine rcp rfl rfl (C9 c51 _) rfl ?_
                  refine gy rfl rfl b49 ?_
                  refine rq (so_move rfl) rfl ?_
                  refine gy rfl rfl b49 ?_
                  refine rq (so_move rfl) rfl ?_
                  obtain ⟨r52, c53, h34⟩ := bnd_inv h34
                  refine gy rfl rfl b49 ?_
                  refine rcp rfl rfl (C16 c53 _) rfl ?_
                  obtain ⟨r54, c55, h34⟩ := bnd_inv h34
                  refine gy rfl rfl b49 ?_
                  refine rcp rfl rfl (C11 c55 _) rfl ?_
                  refine gy rfl rfl b49 ?_
                  refine rq (so_un rfl rfl rfl) rfl ?_
                  refine rq (so_pick_f rfl b49 rfl) rfl ?_
                  refine rq (so_move rfl) rfl ?_
                  rcases Bool.eq_false_or_eq_true (!r54) with b56 | b56
                  · replace h34 := ite_t h34 b56
                    refine gn rfl rfl b56 (dnone rfl) ?_
                    refine gn rfl rfl b56 (dnone rfl) ?_
                    refine gn rfl rfl b56 (dnone rfl) ?_
                    refine gn rfl rfl b56 (dnone rfl) ?_
                    refine gn rfl rfl b56 (dnone rfl) ?_
                    refine gn rfl rfl b56 (dnone rfl) ?_
                    refine gn rfl rfl b56 (dnone rfl) ?_
                    refine gn rfl rfl b56 (dnone rfl) ?_
                    refine rq (so_pick_t rfl b56 rfl) rfl ?_
                    refine rx_nil ?_
                    have e_ := some_inj h34; subst e_
                    exact jk_n true rfl (WX.trans (wxs (subc (k := 4) rfl (subc (k := 13) rfl (subc (k := 15) rfl (subc (k := 38) rfl (subc (k := 39) rfl (subc (k := 40) rfl (subc (k := 85) rfl sub0)))))))) (WX.trans (wxcut (k := 0) rfl rfl (List.take_append_drop 0 _).symm (fac (fbs rfl) (fac (fbs rfl) (fac (fbs rfl) (fac (fbs rfl) (fac (fbs rfl) (fac (fbs rfl) (fac (fbs rfl) fa0))))))) ff0) (wxs (subc (k := 4) rfl (subc (k := 13) rfl (subc (k := 15) rfl (subc (k := 38) rfl (subc (k := 39) rfl (subc (k := 40) rfl (subc (k := 85) rfl sub0))))))))))
                  · replace h34 := ite_f h34 b56
                    refine gy rfl rfl b56 ?_
                    refine rq (so_move rfl) rfl ?_
                    refine gy rfl rfl b56 ?_
                    refine rq (so_move rfl) rfl ?_
                    obtain ⟨r57, c58, h34⟩ := bnd_inv h34
                    refine gy rfl rfl b56 ?_
                    refine rcp rfl rfl (C8 c58 _) rfl ?_
                    refine gy rfl rfl b56 ?_
                    refine rq (so_move rfl) rfl ?_
                    refine gy rfl rfl b56 ?_
                    refine rq (so_move rfl) rfl ?_
                    obtain ⟨r59, c60, h34⟩ := bnd_inv h34
                    refine gy rfl rfl b56 ?_
                    refine rcp rfl rfl (C17 c60 _) rfl ?_
                    obtain ⟨r61, c62, h34⟩ := bnd_inv h34
                    refine gy rfl rfl b56 ?_
                    refine rcp rfl rfl (C11 c62 _) rfl ?_
                    refine gy rfl rfl b56 ?_
                    refine rq (so_un rfl rfl rfl) rfl ?_
                    refine rq (so_pick_f rfl b56 rfl) rfl ?_
                    refine rx_nil ?_
                    have e_ := some_inj h34; subst e_
                    exact jk_n (!r61) rfl (WX.trans (wxs (subc (k := 4) rfl (subc (k := 13) rfl (subc (k := 15) rfl (subc (k := 38) rfl (subc (k := 39) rfl (subc (k := 40) rfl (subc (k := 85) rfl sub0)))))))) (WX.trans (wxcut (k := 0) rfl rfl (List.take_append_drop 0 _).symm (fac (fbs rfl) (fac (fbs rfl) (fac (fbs rfl) (fac (fbs rfl) (fac (fbs rfl) (fac (fbs rfl) (fac (fbs rfl) fa0))))))) ff0) (wxs (subc (k := 4) rfl (subc (k := 13) rfl (subc (k := 15) rfl (subc (k := 38) rfl (subc (k := 39) rfl (subc (k := 40) rfl (subc (k := 85) rfl sub0))))))))))
            · intro t35 ht
              rw [ht] at h20
              try dsimp only at h20 ⊢
              refine cx_cond rfl rfl (fun b63 => ?_) (fun b63 => ?_)
              · replace h20 := ite_t h20 b63
                refine cx_seq ?_
                refine cx_reg rfl ?_
                refine rq (so_assign rfl) rfl ?_
                refine rx_nil ?_
                refine kseq ?_
                refine cx_ret ?_
                refine ks_r ?_
                refine kb_r ?_
                refine ks_r ?_
                have e_ := some_inj h20; subst e_
                have e_ := h21 _ rfl; subst e_
                refine lret rfl ?_
                refine kb_r ?_
                have e_ := some_inj h10; subst e_
                refine jk_r ?_
                have e_ := some_inj h; subst e_
                refine qx_ret (.inr rfl) [] (.tmp rfl .nil) (ret0s (solc rfl sol0)) cor
              · replace h20 := ite_f h20 b63
                refine cx_skip ?_
                refine kseq ?_
                obtain ⟨t64, h65, h20⟩ := bnd_inv h20
                refine cx_meet (τ := Bool) (fun t => [(4, (intTV x4)), (38, (.sl true 31 ([(Vector.mk (n := 2) #[r12, r14] rfl), (Vector.mk (n := 2) #[x2, x3] rfl), (Vector.mk (n := 2) #[r16, x2] rfl)].map e31))), (39, (intTV ([(Vector.mk (n := 2) #[r12, r14] rfl), (Vector.mk (n := 2) #[x2, x3] rfl), (Vector.mk (n := 2) #[r16, x2] rfl)].length : Int))), (40, (intTV p18)), (110, (boolTV t))]) (fun t => ([] :: S)) (fun t => t64 = t) (fun _ => rfl) ?_ ?_
                · refine cx_reg rfl ?_
                  refine rq (so_move rfl) rfl ?_
                  obtain ⟨r67, c68, h65⟩ := bnd_inv h65
                  refine rcp rfl rfl (C10 c68 _) rfl ?_
                  refine rq (so_move rfl) rfl ?_
                  obtain ⟨r69, c70, h65⟩ := bnd_inv h65
                  refine rcp rfl rfl (C18 c70 _) rfl ?_
                  refine rq (so_bin rfl rfl rfl rfl) rfl ?_
                  refine rq (so_move rfl) rfl ?_
                  rcases Bool.eq_false_or_eq_true (r67 != r69) with b71 | b71
                  · replace h65 := ite_t h65 b71
                    refine gn rfl rfl b71 (dnone rfl) ?_
                    refine gn rfl rfl b71 (dnone rfl) ?_
                    refine gn rfl rfl b71 (dnone rfl) ?_
                    refine gn rfl rfl b71 (dnone rfl) ?_
                    refine gn rfl rfl b71 (dnone rfl) ?_
                    refine gn rfl rfl b71 (dnone rfl) ?_
                    refine gn rfl rfl b71 (dnone rfl) ?_
                    refine gn rfl rfl b71 (dnone rfl) ?_
                    refine rq (so_pick_t rfl b71 rfl) rfl ?_
                    refine rq (so_move rfl) rfl ?_
                    refine gn rfl rfl rfl (dnone rfl) ?_
                    refine gn rfl rfl rfl (dnone rfl) ?_
                    refine gn rfl rfl rfl (dnone rfl) ?_
                    refine gn rfl rfl rfl (dnone rfl) ?_
                    refine gn rfl rfl rfl (dnone rfl) ?_
                    refine gn rfl rfl rfl (dnone rfl) ?_
                    refine gn rfl rfl rfl (dnone rfl) ?_
                    refine gn rfl rfl rfl (dnone rfl) ?_
                    refine rq (so_pick_t rfl rfl rfl) rfl ?_
                    refine rx_nil ?_
                    have e_ := some_inj h65; subst e_
                    exact jk_n true rfl (wxs (subc (k := 4) rfl (subc (k := 38) rfl (subc (k := 39) rfl (subc (k := 40) rfl (subc (k := 110) rfl sub0))))))
                  · replace h65 := ite_f h65 b71
                    refine gy rfl rfl b71 ?_
                    refine rq (so_move rfl) rfl ?_
                    refine gy rfl rfl b71 ?_
                    refine rq (so_move rfl) rfl ?_
                    obtain ⟨r72, c73, h65⟩ := bnd_inv h65
                    refine gy rfl rfl b71 ?_
                    refine rcp rfl rfl (C19 c73 _) rfl ?_
                    refine gy rfl rfl b71 ?_
                    refine rq (so_move rfl) rfl ?_
                    refine gy rfl rfl b71 ?_
                    refine rq (so_move rfl) rfl ?_
                    obtain ⟨r74, c75, h65⟩ := bnd_inv h65
                    refine gy rfl rfl b71 ?_
                    refine rcp rfl rfl (C20 c75 _) rfl ?_
                    obtain ⟨r76, c77, h65⟩ := bnd_inv h65
                    refine gy rfl rfl b71 ?_
                    refine rcp rfl rfl (C11 c77 _) rfl ?_
                    refine gy rfl rfl b71 ?_
                    refine rq (so_un rfl rfl rfl) rfl ?_
                    refine rq (so_pick_f rfl b71 rfl) rfl ?_
                    refine rq (so_move rfl) rfl ?_
                    rcases Bool.eq_false_or_eq_true (!r76) with b78 | b78
                    · replace h65 := ite_t h65 b78
                      refine gn rfl rfl b78 (dnone rfl) ?_
                      refine gn rfl rfl b78 (dnone rfl) ?_
                      refine gn rfl rfl b78 (dnone rfl) ?_
                      refine gn rfl rfl b78 (dnone rfl) ?_
                      refine gn rfl rfl b78 (dnone rfl) ?_
                      refine gn rfl rfl b78 (dnone rfl) ?_
                      refine gn rfl rfl b78 (dnone rfl) ?_
                      refine gn rfl rfl b78 (dnone rfl) ?_
                      refine rq (so_pick_t rfl b78 rfl) rfl ?_
                      refine rx_nil ?_
                      have e_ := some_inj h65; subst e_
                      exact jk_n true rfl (wxs (subc (k := 4) rfl (subc (k := 38) rfl (subc (k := 39) rfl (subc (k := 40) rfl (subc (k := 110) rfl sub0))))))
                    · replace h65 := ite_f h65 b78
                      refine gy rfl rfl b78 ?_
                      refine rq (so_move rfl) rfl ?_
                      refine gy rfl rfl b78 ?_
                      refine rq (so_move rfl) rfl ?_
                      obtain ⟨r79, c80, h65⟩ := bnd_inv h65
                      refine gy rfl rfl b78 ?_
                      refine rcp rfl rfl (C19 c80 _) rfl ?_
                      refine gy rfl rfl b78 ?_
                      refine rq (so_move rfl) rfl ?_
                      refine gy rfl rfl b78 ?_
                      refine rq (so_move rfl) rfl ?_
                      obtain ⟨r81, c82, h65⟩ := bnd_inv h65
                      refine gy rfl rfl b78 ?_
                      refine rcp rfl rfl (C20 c82 _) rfl ?_
                      obtain ⟨r83, c84, h65⟩ := bnd_inv h65
                      refine gy rfl rfl b78 ?_
                      refine rcp rfl rfl (C11 c84 _) rfl ?_
                      refine gy rfl rfl b78 ?_
                      refine rq (so_un rfl rfl rfl) rfl ?_
                      refine rq (so_pick_f rfl b78 rfl) rfl ?_
                      refine rx_nil ?_
                      have e_ := some_inj h65; subst e_
                      exact jk_n (!r83) rfl (wxs (subc (k := 4) rfl (subc (k := 38) rfl (subc (k := 39) rfl (subc (k := 40) rfl (subc (k := 110) rfl sub0))))))
                · intro t66 ht
                  rw [ht] at h20
                  try dsimp only at h20 ⊢
                  refine cx_cond rfl rfl (fun b85 => ?_) (fun b85 => ?_)
                  · replace h20 := ite_t h20 b85
                    refine cx_seq ?_
                    refine cx_reg rfl ?_
                    refine rq (so_assign rfl) rfl ?_
                    refine rx_nil ?_
                    refine kseq ?_
                    refine cx_ret ?_
                    refine kb_r ?_
                    refine ks_r ?_
                    have e_ := some_inj h20; subst e_
                    have e_ := h21 _ rfl; subst e_
                    refine lret rfl ?_
                    refine kb_r ?_
                    have e_ := some_inj h10; subst e_
                    refine jk_r ?_
                    have e_ := some_inj h; subst e_
                    refine qx_ret (.inr rfl) [] (.tmp rfl .nil) (ret0s (solc rfl sol0)) cor
                  · replace h20 := ite_f h20 b85
                    refine cx_skip ?_
                    refine kb_n ?_
                    refine kseq ?_
                    refine cx_reg rfl ?_
                    refine rq (so_bin rfl rfl rfl rfl) rfl ?_
                    refine rq (so_move rfl) rfl ?_
                    refine rx_nil ?_
                    have e_ := some_inj h20; subst e_
                    exact lnext rfl (wxs (subc (k := 4) rfl (subc (k := 38) rfl (subc (k := 39) rfl (subc (k := 40) rfl sub0)))))
          · replace h20 := ite_f h20 b24
            refine cx_exit ?_
            refine ks_x ?_
            have e_ := some_inj h20; subst e_
            have e_ := h21 _ rfl; subst e_
            refine ldone rfl ?_
            refine kb_e ?_
            have e_ := some_inj h10; subst e_
            exact jk_n () rfl (wxs sub0)
        · intro t11 ht
          rw [ht] at h
          try dsimp only at h ⊢
          refine cx_seq ?_
          refine cx_reg rfl ?_
          refine rq (so_assign rfl) rfl ?_
          refine rx_nil ?_
          refine kseq ?_
          refine cx_ret ?_
          have e_ := some_inj h; subst e_
          refine qx_ret (.inr rfl) [] (.tmp rfl .nil) (ret0s (solc rfl sol0)) cor
end Go.Tm.L
end

