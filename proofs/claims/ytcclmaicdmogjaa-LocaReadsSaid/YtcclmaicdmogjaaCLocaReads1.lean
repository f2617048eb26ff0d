/- Part 2 of the proof of the law LocaReads: where glyphs lie by any bytes, or the error, is the document's, at every bytes, either width and every number of glyphs; the bytes stay. -/
import Derived.Test.YtcclmaicdmogjaaCLocaReads0
-- Written by wip/pr.py over the kit's print
namespace Go.Proofs.Ytcclmaicdmogjaa.P
open Go.RowKit Go.Proofs.YtcclmaicdmogjaaW.PrintWords Go.Proofs.YtcclmaicdmogjaaW.PrintLast Go.Proofs.YtcclmaicdmogjaaW.PrintMore
attribute [local go_sem] max2_int min2_int max_two min_two max_three min_three max_four min_four   -- for this text's walks alone
set_option linter.unusedVariables false
set_option linter.unusedSimpArgs false

attribute [local go_sem high] eqA111
/-! ### calamuslaw06_alive: function 50 -/
def calamuslaw06_alive.f (k : Nat)  : Option (Bool) := (loca_Read.f k (([0, 0, 0, 2, 0, 5] : List Int)) false 2).bind fun bt413 => ((loca_Metrics.f k (([1, 244, 0, 10, 255, 254] : List Int)) 1 2).bind fun bt420 => (if bt413.2 = 0 then ((calamusref02_Ints.f k bt413.1 (([0, 4, 10] : List Int))).bind fun t427 => (if t427 = true then ((loca_Long.f (([0, 4, 9] : List Int))).bind fun t431 => (if t431 = true then (if bt420.2 = 0 then (if (bt420.1.length : Int) = 2 then (if 1 < (bt420.1.length : Int) then (some (((rd_T111 bt420.1 1).f0) == 500 && (((rd_T111 bt420.1 1).f1) == (-2)))) else (none)) else (some false)) else (some false)) else (some false))) else (some false))) else (some false)))
theorem calamuslaw06_alive.mono : ∀ k, LeO (calamuslaw06_alive.f k ) (calamuslaw06_alive.f (k + 1) ) := by
  intro  k
  unfold calamuslaw06_alive.f
  repeat' first
      | (with_reducible exact calamusref02_Ints.mono _ _ _)
      | (with_reducible exact loca_Metrics.mono _ _ _ _)
      | (with_reducible exact loca_Read.mono _ _ _ _)
      | (with_reducible exact LeO.refl _)
      | (with_reducible exact LeO.none _)
      | (with_reducible refine LeO.ite ?_ ?_)
      | (with_reducible refine LeO.bind ?_ (fun _ => ?_))
      | exact calamusref02_Ints.mono _ _ _
      | exact loca_Metrics.mono _ _ _ _
      | exact loca_Read.mono _ _ _ _
      | exact LeO.none _
      | refine LeO.ite ?_ ?_
      | refine LeO.bind ?_ (fun _ => ?_)
set_option maxHeartbeats 8000000 in
set_option maxRecDepth 100000 in
theorem calamuslaw06_alive.calls (k : Nat)  (r : Bool) (w : World) (h : calamuslaw06_alive.f k  = some r) :
    Calls Try.prog 50 #[] w fun e w' => e = .returned (.bool r) ∧ Below w.heap.size w w' := by
  have hu111 := Try.underlying111
  have HB := Aside0.mk (Below.refl w.heap.size w)
  have H : ((loca_Read.f k (([0, 0, 0, 2, 0, 5] : List Int)) false 2).bind fun bt413 => ((loca_Metrics.f k (([1, 244, 0, 10, 255, 254] : List Int)) 1 2).bind fun bt420 => (if bt413.2 = 0 then ((calamusref02_Ints.f k bt413.1 (([0, 4, 10] : List Int))).bind fun t427 => (if t427 = true then ((loca_Long.f (([0, 4, 9] : List Int))).bind fun t431 => (if t431 = true then (if bt420.2 = 0 then (if (bt420.1.length : Int) = 2 then (if 1 < (bt420.1.length : Int) then (some (((rd_T111 bt420.1 1).f0) == 500 && (((rd_T111 bt420.1 1).f1) == (-2)))) else (none)) else (some false)) else (some false)) else (some false))) else (some false))) else (some false)))) = some r := h
  clear h
  obtain ⟨y410, hy410⟩ : ∃ y_ : List Int, y_ = (([0, 0, 0, 2, 0, 5] : List Int)) := ⟨_, rfl⟩
  replace H : ((loca_Read.f k y410 false 2).bind fun bt413 => ((loca_Metrics.f k (([1, 244, 0, 10, 255, 254] : List Int)) 1 2).bind fun bt420 => (if bt413.2 = 0 then ((calamusref02_Ints.f k bt413.1 (([0, 4, 10] : List Int))).bind fun t427 => (if t427 = true then ((loca_Long.f (([0, 4, 9] : List Int))).bind fun t431 => (if t431 = true then (if bt420.2 = 0 then (if (bt420.1.length : Int) = 2 then (if 1 < (bt420.1.length : Int) then (some (((rd_T111 bt420.1 1).f0) == 500 && (((rd_T111 bt420.1 1).f1) == (-2)))) else (none)) else (some false)) else (some false)) else (some false))) else (some false))) else (some false)))) = some r := by first | (rw [hy410]; with_reducible exact H) | (have H2_ := (Option.bind_some _ _).symm.trans H; rw [hy410]; with_reducible exact H2_) | (have H2_ := (Option.bind_some _ _).symm.trans H; with_reducible exact H2_) | with_reducible exact H | (rw [hy410]; exact H) | exact H
  have Ny410 := Aside0.mk hy410
  clear hy410
  replace H := Option.bind_eq_some_iff.mp H
  obtain ⟨⟨t413, t414⟩, A10, H⟩ := H
  replace H : ((loca_Metrics.f k (([1, 244, 0, 10, 255, 254] : List Int)) 1 2).bind fun bt420 => (if t414 = 0 then ((calamusref02_Ints.f k t413 (([0, 4, 10] : List Int))).bind fun t427 => (if t427 = true then ((loca_Long.f (([0, 4, 9] : List Int))).bind fun t431 => (if t431 = true then (if bt420.2 = 0 then (if (bt420.1.length : Int) = 2 then (if 1 < (bt420.1.length : Int) then (some (((rd_T111 bt420.1 1).f0) == 500 && (((rd_T111 bt420.1 1).f1) == (-2)))) else (none)) else (some false)) else (some false)) else (some false))) else (some false))) else (some false))) = some r := H
  have A1 := Aside0.mk A10
  clear A10
  obtain ⟨y417, hy417⟩ : ∃ y_ : List Int, y_ = (([1, 244, 0, 10, 255, 254] : List Int)) := ⟨_, rfl⟩
  replace H : ((loca_Metrics.f k y417 1 2).bind fun bt420 => (if t414 = 0 then ((calamusref02_Ints.f k t413 (([0, 4, 10] : List Int))).bind fun t427 => (if t427 = true then ((loca_Long.f (([0, 4, 9] : List Int))).bind fun t431 => (if t431 = true then (if bt420.2 = 0 then (if (bt420.1.length : Int) = 2 then (if 1 < (bt420.1.length : Int) then (some (((rd_T111 bt420.1 1).f0) == 500 && (((rd_T111 bt420.1 1).f1) == (-2)))) else (none)) else (some false)) else (some false)) else (some false))) else (some false))) else (some false))) = some r := by first | (rw [hy417]; with_reducible exact H) | (have H2_ := (Option.bind_some _ _).symm.trans H; rw [hy417]; with_reducible exact H2_) | (have H2_ := (Option.bind_some _ _).symm.trans H; with_reducible exact H2_) | with_reducible exact H | (rw [hy417]; exact H) | exact H
  have Ny417 := Aside0.mk hy417
  clear hy417
  replace H := Option.bind_eq_some_iff.mp H
  obtain ⟨⟨t420, t421⟩, A20, H⟩ := H
  replace H : (if t414 = 0 then ((calamusref02_Ints.f k t413 (([0, 4, 10] : List Int))).bind fun t427 => (if t427 = true then ((loca_Long.f (([0, 4, 9] : List Int))).bind fun t431 => (if t431 = true then (if t421 = 0 then (if (t420.length : Int) = 2 then (if 1 < (t420.length : Int) then (some (((rd_T111 t420 1).f0) == 500 && (((rd_T111 t420 1).f1) == (-2)))) else (none)) else (some false)) else (some false)) else (some false))) else (some false))) else (some false)) = some r := H
  have A2 := Aside0.mk A20
  clear A20
  by_cases c3 : t414 = 0
  · rw [if_pos c3] at H
    have c3b0 : (t414 == 0) = true := beq_iff_eq.mpr c3
    have c3b1 : (t414 != 0) = false := bne_eq_false_iff_eq.mpr c3
    clear c3
    obtain ⟨y424, hy424⟩ : ∃ y_ : List Int, y_ = (([0, 4, 10] : List Int)) := ⟨_, rfl⟩
    replace H : ((calamusref02_Ints.f k t413 y424).bind fun t427 => (if t427 = true then ((loca_Long.f (([0, 4, 9] : List Int))).bind fun t431 => (if t431 = true then (if t421 = 0 then (if (t420.length : Int) = 2 then (if 1 < (t420.length : Int) then (some (((rd_T111 t420 1).f0) == 500 && (((rd_T111 t420 1).f1) == (-2)))) else (none)) else (some false)) else (some false)) else (some false))) else (some false))) = some r := by first | (rw [hy424]; with_reducible exact H) | (have H2_ := (Option.bind_some _ _).symm.trans H; rw [hy424]; with_reducible exact H2_) | (have H2_ := (Option.bind_some _ _).symm.trans H; with_reducible exact H2_) | with_reducible exact H | (rw [hy424]; exact H) | exact H
    have Ny424 := Aside0.mk hy424
    clear hy424
    replace H := Option.bind_eq_some_iff.mp H
    obtain ⟨t427, A40, H⟩ := H
    replace H : (if t427 = true then ((loca_Long.f (([0, 4, 9] : List Int))).bind fun t431 => (if t431 = true then (if t421 = 0 then (if (t420.length : Int) = 2 then (if 1 < (t420.length : Int) then (some (((rd_T111 t420 1).f0) == 500 && (((rd_T111 t420 1).f1) == (-2)))) else (none)) else (some false)) else (some false)) else (some false))) else (some false)) = some r := H
    have A4 := Aside0.mk A40
    clear A40
    by_cases c5 : t427 = true
    · subst c5
      have H1 : ((loca_Long.f (([0, 4, 9] : List Int))).bind fun t431 => (if t431 = true then (if t421 = 0 then (if (t420.length : Int) = 2 then (if 1 < (t420.length : Int) then (some (((rd_T111 t420 1).f0) == 500 && (((rd_T111 t420 1).f1) == (-2)))) else (none)) else (some false)) else (some false)) else (some false))) = some r := by rw [if_pos rfl] at H; exact H
      clear H
      have H := H1
      clear H1
      obtain ⟨y428, hy428⟩ : ∃ y_ : List Int, y_ = (([0, 4, 9] : List Int)) := ⟨_, rfl⟩
      replace H : ((loca_Long.f y428).bind fun t431 => (if t431 = true then (if t421 = 0 then (if (t420.length : Int) = 2 then (if 1 < (t420.length : Int) then (some (((rd_T111 t420 1).f0) == 500 && (((rd_T111 t420 1).f1) == (-2)))) else (none)) else (some false)) else (some false)) else (some false))) = some r := by first | (rw [hy428]; with_reducible exact H) | (have H2_ := (Option.bind_some _ _).symm.trans H; rw [hy428]; with_reducible exact H2_) | (have H2_ := (Option.bind_some _ _).symm.trans H; with_reducible exact H2_) | with_reducible exact H | (rw [hy428]; exact H) | exact H
      have Ny428 := Aside0.mk hy428
      clear hy428
      replace H := Option.bind_eq_some_iff.mp H
      obtain ⟨t431, A60, H⟩ := H
      replace H : (if t431 = true then (if t421 = 0 then (if (t420.length : Int) = 2 then (if 1 < (t420.length : Int) then (some (((rd_T111 t420 1).f0) == 500 && (((rd_T111 t420 1).f1) == (-2)))) else (none)) else (some false)) else (some false)) else (some false)) = some r := H
      have A6 := Aside0.mk A60
      clear A60
      by_cases c7 : t431 = true
      · subst c7
        have H1 : (if t421 = 0 then (if (t420.length : Int) = 2 then (if 1 < (t420.length : Int) then (some (((rd_T111 t420 1).f0) == 500 && (((rd_T111 t420 1).f1) == (-2)))) else (none)) else (some false)) else (some false)) = some r := by rw [if_pos rfl] at H; exact H
        clear H
        have H := H1
        clear H1
        by_cases c8 : t421 = 0
        · rw [if_pos c8] at H
          have c8b0 : (t421 == 0) = true := beq_iff_eq.mpr c8
          have c8b1 : (t421 != 0) = false := bne_eq_false_iff_eq.mpr c8
          clear c8
          by_cases c9 : (t420.length : Int) = 2
          · rw [if_pos c9] at H
            have c9b0 : ((t420.length : Int) == 2) = true := beq_iff_eq.mpr c9
            have c9b1 : ((t420.length : Int) != 2) = false := bne_eq_false_iff_eq.mpr c9
            clear c9
            by_cases c10 : 1 < (t420.length : Int)
            · rw [if_pos c10] at H
              have c10b0 : decide (1 < (t420.length : Int)) = true := decide_eq_true c10
              have c10b1 : decide (1 < t420.length) = true := decide_eq_true (by omega)
              clear c10
              obtain rfl := Option.some.inj H
              go_enter Try.func50, Try.ntmps50
              go_wp2_with (first | ((with_reducible refine gate_dst (N := 6) rfl ?_); (try (refine gate_guard (by rfl) ?_; dsimp only)); refine Kd.R_lit (Kd.int .u8) _ 5 ?hg (N := 6) ?hd (xs := ([0, 0, 0, 2, 0, 5] : List Int)) (inner := [.int .u8 0, .int .u8 0, .int .u8 0, .int .u8 2, .int .u8 0, .int .u8 5]) (ok := fun _ => True) (okp := fun _ => True) ?hr ?hp (fun _ hk => hk) trivial (Below.refl _ _) (Nat.le_refl _) (by simp) ?_; (case hd => rfl); (case hg => rfl); (case hr => first | (go_simp; done) | (go_simp; rfl)); (case hp => exact (Reps.one (show Kd.M (Kd.int .u8) _ _ _ 0 [.int .u8 0] from rfl) (Reps.one (show Kd.M (Kd.int .u8) _ _ _ 0 [.int .u8 0] from rfl) (Reps.one (show Kd.M (Kd.int .u8) _ _ _ 0 [.int .u8 0] from rfl) (Reps.one (show Kd.M (Kd.int .u8) _ _ _ 2 [.int .u8 2] from rfl) (Reps.one (show Kd.M (Kd.int .u8) _ _ _ 0 [.int .u8 0] from rfl) (Reps.one (show Kd.M (Kd.int .u8) _ _ _ 5 [.int .u8 5] from rfl) (Reps.none _ _)))))))); intro v411 w11 ho12 hb hg_ hnew_; clear hg_ hnew_; (first | rw [← Ny410.out] at ho12 | (simp only [Int.reduceToNat] at ho12; rw [← Ny410.out] at ho12)); have n0_ := Aside0.mk (Kd.R_lower ho12 (below_size (by repeat (first | (with_reducible first | exact HB.out | apply below_alloc | apply pw_below_drewN | apply below_drew1) | exact HB.out)))); have n1_ := Aside0.mk (below_step (by repeat (first | (with_reducible first | exact HB.out | apply below_alloc | apply pw_below_drewN | apply below_drew1) | exact HB.out)) hb); clear HB; have HO412 := n0_; have HB := n1_; clear n0_ n1_; clear hb ho12; obtain ⟨Ao13, co13, eo13⟩ := Kd.R_slice HO412.out; subst eo13) | ((with_reducible refine gate_callee (f := 51) rfl ?_); refine goesL_ (some 7) rfl rfl Try.func51 (by kernel_rfl) rfl #[.slice Ao13 y410.length co13, .bool false, .int .i64 2] rfl (by (try simp only [List.map_toArray, List.map_cons, List.map_nil]); first | done | rfl | (simp only [List.length_drop, List.length_take]; rfl)) ?_; (with_reducible refine (loca_Read.calls k _ _ y410 false 2 t413 t414 _ ?side1 ?side2 A1.out).mono ?_); (case side1 => repeat (first | exact (Kd.R_reads' HO412.out).2.2 | (with_reducible refine Kd.C_alloc ?_ _) | (with_reducible refine Kd.C_drewN ?_ _) | (with_reducible refine Kd.C_drew ?_))); (case side2 => exact (Kd.R_reads' HO412.out).2.1); rintro e w14 ⟨v415, rfl, ho0, hb⟩; refine ⟨_, rfl, ?_⟩; have n0_ := Aside0.mk (Kd.R_below (by (with_reducible repeat (first | apply Kd.R_alloc | apply Kd.R_drewN | apply Kd.R_drew)); exact HO412.out) hb); have n1_ := Aside0.mk (Kd.R_lower ho0 (below_size (by repeat (first | (with_reducible first | exact HB.out | apply below_alloc | apply pw_below_drewN | apply below_drew1) | exact HB.out)))); have n2_ := Aside0.mk (below_step (by repeat (first | (with_reducible first | exact HB.out | apply below_alloc | apply pw_below_drewN | apply below_drew1) | exact HB.out)) hb); clear HO412; clear HB; have HO412 := n0_; have HO416 := n1_; have HB := n2_; clear n0_ n1_ n2_; (try clear hb); (try clear hb2); (try clear hk); (try clear hi); (try clear ho0)) | ((with_reducible refine gate_dst (N := 11) rfl ?_); (try (refine gate_guard (by rfl) ?_; dsimp only)); refine Kd.R_lit (Kd.int .u8) _ 5 ?hg (N := 11) ?hd (xs := ([1, 244, 0, 10, 255, 254] : List Int)) (inner := [.int .u8 1, .int .u8 244, .int .u8 0, .int .u8 10, .int .u8 255, .int .u8 254]) (ok := fun _ => True) (okp := fun _ => True) ?hr ?hp (fun _ hk => hk) trivial (Below.refl _ _) (Nat.le_refl _) (by simp) ?_; (case hd => rfl); (case hg => rfl); (case hr => first | (go_simp; done) | (go_simp; rfl)); (case hp => exact (Reps.one (show Kd.M (Kd.int .u8) _ _ _ 1 [.int .u8 1] from rfl) (Reps.one (show Kd.M (Kd.int .u8) _ _ _ 244 [.int .u8 244] from rfl) (Reps.one (show Kd.M (Kd.int .u8) _ _ _ 0 [.int .u8 0] from rfl) (Reps.one (show Kd.M (Kd.int .u8) _ _ _ 10 [.int .u8 10] from rfl) (Reps.one (show Kd.M (Kd.int .u8) _ _ _ 255 [.int .u8 255] from rfl) (Reps.one (show Kd.M (Kd.int .u8) _ _ _ 254 [.int .u8 254] from rfl) (Reps.none _ _)))))))); intro v418 w15 ho16 hb hg_ hnew_; clear hg_ hnew_; (first | rw [← Ny417.out] at ho16 | (simp only [Int.reduceToNat] at ho16; rw [← Ny417.out] at ho16)); have n0_ := Aside0.mk (Kd.R_elder' (by (with_reducible repeat (first | apply Kd.R_alloc | apply Kd.R_drewN | apply Kd.R_drew)); exact HO412.out) (Kd.R_base ho16) hb); have n1_ := Aside0.mk (Kd.R_below (by (with_reducible repeat (first | apply Kd.R_alloc | apply Kd.R_drewN | apply Kd.R_drew)); exact HO416.out) hb); have n2_ := Aside0.mk (Kd.R_lower (Kd.R_new' ho16 (Kd.R_lt (by (with_reducible repeat (first | apply Kd.R_alloc | apply Kd.R_drewN | apply Kd.R_drew)); exact HO412.out))) (below_size (by repeat (first | (with_reducible first | exact HB.out | apply below_alloc | apply pw_below_drewN | apply below_drew1) | exact HB.out)))); have n3_ := Aside0.mk (below_step (by repeat (first | (with_reducible first | exact HB.out | apply below_alloc | apply pw_below_drewN | apply below_drew1) | exact HB.out)) hb); clear HO412; clear HO416; clear HB; have HO412 := n0_; have HO416 := n1_; have HO419 := n2_; have HB := n3_; clear n0_ n1_ n2_ n3_; clear hb ho16; obtain ⟨Ao17, co17, eo17⟩ := Kd.R_slice HO419.out; subst eo17) | ((with_reducible refine gate_callee (f := 58) rfl ?_); refine goesL_ (some 12) rfl rfl Try.func58 (by kernel_rfl) rfl #[.slice Ao17 y417.length co17, .int .i64 1, .int .i64 2] rfl (by (try simp only [List.map_toArray, List.map_cons, List.map_nil]); first | done | rfl | (simp only [List.length_drop, List.length_take]; rfl)) ?_; (with_reducible refine (loca_Metrics.calls k _ _ y417 1 2 t420 t421 _ ?side1 ?side2 A2.out).mono ?_); (case side1 => repeat (first | exact (Kd.R_reads' HO419.out).2.2 | (with_reducible refine Kd.C_alloc ?_ _) | (with_reducible refine Kd.C_drewN ?_ _) | (with_reducible refine Kd.C_drew ?_))); (case side2 => exact (Kd.R_reads' HO419.out).2.1); rintro e w18 ⟨v422, rfl, ho0, hb⟩; refine ⟨_, rfl, ?_⟩; have n0_ := Aside0.mk (Kd.R_below (by (with_reducible repeat (first | apply Kd.R_alloc | apply Kd.R_drewN | apply Kd.R_drew)); exact HO412.out) hb); have n1_ := Aside0.mk (Kd.R_below (by (with_reducible repeat (first | apply Kd.R_alloc | apply Kd.R_drewN | apply Kd.R_drew)); exact HO416.out) hb); have n2_ := Aside0.mk (Kd.R_below (by (with_reducible repeat (first | apply Kd.R_alloc | apply Kd.R_drewN | apply Kd.R_drew)); exact HO419.out) hb); have n3_ := Aside0.mk (Kd.R_lower ho0 (below_size (by repeat (first | (with_reducible first | exact HB.out | apply below_alloc | apply pw_below_drewN | apply below_drew1) | exact HB.out)))); have n4_ := Aside0.mk (below_step (by repeat (first | (with_reducible first | exact HB.out | apply below_alloc | apply pw_below_drewN | apply below_drew1) | exact HB.out)) hb); clear HO412; clear HO416; clear HO419; clear HB; have HO412 := n0_; have HO416 := n1_; have HO419 := n2_; have HO423 := n3_; have HB := n4_; clear n0_ n1_ n2_ n3_ n4_; (try clear hb); (try clear hb2); (try clear hk); (try clear hi); (try clear ho0)) | ((with_reducible refine gate_dst (N := 19) rfl ?_); (try (refine gate_guard (by rfl) ?_; dsimp only)); refine Kd.R_lit (Kd.int .i64) _ 3 ?hg (N := 19) ?hd (xs := ([0, 4, 10] : List Int)) (inner := [.int .i64 0, .int .i64 4, .int .i64 10]) (ok := fun _ => True) (okp := fun _ => True) ?hr ?hp (fun _ hk => hk) trivial (Below.refl _ _) (Nat.le_refl _) (by simp) ?_; (case hd => rfl); (case hg => rfl); (case hr => first | (go_simp; done) | (go_simp; rfl)); (case hp => exact (Reps.one (show Kd.M (Kd.int .i64) _ _ _ 0 [.int .i64 0] from rfl) (Reps.one (show Kd.M (Kd.int .i64) _ _ _ 4 [.int .i64 4] from rfl) (Reps.one (show Kd.M (Kd.int .i64) _ _ _ 10 [.int .i64 10] from rfl) (Reps.none _ _))))); intro v425 w19 ho20 hb hg_ hnew_; clear hg_ hnew_; (first | rw [← Ny424.out] at ho20 | (simp only [Int.reduceToNat] at ho20; rw [← Ny424.out] at ho20)); have n0_ := Aside0.mk (Kd.R_below (by (with_reducible repeat (first | apply Kd.R_alloc | apply Kd.R_drewN | apply Kd.R_drew)); exact HO412.out) hb); have n1_ := Aside0.mk (Kd.R_elder' (by (with_reducible repeat (first | apply Kd.R_alloc | apply Kd.R_drewN | apply Kd.R_drew)); exact HO416.out) (Kd.R_base ho20) hb); have n2_ := Aside0.mk (Kd.R_below (by (with_reducible repeat (first | apply Kd.R_alloc | apply Kd.R_drewN | apply Kd.R_drew)); exact HO419.out) hb); have n3_ := Aside0.mk (Kd.R_below (by (with_reducible repeat (first | apply Kd.R_alloc | apply Kd.R_drewN | apply Kd.R_drew)); exact HO423.out) hb); have n4_ := Aside0.mk (Kd.R_lower (Kd.R_new' ho20 (Kd.R_lt (by (with_reducible repeat (first | apply Kd.R_alloc | apply Kd.R_drewN | apply Kd.R_drew)); exact HO416.out))) (below_size (by repeat (first | (with_reducible first | exact HB.out | apply below_alloc | apply pw_below_drewN | apply below_drew1) | exact HB.out)))); have n5_ := Aside0.mk (below_step (by repeat (first | (with_reducible first | exact HB.out | apply below_alloc | apply pw_below_drewN | apply below_drew1) | exact HB.out)) hb); clear HO412; clear HO416; clear HO419; clear HO423; clear HB; have HO412 := n0_; have HO416 := n1_; have HO419 := n2_; have HO423 := n3_; have HO426 := n4_; have HB := n5_; clear n0_ n1_ n2_ n3_ n4_ n5_; clear hb ho20; obtain ⟨Ao21, co21, eo21⟩ := Kd.R_slice HO416.out; subst eo21; obtain ⟨Ao22, co22, eo22⟩ := Kd.R_slice HO426.out; subst eo22) | (go_at_call 53; (with_reducible refine (calamusref02_Ints.calls k _ _ t413 _ _ y424 true _ ?side1 ?side2 ?side3 ?side4 A4.out).mono ?_); (case side1 => repeat (first | exact (Kd.R_reads' HO416.out).2.2 | (with_reducible refine Kd.C_alloc ?_ _) | (with_reducible refine Kd.C_drewN ?_ _) | (with_reducible refine Kd.C_drew ?_))); (case side2 => exact (Kd.R_reads' HO416.out).2.1); (case side3 => repeat (first | exact (Kd.R_reads' HO426.out).2.2 | (with_reducible refine Kd.C_alloc ?_ _) | (with_reducible refine Kd.C_drewN ?_ _) | (with_reducible refine Kd.C_drew ?_))); (case side4 => exact (Kd.R_reads' HO426.out).2.1); rintro e w' ⟨rfl, ⟨nd, rfl⟩⟩) | ((with_reducible refine gate_dst (N := 23) rfl ?_); (try (refine gate_guard (by rfl) ?_; dsimp only)); refine Kd.R_lit (Kd.int .i64) _ 3 ?hg (N := 23) ?hd (xs := ([0, 4, 9] : List Int)) (inner := [.int .i64 0, .int .i64 4, .int .i64 9]) (ok := fun _ => True) (okp := fun _ => True) ?hr ?hp (fun _ hk => hk) trivial (Below.refl _ _) (Nat.le_refl _) (by simp) ?_; (case hd => rfl); (case hg => rfl); (case hr => first | (go_simp; done) | (go_simp; rfl)); (case hp => exact (Reps.one (show Kd.M (Kd.int .i64) _ _ _ 0 [.int .i64 0] from rfl) (Reps.one (show Kd.M (Kd.int .i64) _ _ _ 4 [.int .i64 4] from rfl) (Reps.one (show Kd.M (Kd.int .i64) _ _ _ 9 [.int .i64 9] from rfl) (Reps.none _ _))))); intro v429 w23 ho24 hb hg_ hnew_; clear hg_ hnew_; (first | rw [← Ny428.out] at ho24 | (simp only [Int.reduceToNat] at ho24; rw [← Ny428.out] at ho24)); have n0_ := Aside0.mk (Kd.R_below (by (with_reducible repeat (first | apply Kd.R_alloc | apply Kd.R_drewN | apply Kd.R_drew)); exact HO412.out) hb); have n1_ := Aside0.mk (Kd.R_elder' (by (with_reducible repeat (first | apply Kd.R_alloc | apply Kd.R_drewN | apply Kd.R_drew)); exact HO416.out) (Kd.R_base ho24) hb); have n2_ := Aside0.mk (Kd.R_below (by (with_reducible repeat (first | apply Kd.R_alloc | apply Kd.R_drewN | apply Kd.R_drew)); exact HO419.out) hb); have n3_ := Aside0.mk (Kd.R_below (by (with_reducible repeat (first | apply Kd.R_alloc | apply Kd.R_drewN | apply Kd.R_drew)); exact HO423.out) hb); have n4_ := Aside0.mk (Kd.R_elder' (by (with_reducible repeat (first | apply Kd.R_alloc | apply Kd.R_drewN | apply Kd.R_drew)); exact HO426.out) (Kd.R_base ho24) hb); have n5_ := Aside0.mk (Kd.R_lower (Kd.R_new' (Kd.R_new' ho24 (Kd.R_lt (by (with_reducible repeat (first | apply Kd.R_alloc | apply Kd.R_drewN | apply Kd.R_drew)); exact HO416.out))) (Kd.R_lt (by (with_reducible repeat (first | apply Kd.R_alloc | apply Kd.R_drewN | apply Kd.R_drew)); exact HO426.out))) (below_size (by repeat (first | (with_reducible first | exact HB.out | apply below_alloc | apply pw_below_drewN | apply below_drew1) | exact HB.out)))); have n6_ := Aside0.mk (below_step (by repeat (first | (with_reducible first | exact HB.out | apply below_alloc | apply pw_below_drewN | apply below_drew1) | exact HB.out)) hb); clear HO412; clear HO416; clear HO419; clear HO423; clear HO426; clear HB; have HO412 := n0_; have HO416 := n1_; have HO419 := n2_; have HO423 := n3_; have HO426 := n4_; have HO430 := n5_; have HB := n6_; clear n0_ n1_ n2_ n3_ n4_ n5_ n6_; clear hb ho24; obtain ⟨Ao25, co25, eo25⟩ := Kd.R_slice HO430.out; subst eo25) | (go_at_call 56; (with_reducible refine (loca_Long.calls _ _ y428 true _ ?side1 ?side2 A6.out).mono ?_); (case side1 => repeat (first | exact (Kd.R_reads' HO430.out).2.2 | (with_reducible refine Kd.C_alloc ?_ _) | (with_reducible refine Kd.C_drewN ?_ _) | (with_reducible refine Kd.C_drew ?_))); (case side2 => exact (Kd.R_reads' HO430.out).2.1); rintro e w26 ⟨rfl, hb⟩; have n0_ := Aside0.mk (Kd.R_below (by (with_reducible repeat (first | apply Kd.R_alloc | apply Kd.R_drewN | apply Kd.R_drew)); exact HO412.out) hb); have n1_ := Aside0.mk (Kd.R_below (by (with_reducible repeat (first | apply Kd.R_alloc | apply Kd.R_drewN | apply Kd.R_drew)); exact HO416.out) hb); have n2_ := Aside0.mk (Kd.R_below (by (with_reducible repeat (first | apply Kd.R_alloc | apply Kd.R_drewN | apply Kd.R_drew)); exact HO419.out) hb); have n3_ := Aside0.mk (Kd.R_below (by (with_reducible repeat (first | apply Kd.R_alloc | apply Kd.R_drewN | apply Kd.R_drew)); exact HO423.out) hb); have n4_ := Aside0.mk (Kd.R_below (by (with_reducible repeat (first | apply Kd.R_alloc | apply Kd.R_drewN | apply Kd.R_drew)); exact HO426.out) hb); have n5_ := Aside0.mk (Kd.R_below (by (with_reducible repeat (first | apply Kd.R_alloc | apply Kd.R_drewN | apply Kd.R_drew)); exact HO430.out) hb); have n6_ := Aside0.mk (below_step (by repeat (first | (with_reducible first | exact HB.out | apply below_alloc | apply pw_below_drewN | apply below_drew1) | exact HB.out)) hb); clear HO412; clear HO416; clear HO419; clear HO423; clear HO426; clear HO430; clear HB; have HO412 := n0_; have HO416 := n1_; have HO419 := n2_; have HO423 := n3_; have HO426 := n4_; have HO430 := n5_; have HB := n6_; clear n0_ n1_ n2_ n3_ n4_ n5_ n6_; (try clear hb); (try clear hb2); (try clear hk); (try clear hi); obtain ⟨Ao27, co27, eo27⟩ := Kd.R_slice HO423.out; subst eo27; have p432 : 0 ≤ (1 : Int) := (by omega); have q432 : 1 < (t420.length : Int) := of_decide_eq_true (by first | (with_reducible assumption) | assumption); obtain ⟨ad432, e432, hx432_0, hx432_1⟩ := at_T111 (Kd.R_reads' HO423.out).2.2 1 p432 q432; cases e432; (try simp only [show (1 : Int).toNat = 1 from rfl, Nat.reduceMul, Nat.reduceEqDiff, Go.Addr.add, ↓reduceIte] at hx432_0); (try simp only [show (1 : Int).toNat = 1 from rfl, Nat.reduceMul, Nat.reduceEqDiff, Go.Addr.add, ↓reduceIte] at hx432_1); have qi432 : (1 < t420.length) = True := eq_true (by omega); (try rw [show ((1 : Int)).toNat = 1 from rfl] at hx432_0); (try rw [show 1 * 2 = 2 from rfl] at hx432_0); (try rw [show ((1 : Int)).toNat = 1 from rfl] at hx432_1); (try rw [show 1 * 2 = 2 from rfl] at hx432_1); replace p432 := eq_true p432; replace q432 := eq_true q432))
              go_ret
              exact ⟨by first | rfl | (simp [errW_none, errW_some] <;> rfl) | (simp [*, errW_none, errW_some] <;> rfl), by repeat (first | (with_reducible first | exact HB.out | apply below_alloc | apply pw_below_drewN | apply below_drew1) | exact HB.out)⟩
            · rw [if_neg c10] at H
              exact absurd H (by simp)
          · rw [if_neg c9] at H
            have c9b0 : ((t420.length : Int) == 2) = false := beq_eq_false_iff_ne.mpr c9
            have c9b1 : ((t420.length : Int) != 2) = true := bne_iff_ne.mpr c9
            obtain rfl := Option.some.inj H
            go_enter Try.func50, Try.ntmps50
            go_wp2_with (first | ((with_reducible refine gate_dst (N := 6) rfl ?_); (try (refine gate_guard (by rfl) ?_; dsimp only)); refine Kd.R_lit (Kd.int .u8) _ 5 ?hg (N := 6) ?hd (xs := ([0, 0, 0, 2, 0, 5] : List Int)) (inner := [.int .u8 0, .int .u8 0, .int .u8 0, .int .u8 2, .int .u8 0, .int .u8 5]) (ok := fun _ => True) (okp := fun _ => True) ?hr ?hp (fun _ hk => hk) trivial (Below.refl _ _) (Nat.le_refl _) (by simp) ?_; (case hd => rfl); (case hg => rfl); (case hr => first | (go_simp; done) | (go_simp; rfl)); (case hp => exact (Reps.one (show Kd.M (Kd.int .u8) _ _ _ 0 [.int .u8 0] from rfl) (Reps.one (show Kd.M (Kd.int .u8) _ _ _ 0 [.int .u8 0] from rfl) (Reps.one (show Kd.M (Kd.int .u8) _ _ _ 0 [.int .u8 0] from rfl) (Reps.one (show Kd.M (Kd.int .u8) _ _ _ 2 [.int .u8 2] from rfl) (Reps.one (show Kd.M (Kd.int .u8) _ _ _ 0 [.int .u8 0] from rfl) (Reps.one (show Kd.M (Kd.int .u8) _ _ _ 5 [.int .u8 5] from rfl) (Reps.none _ _)))))))); intro v411 w28 ho29 hb hg_ hnew_; clear hg_ hnew_; (first | rw [← Ny410.out] at ho29 | (simp only [Int.reduceToNat] at ho29; rw [← Ny410.out] at ho29)); have n0_ := Aside0.mk (Kd.R_lower ho29 (below_size (by repeat (first | (with_reducible first | exact HB.out | apply below_alloc | apply pw_below_drewN | apply below_drew1) | exact HB.out)))); have n1_ := Aside0.mk (below_step (by repeat (first | (with_reducible first | exact HB.out | apply below_alloc | apply pw_below_drewN | apply below_drew1) | exact HB.out)) hb); clear HB; have HO412 := n0_; have HB := n1_; clear n0_ n1_; clear hb ho29; obtain ⟨Ao30, co30, eo30⟩ := Kd.R_slice HO412.out; subst eo30) | ((with_reducible refine gate_callee (f := 51) rfl ?_); refine goesL_ (some 7) rfl rfl Try.func51 (by kernel_rfl) rfl #[.slice Ao30 y410.length co30, .bool false, .int .i64 2] rfl (by (try simp only [List.map_toArray, List.map_cons, List.map_nil]); first | done | rfl | (simp only [List.length_drop, List.length_take]; rfl)) ?_; (with_reducible refine (loca_Read.calls k _ _ y410 false 2 t413 t414 _ ?side1 ?side2 A1.out).mono ?_); (case side1 => repeat (first | exact (Kd.R_reads' HO412.out).2.2 | (with_reducible refine Kd.C_alloc ?_ _) | (with_reducible refine Kd.C_drewN ?_ _) | (with_reducible refine Kd.C_drew ?_))); (case side2 => exact (Kd.R_reads' HO412.out).2.1); rintro e w31 ⟨v415, rfl, ho0, hb⟩; refine ⟨_, rfl, ?_⟩; have n0_ := Aside0.mk (Kd.R_below (by (with_reducible repeat (first | apply Kd.R_alloc | apply Kd.R_drewN | apply Kd.R_drew)); exact HO412.out) hb); have n1_ := Aside0.mk (Kd.R_lower ho0 (below_size (by repeat (first | (with_reducible first | exact HB.out | apply below_alloc | apply pw_below_drewN | apply below_drew1) | exact HB.out)))); have n2_ := Aside0.mk (below_step (by repeat (first | (with_reducible first | exact HB.out | apply below_alloc | apply pw_below_drewN | apply below_drew1) | exact HB.out)) hb); clear HO412; clear HB; have HO412 := n0_; have HO416 := n1_; have HB := n2_; clear n0_ n1_ n2_; (try clear hb); (try clear hb2); (try clear hk); (try clear hi); (try clear ho0)) | ((with_reducible refine gate_dst (N := 11) rfl ?_); (try (refine gate_guard (by rfl) ?_; dsimp only)); refine Kd.R_lit (Kd.int .u8) _ 5 ?hg (N := 11) ?hd (xs := ([1, 244, 0, 10, 255, 254] : List Int)) (inner := [.int .u8 1, .int .u8 244, .int .u8 0, .int .u8 10, .int .u8 255, .int .u8 254]) (ok := fun _ => True) (okp := fun _ => True) ?hr ?hp (fun _ hk => hk) trivial (Below.refl _ _) (Nat.le_refl _) (by simp) ?_; (case hd => rfl); (case hg => rfl); (case hr => first | (go_simp; done) | (go_simp; rfl)); (case hp => exact (Reps.one (show Kd.M (Kd.int .u8) _ _ _ 1 [.int .u8 1] from rfl) (Reps.one (show Kd.M (Kd.int .u8) _ _ _ 244 [.int .u8 244] from rfl) (Reps.one (show Kd.M (Kd.int .u8) _ _ _ 0 [.int .u8 0] from rfl) (Reps.one (show Kd.M (Kd.int .u8) _ _ _ 10 [.int .u8 10] from rfl) (Reps.one (show Kd.M (Kd.int .u8) _ _ _ 255 [.int .u8 255] from rfl) (Reps.one (show Kd.M (Kd.int .u8) _ _ _ 254 [.int .u8 254] from rfl) (Reps.none _ _)))))))); intro v418 w32 ho33 hb hg_ hnew_; clear hg_ hnew_; (first | rw [← Ny417.out] at ho33 | (simp only [Int.reduceToNat] at ho33; rw [← Ny417.out] at ho33)); have n0_ := Aside0.mk (Kd.R_elder' (by (with_reducible repeat (first | apply Kd.R_alloc | apply Kd.R_drewN | apply Kd.R_drew)); exact HO412.out) (Kd.R_base ho33) hb); have n1_ := Aside0.mk (Kd.R_below (by (with_reducible repeat (first | apply Kd.R_alloc | apply Kd.R_drewN | apply Kd.R_drew)); exact HO416.out) hb); have n2_ := Aside0.mk (Kd.R_lower (Kd.R_new' ho33 (Kd.R_lt (by (with_reducible repeat (first | apply Kd.R_alloc | apply Kd.R_drewN | apply Kd.R_drew)); exact HO412.out))) (below_size (by repeat (first | (with_reducible first | exact HB.out | apply below_alloc | apply pw_below_drewN | apply below_drew1) | exact HB.out)))); have n3_ := Aside0.mk (below_step (by repeat (first | (with_reducible first | exact HB.out | apply below_alloc | apply pw_below_drewN | apply below_drew1) | exact HB.out)) hb); clear HO412; clear HO416; clear HB; have HO412 := n0_; have HO416 := n1_; have HO419 := n2_; have HB := n3_; clear n0_ n1_ n2_ n3_; clear hb ho33; obtain ⟨Ao34, co34, eo34⟩ := Kd.R_slice HO419.out; subst eo34) | ((with_reducible refine gate_callee (f := 58) rfl ?_); refine goesL_ (some 12) rfl rfl Try.func58 (by kernel_rfl) rfl #[.slice Ao34 y417.length co34, .int .i64 1, .int .i64 2] rfl (by (try simp only [List.map_toArray, List.map_cons, List.map_nil]); first | done | rfl | (simp only [List.length_drop, List.length_take]; rfl)) ?_; (with_reducible refine (loca_Metrics.calls k _ _ y417 1 2 t420 t421 _ ?side1 ?side2 A2.out).mono ?_); (case side1 => repeat (first | exact (Kd.R_reads' HO419.out).2.2 | (with_reducible refine Kd.C_alloc ?_ _) | (with_reducible refine Kd.C_drewN ?_ _) | (with_reducible refine Kd.C_drew ?_))); (case side2 => exact (Kd.R_reads' HO419.out).2.1); rintro e w35 ⟨v422, rfl, ho0, hb⟩; refine ⟨_, rfl, ?_⟩; have n0_ := Aside0.mk (Kd.R_below (by (with_reducible repeat (first | apply Kd.R_alloc | apply Kd.R_drewN | apply Kd.R_drew)); exact HO412.out) hb); have n1_ := Aside0.mk (Kd.R_below (by (with_reducible repeat (first | apply Kd.R_alloc | apply Kd.R_drewN | apply Kd.R_drew)); exact HO416.out) hb); have n2_ := Aside0.mk (Kd.R_below (by (with_reducible repeat (first | apply Kd.R_alloc | apply Kd.R_drewN | apply Kd.R_drew)); exact HO419.out) hb); have n3_ := Aside0.mk (Kd.R_lower ho0 (below_size (by repeat (first | (with_reducible first | exact HB.out | apply below_alloc | apply pw_below_drewN | apply below_drew1) | exact HB.out)))); have n4_ := Aside0.mk (below_step (by repeat (first | (with_reducible first | exact HB.out | apply below_alloc | apply pw_below_drewN | apply below_drew1) | exact HB.out)) hb); clear HO412; clear HO416; clear HO419; clear HB; have HO412 := n0_; have HO416 := n1_; have HO419 := n2_; have HO423 := n3_; have HB := n4_; clear n0_ n1_ n2_ n3_ n4_; (try clear hb); (try clear hb2); (try clear hk); (try clear hi); (try clear ho0)) | ((with_reducible refine gate_dst (N := 19) rfl ?_); (try (refine gate_guard (by rfl) ?_; dsimp only)); refine Kd.R_lit (Kd.int .i64) _ 3 ?hg (N := 19) ?hd (xs := ([0, 4, 10] : List Int)) (inner := [.int .i64 0, .int .i64 4, .int .i64 10]) (ok := fun _ => True) (okp := fun _ => True) ?hr ?hp (fun _ hk => hk) trivial (Below.refl _ _) (Nat.le_refl _) (by simp) ?_; (case hd => rfl); (case hg => rfl); (case hr => first | (go_simp; done) | (go_simp; rfl)); (case hp => exact (Reps.one (show Kd.M (Kd.int .i64) _ _ _ 0 [.int .i64 0] from rfl) (Reps.one (show Kd.M (Kd.int .i64) _ _ _ 4 [.int .i64 4] from rfl) (Reps.one (show Kd.M (Kd.int .i64) _ _ _ 10 [.int .i64 10] from rfl) (Reps.none _ _))))); intro v425 w36 ho37 hb hg_ hnew_; clear hg_ hnew_; (first | rw [← Ny424.out] at ho37 | (simp only [Int.reduceToNat] at ho37; rw [← Ny424.out] at ho37)); have n0_ := Aside0.mk (Kd.R_below (by (with_reducible repeat (first | apply Kd.R_alloc | apply Kd.R_drewN | apply Kd.R_drew)); exact HO412.out) hb); have n1_ := Aside0.mk (Kd.R_elder' (by (with_reducible repeat (first | apply Kd.R_alloc | apply Kd.R_drewN | apply Kd.R_drew)); exact HO416.out) (Kd.R_base ho37) hb); have n2_ := Aside0.mk (Kd.R_below (by (with_reducible repeat (first | apply Kd.R_alloc | apply Kd.R_drewN | apply Kd.R_drew)); exact HO419.out) hb); have n3_ := Aside0.mk (Kd.R_below (by (with_reducible repeat (first | apply Kd.R_alloc | apply Kd.R_drewN | apply Kd.R_drew)); exact HO423.out) hb); have n4_ := Aside0.mk (Kd.R_lower (Kd.R_new' ho37 (Kd.R_lt (by (with_reducible repeat (first | apply Kd.R_alloc | apply Kd.R_drewN | apply Kd.R_drew)); exact HO416.out))) (below_size (by repeat (first | (with_reducible first | exact HB.out | apply below_alloc | apply pw_below_drewN | apply below_drew1) | exact HB.out)))); have n5_ := Aside0.mk (below_step (by repeat (first | (with_reducible first | exact HB.out | apply below_alloc | apply pw_below_drewN | apply below_drew1) | exact HB.out)) hb); clear HO412; clear HO416; clear HO419; clear HO423; clear HB; have HO412 := n0_; have HO416 := n1_; have HO419 := n2_; have HO423 := n3_; have HO426 := n4_; have HB := n5_; clear n0_ n1_ n2_ n3_ n4_ n5_; clear hb ho37; obtain ⟨Ao38, co38, eo38⟩ := Kd.R_slice HO416.out; subst eo38; obtain ⟨Ao39, co39, eo39⟩ := Kd.R_slice HO426.out; subst eo39) | (go_at_call 53; (with_reducible refine (calamusref02_Ints.calls k _ _ t413 _ _ y424 true _ ?side1 ?side2 ?side3 ?side4 A4.out).mono ?_); (case side1 => repeat (first | exact (Kd.R_reads' HO416.out).2.2 | (with_reducible refine Kd.C_alloc ?_ _) | (with_reducible refine Kd.C_drewN ?_ _) | (with_reducible refine Kd.C_drew ?_))); (case side2 => exact (Kd.R_reads' HO416.out).2.1); (case side3 => repeat (first | exact (Kd.R_reads' HO426.out).2.2 | (with_reducible refine Kd.C_alloc ?_ _) | (with_reducible refine Kd.C_drewN ?_ _) | (with_reducible refine Kd.C_drew ?_))); (case side4 => exact (Kd.R_reads' HO426.out).2.1); rintro e w' ⟨rfl, ⟨nd, rfl⟩⟩) | ((with_reducible refine gate_dst (N := 23) rfl ?_); (try (refine gate_guard (by rfl) ?_; dsimp only)); refine Kd.R_lit (Kd.int .i64) _ 3 ?hg (N := 23) ?hd (xs := ([0, 4, 9] : List Int)) (inner := [.int .i64 0, .int .i64 4, .int .i64 9]) (ok := fun _ => True) (okp := fun _ => True) ?hr ?hp (fun _ hk => hk) trivial (Below.refl _ _) (Nat.le_refl _) (by simp) ?_; (case hd => rfl); (case hg => rfl); (case hr => first | (go_simp; done) | (go_simp; rfl)); (case hp => exact (Reps.one (show Kd.M (Kd.int .i64) _ _ _ 0 [.int .i64 0] from rfl) (Reps.one (show Kd.M (Kd.int .i64) _ _ _ 4 [.int .i64 4] from rfl) (Reps.one (show Kd.M (Kd.int .i64) _ _ _ 9 [.int .i64 9] from rfl) (Reps.none _ _))))); intro v429 w40 ho41 hb hg_ hnew_; clear hg_ hnew_; (first | rw [← Ny428.out] at ho41 | (simp only [Int.reduceToNat] at ho41; rw [← Ny428.out] at ho41)); have n0_ := Aside0.mk (Kd.R_below (by (with_reducible repeat (first | apply Kd.R_alloc | apply Kd.R_drewN | apply Kd.R_drew)); exact HO412.out) hb); have n1_ := Aside0.mk (Kd.R_elder' (by (with_reducible repeat (first | apply Kd.R_alloc | apply Kd.R_drewN | apply Kd.R_drew)); exact HO416.out) (Kd.R_base ho41) hb); have n2_ := Aside0.mk (Kd.R_below (by (with_reducible repeat (first | apply Kd.R_alloc | apply Kd.R_drewN | apply Kd.R_drew)); exact HO419.out) hb); have n3_ := Aside0.mk (Kd.R_below (by (with_reducible repeat (first | apply Kd.R_alloc | apply Kd.R_drewN | apply Kd.R_drew)); exact HO423.out) hb); have n4_ := Aside0.mk (Kd.R_elder' (by (with_reducible repeat (first | apply Kd.R_alloc | apply Kd.R_drewN | apply Kd.R_drew)); exact HO426.out) (Kd.R_base ho41) hb); have n5_ := Aside0.mk (Kd.R_lower (Kd.R_new' (Kd.R_new' ho41 (Kd.R_lt (by (with_reducible repeat (first | apply Kd.R_alloc | apply Kd.R_drewN | apply Kd.R_drew)); exact HO416.out))) (Kd.R_lt (by (with_reducible repeat (first | apply Kd.R_alloc | apply Kd.R_drewN | apply Kd.R_drew)); exact HO426.out))) (below_size (by repeat (first | (with_reducible first | exact HB.out | apply below_alloc | apply pw_below_drewN | apply below_drew1) | exact HB.out)))); have n6_ := Aside0.mk (below_step (by repeat (first | (with_reducible first | exact HB.out | apply below_alloc | apply pw_below_drewN | apply below_drew1) | exact HB.out)) hb); clear HO412; clear HO416; clear HO419; clear HO423; clear HO426; clear HB; have HO412 := n0_; have HO416 := n1_; have HO419 := n2_; have HO423 := n3_; have HO426 := n4_; have HO430 := n5_; have HB := n6_; clear n0_ n1_ n2_ n3_ n4_ n5_ n6_; clear hb ho41; obtain ⟨Ao42, co42, eo42⟩ := Kd.R_slice HO430.out; subst eo42) | (go_at_call 56; (with_reducible refine (loca_Long.calls _ _ y428 true _ ?side1 ?side2 A6.out).mono ?_); (case side1 => repeat (first | exact (Kd.R_reads' HO430.out).2.2 | (with_reducible refine Kd.C_alloc ?_ _) | (with_reducible refine Kd.C_drewN ?_ _) | (with_reducible refine Kd.C_drew ?_))); (case side2 => exact (Kd.R_reads' HO430.out).2.1); rintro e w43 ⟨rfl, hb⟩; have n0_ := Aside0.mk (Kd.R_below (by (with_reducible repeat (first | apply Kd.R_alloc | apply Kd.R_drewN | apply Kd.R_drew)); exact HO412.out) hb); have n1_ := Aside0.mk (Kd.R_below (by (with_reducible repeat (first | apply Kd.R_alloc | apply Kd.R_drewN | apply Kd.R_drew)); exact HO416.out) hb); have n2_ := Aside0.mk (Kd.R_below (by (with_reducible repeat (first | apply Kd.R_alloc | apply Kd.R_drewN | apply Kd.R_drew)); exact HO419.out) hb); have n3_ := Aside0.mk (Kd.R_below (by (with_reducible repeat (first | apply Kd.R_alloc | apply Kd.R_drewN | apply Kd.R_drew)); exact HO423.out) hb); have n4_ := Aside0.mk (Kd.R_below (by (with_reducible repeat (first | apply Kd.R_alloc | apply Kd.R_drewN | apply Kd.R_drew)); exact HO426.out) hb); have n5_ := Aside0.mk (Kd.R_below (by (with_reducible repeat (first | apply Kd.R_alloc | apply Kd.R_drewN | apply Kd.R_drew)); exact HO430.out) hb); have n6_ := Aside0.mk (below_step (by repeat (first | (with_reducible first | exact HB.out | apply below_alloc | apply pw_below_drewN | apply below_drew1) | exact HB.out)) hb); clear HO412; clear HO416; clear HO419; clear HO423; clear HO426; clear HO430; clear HB; have HO412 := n0_; have HO416 := n1_; have HO419 := n2_; have HO423 := n3_; have HO426 := n4_; have HO430 := n5_; have HB := n6_; clear n0_ n1_ n2_ n3_ n4_ n5_ n6_; (try clear hb); (try clear hb2); (try clear hk); (try clear hi); obtain ⟨Ao44, co44, eo44⟩ := Kd.R_slice HO423.out; subst eo44))
            go_ret
            exact ⟨by first | rfl | (simp [errW_none, errW_some] <;> rfl) | (simp [*, errW_none, errW_some] <;> rfl), by repeat (first | (with_reducible first | exact HB.out | apply below_alloc | apply pw_below_drewN | apply below_drew1) | exact HB.out)⟩
        · rw [if_neg c8] at H
          have c8b0 : (t421 == 0) = false := beq_eq_false_iff_ne.mpr c8
          have c8b1 : (t421 != 0) = true := bne_iff_ne.mpr c8
          obtain rfl := Option.some.inj H
          go_enter Try.func50, Try.ntmps50
          go_wp2_with (first | ((with_reducible refine gate_dst (N := 6) rfl ?_); (try (refine gate_guard (by rfl) ?_; dsimp only)); refine Kd.R_lit (Kd.int .u8) _ 5 ?hg (N := 6) ?hd (xs := ([0, 0, 0, 2, 0, 5] : List Int)) (inner := [.int .u8 0, .int .u8 0, .int .u8 0, .int .u8 2, .int .u8 0, .int .u8 5]) (ok := fun _ => True) (okp := fun _ => True) ?hr ?hp (fun _ hk => hk) trivial (Below.refl _ _) (Nat.le_refl _) (by simp) ?_; (case hd => rfl); (case hg => rfl); (case hr => first | (go_simp; done) | (go_simp; rfl)); (case hp => exact (Reps.one (show Kd.M (Kd.int .u8) _ _ _ 0 [.int .u8 0] from rfl) (Reps.one (show Kd.M (Kd.int .u8) _ _ _ 0 [.int .u8 0] from rfl) (Reps.one (show Kd.M (Kd.int .u8) _ _ _ 0 [.int .u8 0] from rfl) (Reps.one (show Kd.M (Kd.int .u8) _ _ _ 2 [.int .u8 2] from rfl) (Reps.one (show Kd.M (Kd.int .u8) _ _ _ 0 [.int .u8 0] from rfl) (Reps.one (show Kd.M (Kd.int .u8) _ _ _ 5 [.int .u8 5] from rfl) (Reps.none _ _)))))))); intro v411 w45 ho46 hb hg_ hnew_; clear hg_ hnew_; (first | rw [← Ny410.out] at ho46 | (simp only [Int.reduceToNat] at ho46; rw [← Ny410.out] at ho46)); have n0_ := Aside0.mk (Kd.R_lower ho46 (below_size (by repeat (first | (with_reducible first | exact HB.out | apply below_alloc | apply pw_below_drewN | apply below_drew1) | exact HB.out)))); have n1_ := Aside0.mk (below_step (by repeat (first | (with_reducible first | exact HB.out | apply below_alloc | apply pw_below_drewN | apply below_drew1) | exact HB.out)) hb); clear HB; have HO412 := n0_; have HB := n1_; clear n0_ n1_; clear hb ho46; obtain ⟨Ao47, co47, eo47⟩ := Kd.R_slice HO412.out; subst eo47) | ((with_reducible refine gate_callee (f := 51) rfl ?_); refine goesL_ (some 7) rfl rfl Try.func51 (by kernel_rfl) rfl #[.slice Ao47 y410.length co47, .bool false, .int .i64 2] rfl (by (try simp only [List.map_toArray, List.map_cons, List.map_nil]); first | done | rfl | (simp only [List.length_drop, List.length_take]; rfl)) ?_; (with_reducible refine (loca_Read.calls k _ _ y410 false 2 t413 t414 _ ?side1 ?side2 A1.out).mono ?_); (case side1 => repeat (first | exact (Kd.R_reads' HO412.out).2.2 | (with_reducible refine Kd.C_alloc ?_ _) | (with_reducible refine Kd.C_drewN ?_ _) | (with_reducible refine Kd.C_drew ?_))); (case side2 => exact (Kd.R_reads' HO412.out).2.1); rintro e w48 ⟨v415, rfl, ho0, hb⟩; refine ⟨_, rfl, ?_⟩; have n0_ := Aside0.mk (Kd.R_below (by (with_reducible repeat (first | apply Kd.R_alloc | apply Kd.R_drewN | apply Kd.R_drew)); exact HO412.out) hb); have n1_ := Aside0.mk (Kd.R_lower ho0 (below_size (by repeat (first | (with_reducible first | exact HB.out | apply below_alloc | apply pw_below_drewN | apply below_drew1) | exact HB.out)))); have n2_ := Aside0.mk (below_step (by repeat (first | (with_reducible first | exact HB.out | apply below_alloc | apply pw_below_drewN | apply below_drew1) | exact HB.out)) hb); clear HO412; clear HB; have HO412 := n0_; have HO416 := n1_; have HB := n2_; clear n0_ n1_ n2_; (try clear hb); (try clear hb2); (try clear hk); (try clear hi); (try clear ho0)) | ((with_reducible refine gate_dst (N := 11) rfl ?_); (try (refine gate_guard (by rfl) ?_; dsimp only)); refine Kd.R_lit (Kd.int .u8) _ 5 ?hg (N := 11) ?hd (xs := ([1, 244, 0, 10, 255, 254] : List Int)) (inner := [.int .u8 1, .int .u8 244, .int .u8 0, .int .u8 10, .int .u8 255, .int .u8 254]) (ok := fun _ => True) (okp := fun _ => True) ?hr ?hp (fun _ hk => hk) trivial (Below.refl _ _) (Nat.le_refl _) (by simp) ?_; (case hd => rfl); (case hg => rfl); (case hr => first | (go_simp; done) | (go_simp; rfl)); (case hp => exact (Reps.one (show Kd.M (Kd.int .u8) _ _ _ 1 [.int .u8 1] from rfl) (Reps.one (show Kd.M (Kd.int .u8) _ _ _ 244 [.int .u8 244] from rfl) (Reps.one (show Kd.M (Kd.int .u8) _ _ _ 0 [.int .u8 0] from rfl) (Reps.one (show Kd.M (Kd.int .u8) _ _ _ 10 [.int .u8 10] from rfl) (Reps.one (show Kd.M (Kd.int .u8) _ _ _ 255 [.int .u8 255] from rfl) (Reps.one (show Kd.M (Kd.int .u8) _ _ _ 254 [.int .u8 254] from rfl) (Reps.none _ _)))))))); intro v418 w49 ho50 hb hg_ hnew_; clear hg_ hnew_; (first | rw [← Ny417.out] at ho50 | (simp only [Int.reduceToNat] at ho50; rw [← Ny417.out] at ho50)); have n0_ := Aside0.mk (Kd.R_elder' (by (with_reducible repeat (first | apply Kd.R_alloc | apply Kd.R_drewN | apply Kd.R_drew)); exact HO412.out) (Kd.R_base ho50) hb); have n1_ := Aside0.mk (Kd.R_below (by (with_reducible repeat (first | apply Kd.R_alloc | apply Kd.R_drewN | apply Kd.R_drew)); exact HO416.out) hb); have n2_ := Aside0.mk (Kd.R_lower (Kd.R_new' ho50 (Kd.R_lt (by (with_reducible repeat (first | apply Kd.R_alloc | apply Kd.R_drewN | apply Kd.R_drew)); exact HO412.out))) (below_size (by repeat (first | (with_reducible first | exact HB.out | apply below_alloc | apply pw_below_drewN | apply below_drew1) | exact HB.out)))); have n3_ := Aside0.mk (below_step (by repeat (first | (with_reducible first | exact HB.out | apply below_alloc | apply pw_below_drewN | apply below_drew1) | exact HB.out)) hb); clear HO412; clear HO416; clear HB; have HO412 := n0_; have HO416 := n1_; have HO419 := n2_; have HB := n3_; clear n0_ n1_ n2_ n3_; clear hb ho50; obtain ⟨Ao51, co51, eo51⟩ := Kd.R_slice HO419.out; subst eo51) | ((with_reducible refine gate_callee (f := 58) rfl ?_); refine goesL_ (some 12) rfl rfl Try.func58 (by kernel_rfl) rfl #[.slice Ao51 y417.length co51, .int .i64 1, .int .i64 2] rfl (by (try simp only [List.map_toArray, List.map_cons, List.map_nil]); first | done | rfl | (simp only [List.length_drop, List.length_take]; rfl)) ?_; (with_reducible refine (loca_Metrics.calls k _ _ y417 1 2 t420 t421 _ ?side1 ?side2 A2.out).mono ?_); (case side1 => repeat (first | exact (Kd.R_reads' HO419.out).2.2 | (with_reducible refine Kd.C_alloc ?_ _) | (with_reducible refine Kd.C_drewN ?_ _) | (with_reducible refine Kd.C_drew ?_))); (case side2 => exact (Kd.R_reads' HO419.out).2.1); rintro e w52 ⟨v422, rfl, ho0, hb⟩; refine ⟨_, rfl, ?_⟩; have n0_ := Aside0.mk (Kd.R_below (by (with_reducible repeat (first | apply Kd.R_alloc | apply Kd.R_drewN | apply Kd.R_drew)); exact HO412.out) hb); have n1_ := Aside0.mk (Kd.R_below (by (with_reducible repeat (first | apply Kd.R_alloc | apply Kd.R_drewN | apply Kd.R_drew)); exact HO416.out) hb); have n2_ := Aside0.mk (Kd.R_below (by (with_reducible repeat (first | apply Kd.R_alloc | apply Kd.R_drewN | apply Kd.R_drew)); exact HO419.out) hb); have n3_ := Aside0.mk (Kd.R_lower ho0 (below_size (by repeat (first | (with_reducible first | exact HB.out | apply below_alloc | apply pw_below_drewN | apply below_drew1) | exact HB.out)))); have n4_ := Aside0.mk (below_step (by repeat (first | (with_reducible first | exact HB.out | apply below_alloc | apply pw_below_drewN | apply below_drew1) | exact HB.out)) hb); clear HO412; clear HO416; clear HO419; clear HB; have HO412 := n0_; have HO416 := n1_; have HO419 := n2_; have HO423 := n3_; have HB := n4_; clear n0_ n1_ n2_ n3_ n4_; (try clear hb); (try clear hb2); (try clear hk); (try clear hi); (try clear ho0)) | ((with_reducible refine gate_dst (N := 19) rfl ?_); (try (refine gate_guard (by rfl) ?_; dsimp only)); refine Kd.R_lit (Kd.int .i64) _ 3 ?hg (N := 19) ?hd (xs := ([0, 4, 10] : List Int)) (inner := [.int .i64 0, .int .i64 4, .int .i64 10]) (ok := fun _ => True) (okp := fun _ => True) ?hr ?hp (fun _ hk => hk) trivial (Below.refl _ _) (Nat.le_refl _) (by simp) ?_; (case hd => rfl); (case hg => rfl); (case hr => first | (go_simp; done) | (go_simp; rfl)); (case hp => exact (Reps.one (show Kd.M (Kd.int .i64) _ _ _ 0 [.int .i64 0] from rfl) (Reps.one (show Kd.M (Kd.int .i64) _ _ _ 4 [.int .i64 4] from rfl) (Reps.one (show Kd.M (Kd.int .i64) _ _ _ 10 [.int .i64 10] from rfl) (Reps.none _ _))))); intro v425 w53 ho54 hb hg_ hnew_; clear hg_ hnew_; (first | rw [← Ny424.out] at ho54 | (simp only [Int.reduceToNat] at ho54; rw [← Ny424.out] at ho54)); have n0_ := Aside0.mk (Kd.R_below (by (with_reducible repeat (first | apply Kd.R_alloc | apply Kd.R_drewN | apply Kd.R_drew)); exact HO412.out) hb); have n1_ := Aside0.mk (Kd.R_elder' (by (with_reducible repeat (first | apply Kd.R_alloc | apply Kd.R_drewN | apply Kd.R_drew)); exact HO416.out) (Kd.R_base ho54) hb); have n2_ := Aside0.mk (Kd.R_below (by (with_reducible repeat (first | apply Kd.R_alloc | apply Kd.R_drewN | apply Kd.R_drew)); exact HO419.out) hb); have n3_ := Aside0.mk (Kd.R_below (by (with_reducible repeat (first | apply Kd.R_alloc | apply Kd.R_drewN | apply Kd.R_drew)); exact HO423.out) hb); have n4_ := Aside0.mk (Kd.R_lower (Kd.R_new' ho54 (Kd.R_lt (by (with_reducible repeat (first | apply Kd.R_alloc | apply Kd.R_drewN | apply Kd.R_drew)); exact HO416.out))) (below_size (by repeat (first | (with_reducible first | exact HB.out | apply below_alloc | apply pw_below_drewN | apply below_drew1) | exact HB.out)))); have n5_ := Aside0.mk (below_step (by repeat (first | (with_reducible first | exact HB.out | apply below_alloc | apply pw_below_drewN | apply below_drew1) | exact HB.out)) hb); clear HO412; clear HO416; clear HO419; clear HO423; clear HB; have HO412 := n0_; have HO416 := n1_; have HO419 := n2_; have HO423 := n3_; have HO426 := n4_; have HB := n5_; clear n0_ n1_ n2_ n3_ n4_ n5_; clear hb ho54; obtain ⟨Ao55, co55, eo55⟩ := Kd.R_slice HO416.out; subst eo55; obtain ⟨Ao56, co56, eo56⟩ := Kd.R_slice HO426.out; subst eo56) | (go_at_call 53; (with_reducible refine (calamusref02_Ints.calls k _ _ t413 _ _ y424 true _ ?side1 ?side2 ?side3 ?side4 A4.out).mono ?_); (case side1 => repeat (first | exact (Kd.R_reads' HO416.out).2.2 | (with_reducible refine Kd.C_alloc ?_ _) | (with_reducible refine Kd.C_drewN ?_ _) | (with_reducible refine Kd.C_drew ?_))); (case side2 => exact (Kd.R_reads' HO416.out).2.1); (case side3 => repeat (first | exact (Kd.R_reads' HO426.out).2.2 | (with_reducible refine Kd.C_alloc ?_ _) | (with_reducible refine Kd.C_drewN ?_ _) | (with_reducible refine Kd.C_drew ?_))); (case side4 => exact (Kd.R_reads' HO426.out).2.1); rintro e w' ⟨rfl, ⟨nd, rfl⟩⟩) | ((with_reducible refine gate_dst (N := 23) rfl ?_); (try (refine gate_guard (by rfl) ?_; dsimp only)); refine Kd.R_lit (Kd.int .i64) _ 3 ?hg (N := 23) ?hd (xs := ([0, 4, 9] : List Int)) (inner := [.int .i64 0, .int .i64 4, .int .i64 9]) (ok := fun _ => True) (okp := fun _ => True) ?hr ?hp (fun _ hk => hk) trivial (Below.refl _ _) (Nat.le_refl _) (by simp) ?_; (case hd => rfl); (case hg => rfl); (case hr => first | (go_simp; done) | (go_simp; rfl)); (case hp => exact (Reps.one (show Kd.M (Kd.int .i64) _ _ _ 0 [.int .i64 0] from rfl) (Reps.one (show Kd.M (Kd.int .i64) _ _ _ 4 [.int .i64 4] from rfl) (Reps.one (show Kd.M (Kd.int .i64) _ _ _ 9 [.int .i64 9] from rfl) (Reps.none _ _))))); intro v429 w57 ho58 hb hg_ hnew_; clear hg_ hnew_; (first | rw [← Ny428.out] at ho58 | (simp only [Int.reduceToNat] at ho58; rw [← Ny428.out] at ho58)); have n0_ := Aside0.mk (Kd.R_below (by (with_reducible repeat (first | apply Kd.R_alloc | apply Kd.R_drewN | apply Kd.R_drew)); exact HO412.out) hb); have n1_ := Aside0.mk (Kd.R_elder' (by (with_reducible repeat (first | apply Kd.R_alloc | apply Kd.R_drewN | apply Kd.R_drew)); exact HO416.out) (Kd.R_base ho58) hb); have n2_ := Aside0.mk (Kd.R_below (by (with_reducible repeat (first | apply Kd.R_alloc | apply Kd.R_drewN | apply Kd.R_drew)); exact HO419.out) hb); have n3_ := Aside0.mk (Kd.R_below (by (with_reducible repeat (first | apply Kd.R_alloc | apply Kd.R_drewN | apply Kd.R_drew)); exact HO423.out) hb); have n4_ := Aside0.mk (Kd.R_elder' (by (with_reducible repeat (first | apply Kd.R_alloc | apply Kd.R_drewN | apply Kd.R_drew)); exact HO426.out) (Kd.R_base ho58) hb); have n5_ := Aside0.mk (Kd.R_lower (Kd.R_new' (Kd.R_new' ho58 (Kd.R_lt (by (with_reducible repeat (first | apply Kd.R_alloc | apply Kd.R_drewN | apply Kd.R_drew)); exact HO416.out))) (Kd.R_lt (by (with_reducible repeat (first | apply Kd.R_alloc | apply Kd.R_drewN | apply Kd.R_drew)); exact HO426.out))) (below_size (by repeat (first | (with_reducible first | exact HB.out | apply below_alloc | apply pw_below_drewN | apply below_drew1) | exact HB.out)))); have n6_ := Aside0.mk (below_step (by repeat (first | (with_reducible first | exact HB.out | apply below_alloc | apply pw_below_drewN | apply below_drew1) | exact HB.out)) hb); clear HO412; clear HO416; clear HO419; clear HO423; clear HO426; clear HB; have HO412 := n0_; have HO416 := n1_; have HO419 := n2_; have HO423 := n3_; have HO426 := n4_; have HO430 := n5_; have HB := n6_; clear n0_ n1_ n2_ n3_ n4_ n5_ n6_; clear hb ho58; obtain ⟨Ao59, co59, eo59⟩ := Kd.R_slice HO430.out; subst eo59) | (go_at_call 56; (with_reducible refine (loca_Long.calls _ _ y428 true _ ?side1 ?side2 A6.out).mono ?_); (case side1 => repeat (first | exact (Kd.R_reads' HO430.out).2.2 | (with_reducible refine Kd.C_alloc ?_ _) | (with_reducible refine Kd.C_drewN ?_ _) | (with_reducible refine Kd.C_drew ?_))); (case side2 => exact (Kd.R_reads' HO430.out).2.1); rintro e w60 ⟨rfl, hb⟩; have n0_ := Aside0.mk (Kd.R_below (by (with_reducible repeat (first | apply Kd.R_alloc | apply Kd.R_drewN | apply Kd.R_drew)); exact HO412.out) hb); have n1_ := Aside0.mk (Kd.R_below (by (with_reducible repeat (first | apply Kd.R_alloc | apply Kd.R_drewN | apply Kd.R_drew)); exact HO416.out) hb); have n2_ := Aside0.mk (Kd.R_below (by (with_reducible repeat (first | apply Kd.R_alloc | apply Kd.R_drewN | apply Kd.R_drew)); exact HO419.out) hb); have n3_ := Aside0.mk (Kd.R_below (by (with_reducible repeat (first | apply Kd.R_alloc | apply Kd.R_drewN | apply Kd.R_drew)); exact HO423.out) hb); have n4_ := Aside0.mk (Kd.R_below (by (with_reducible repeat (first | apply Kd.R_alloc | apply Kd.R_drewN | apply Kd.R_drew)); exact HO426.out) hb); have n5_ := Aside0.mk (Kd.R_below (by (with_reducible repeat (first | apply Kd.R_alloc | apply Kd.R_drewN | apply Kd.R_drew)); exact HO430.out) hb); have n6_ := Aside0.mk (below_step (by repeat (first | (with_reducible first | exact HB.out | apply below_alloc | apply pw_below_drewN | apply below_drew1) | exact HB.out)) hb); clear HO412; clear HO416; clear HO419; clear HO423; clear HO426; clear HO430; clear HB; have HO412 := n0_; have HO416 := n1_; have HO419 := n2_; have HO423 := n3_; have HO426 := n4_; have HO430 := n5_; have HB := n6_; clear n0_ n1_ n2_ n3_ n4_ n5_ n6_; (try clear hb); (try clear hb2); (try clear hk); (try clear hi)))
          go_ret
          exact ⟨by first | rfl | (simp [errW_none, errW_some] <;> rfl) | (simp [*, errW_none, errW_some] <;> rfl), by repeat (first | (with_reducible first | exact HB.out | apply below_alloc | apply pw_below_drewN | apply below_drew1) | exact HB.out)⟩
      · replace c7 := Bool.eq_false_iff.mpr c7
        subst c7
        have H1 : (some false) = some r := by rw [if_neg (show ¬ (false = true) by decide)] at H; exact H
        clear H
        have H := H1
        clear H1
        obtain rfl := Option.some.inj H
        go_enter Try.func50, Try.ntmps50
        go_wp2_with (first | ((with_reducible refine gate_dst (N := 6) rfl ?_); (try (refine gate_guard (by rfl) ?_; dsimp only)); refine Kd.R_lit (Kd.int .u8) _ 5 ?hg (N := 6) ?hd (xs := ([0, 0, 0, 2, 0, 5] : List Int)) (inner := [.int .u8 0, .int .u8 0, .int .u8 0, .int .u8 2, .int .u8 0, .int .u8 5]) (ok := fun _ => True) (okp := fun _ => True) ?hr ?hp (fun _ hk => hk) trivial (Below.refl _ _) (Nat.le_refl _) (by simp) ?_; (case hd => rfl); (case hg => rfl); (case hr => first | (go_simp; done) | (go_simp; rfl)); (case hp => exact (Reps.one (show Kd.M (Kd.int .u8) _ _ _ 0 [.int .u8 0] from rfl) (Reps.one (show Kd.M (Kd.int .u8) _ _ _ 0 [.int .u8 0] from rfl) (Reps.one (show Kd.M (Kd.int .u8) _ _ _ 0 [.int .u8 0] from rfl) (Reps.one (show Kd.M (Kd.int .u8) _ _ _ 2 [.int .u8 2] from rfl) (Reps.one (show Kd.M (Kd.int .u8) _ _ _ 0 [.int .u8 0] from rfl) (Reps.one (show Kd.M (Kd.int .u8) _ _ _ 5 [.int .u8 5] from rfl) (Reps.none _ _)))))))); intro v411 w61 ho62 hb hg_ hnew_; clear hg_ hnew_; (first | rw [← Ny410.out] at ho62 | (simp only [Int.reduceToNat] at ho62; rw [← Ny410.out] at ho62)); have n0_ := Aside0.mk (Kd.R_lower ho62 (below_size (by repeat (first | (with_reducible first | exact HB.out | apply below_alloc | apply pw_below_drewN | apply below_drew1) | exact HB.out)))); have n1_ := Aside0.mk (below_step (by repeat (first | (with_reducible first | exact HB.out | apply below_alloc | apply pw_below_drewN | apply below_drew1) | exact HB.out)) hb); clear HB; have HO412 := n0_; have HB := n1_; clear n0_ n1_; clear hb ho62; obtain ⟨Ao63, co63, eo63⟩ := Kd.R_slice HO412.out; subst eo63) | ((with_reducible refine gate_callee (f := 51) rfl ?_); refine goesL_ (some 7) rfl rfl Try.func51 (by kernel_rfl) rfl #[.slice Ao63 y410.length co63, .bool false, .int .i64 2] rfl (by (try simp only [List.map_toArray, List.map_cons, List.map_nil]); first | done | rfl | (simp only [List.length_drop, List.length_take]; rfl)) ?_; (with_reducible refine (loca_Read.calls k _ _ y410 false 2 t413 t414 _ ?side1 ?side2 A1.out).mono ?_); (case side1 => repeat (first | exact (Kd.R_reads' HO412.out).2.2 | (with_reducible refine Kd.C_alloc ?_ _) | (with_reducible refine Kd.C_drewN ?_ _) | (with_reducible refine Kd.C_drew ?_))); (case side2 => exact (Kd.R_reads' HO412.out).2.1); rintro e w64 ⟨v415, rfl, ho0, hb⟩; refine ⟨_, rfl, ?_⟩; have n0_ := Aside0.mk (Kd.R_below (by (with_reducible repeat (first | apply Kd.R_alloc | apply Kd.R_drewN | apply Kd.R_drew)); exact HO412.out) hb); have n1_ := Aside0.mk (Kd.R_lower ho0 (below_size (by repeat (first | (with_reducible first | exact HB.out | apply below_alloc | apply pw_below_drewN | apply below_drew1) | exact HB.out)))); have n2_ := Aside0.mk (below_step (by repeat (first | (with_reducible first | exact HB.out | apply below_alloc | apply pw_below_drewN | apply below_drew1) | exact HB.out)) hb); clear HO412; clear HB; have HO412 := n0_; have HO416 := n1_; have HB := n2_; clear n0_ n1_ n2_; (try clear hb); (try clear hb2); (try clear hk); (try clear hi); (try clear ho0)) | ((with_reducible refine gate_dst (N := 11) rfl ?_); (try (refine gate_guard (by rfl) ?_; dsimp only)); refine Kd.R_lit (Kd.int .u8) _ 5 ?hg (N := 11) ?hd (xs := ([1, 244, 0, 10, 255, 254] : List Int)) (inner := [.int .u8 1, .int .u8 244, .int .u8 0, .int .u8 10, .int .u8 255, .int .u8 254]) (ok := fun _ => True) (okp := fun _ => True) ?hr ?hp (fun _ hk => hk) trivial (Below.refl _ _) (Nat.le_refl _) (by simp) ?_; (case hd => rfl); (case hg => rfl); (case hr => first | (go_simp; done) | (go_simp; rfl)); (case hp => exact (Reps.one (show Kd.M (Kd.int .u8) _ _ _ 1 [.int .u8 1] from rfl) (Reps.one (show Kd.M (Kd.int .u8) _ _ _ 244 [.int .u8 244] from rfl) (Reps.one (show Kd.M (Kd.int .u8) _ _ _ 0 [.int .u8 0] from rfl) (Reps.one (show Kd.M (Kd.int .u8) _ _ _ 10 [.int .u8 10] from rfl) (Reps.one (show Kd.M (Kd.int .u8) _ _ _ 255 [.int .u8 255] from rfl) (Reps.one (show Kd.M (Kd.int .u8) _ _ _ 254 [.int .u8 254] from rfl) (Reps.none _ _)))))))); intro v418 w65 ho66 hb hg_ hnew_; clear hg_ hnew_; (first | rw [← Ny417.out] at ho66 | (simp only [Int.reduceToNat] at ho66; rw [← Ny417.out] at ho66)); have n0_ := Aside0.mk (Kd.R_elder' (by (with_reducible repeat (first | apply Kd.R_alloc | apply Kd.R_drewN | apply Kd.R_drew)); exact HO412.out) (Kd.R_base ho66) hb); have n1_ := Aside0.mk (Kd.R_below (by (with_reducible repeat (first | apply Kd.R_alloc | apply Kd.R_drewN | apply Kd.R_drew)); exact HO416.out) hb); have n2_ := Aside0.mk (Kd.R_lower (Kd.R_new' ho66 (Kd.R_lt (by (with_reducible repeat (first | apply Kd.R_alloc | apply Kd.R_drewN | apply Kd.R_drew)); exact HO412.out))) (below_size (by repeat (first | (with_reducible first | exact HB.out | apply below_alloc | apply pw_below_drewN | apply below_drew1) | exact HB.out)))); have n3_ := Aside0.mk (below_step (by repeat (first | (with_reducible first | exact HB.out | apply below_alloc | apply pw_below_drewN | apply below_drew1) | exact HB.out)) hb); clear HO412; clear HO416; clear HB; have HO412 := n0_; have HO416 := n1_; have HO419 := n2_; have HB := n3_; clear n0_ n1_ n2_ n3_; clear hb ho66; obtain ⟨Ao67, co67, eo67⟩ := Kd.R_slice HO419.out; subst eo67) | ((with_reducible refine gate_callee (f := 58) rfl ?_); refine goesL_ (some 12) rfl rfl Try.func58 (by kernel_rfl) rfl #[.slice Ao67 y417.length co67, .int .i64 1, .int .i64 2] rfl (by (try simp only [List.map_toArray, List.map_cons, List.map_nil]); first | done | rfl | (simp only [List.length_drop, List.length_take]; rfl)) ?_; (with_reducible refine (loca_Metrics.calls k _ _ y417 1 2 t420 t421 _ ?side1 ?side2 A2.out).mono ?_); (case side1 => repeat (first | exact (Kd.R_reads' HO419.out).2.2 | (with_reducible refine Kd.C_alloc ?_ _) | (with_reducible refine Kd.C_drewN ?_ _) | (with_reducible refine Kd.C_drew ?_))); (case side2 => exact (Kd.R_reads' HO419.out).2.1); rintro e w68 ⟨v422, rfl, ho0, hb⟩; refine ⟨_, rfl, ?_⟩; have n0_ := Aside0.mk (Kd.R_below (by (with_reducible repeat (first | apply Kd.R_alloc | apply Kd.R_drewN | apply Kd.R_drew)); exact HO412.out) hb); have n1_ := Aside0.mk (Kd.R_below (by (with_reducible repeat (first | apply Kd.R_alloc | apply Kd.R_drewN | apply Kd.R_drew)); exact HO416.out) hb); have n2_ := Aside0.mk (Kd.R_below (by (with_reducible repeat (first | apply Kd.R_alloc | apply Kd.R_drewN | apply Kd.R_drew)); exact HO419.out) hb); have n3_ := Aside0.mk (Kd.R_lower ho0 (below_size (by repeat (first | (with_reducible first | exact HB.out | apply below_alloc | apply pw_below_drewN | apply below_drew1) | exact HB.out)))); have n4_ := Aside0.mk (below_step (by repeat (first | (with_reducible first | exact HB.out | apply below_alloc | apply pw_below_drewN | apply below_drew1) | exact HB.out)) hb); clear HO412; clear HO416; clear HO419; clear HB; have HO412 := n0_; have HO416 := n1_; have HO419 := n2_; have HO423 := n3_; have HB := n4_; clear n0_ n1_ n2_ n3_ n4_; (try clear hb); (try clear hb2); (try clear hk); (try clear hi); (try clear ho0)) | ((with_reducible refine gate_dst (N := 19) rfl ?_); (try (refine gate_guard (by rfl) ?_; dsimp only)); refine Kd.R_lit (Kd.int .i64) _ 3 ?hg (N := 19) ?hd (xs := ([0, 4, 10] : List Int)) (inner := [.int .i64 0, .int .i64 4, .int .i64 10]) (ok := fun _ => True) (okp := fun _ => True) ?hr ?hp (fun _ hk => hk) trivial (Below.refl _ _) (Nat.le_refl _) (by simp) ?_; (case hd => rfl); (case hg => rfl); (case hr => first | (go_simp; done) | (go_simp; rfl)); (case hp => exact (Reps.one (show Kd.M (Kd.int .i64) _ _ _ 0 [.int .i64 0] from rfl) (Reps.one (show Kd.M (Kd.int .i64) _ _ _ 4 [.int .i64 4] from rfl) (Reps.one (show Kd.M (Kd.int .i64) _ _ _ 10 [.int .i64 10] from rfl) (Reps.none _ _))))); intro v425 w69 ho70 hb hg_ hnew_; clear hg_ hnew_; (first | rw [← Ny424.out] at ho70 | (simp only [Int.reduceToNat] at ho70; rw [← Ny424.out] at ho70)); have n0_ := Aside0.mk (Kd.R_below (by (with_reducible repeat (first | apply Kd.R_alloc | apply Kd.R_drewN | apply Kd.R_drew)); exact HO412.out) hb); have n1_ := Aside0.mk (Kd.R_elder' (by (with_reducible repeat (first | apply Kd.R_alloc | apply Kd.R_drewN | apply Kd.R_drew)); exact HO416.out) (Kd.R_base ho70) hb); have n2_ := Aside0.mk (Kd.R_below (by (with_reducible repeat (first | apply Kd.R_alloc | apply Kd.R_drewN | apply Kd.R_drew)); exact HO419.out) hb); have n3_ := Aside0.mk (Kd.R_below (by (with_reducible repeat (first | apply Kd.R_alloc | apply Kd.R_drewN | apply Kd.R_drew)); exact HO423.out) hb); have n4_ := Aside0.mk (Kd.R_lower (Kd.R_new' ho70 (Kd.R_lt (by (with_reducible repeat (first | apply Kd.R_alloc | apply Kd.R_drewN | apply Kd.R_drew)); exact HO416.out))) (below_size (by repeat (first | (with_reducible first | exact HB.out | apply below_alloc | apply pw_below_drewN | apply below_drew1) | exact HB.out)))); have n5_ := Aside0.mk (below_step (by repeat (first | (with_reducible first | exact HB.out | apply below_alloc | apply pw_below_drewN | apply below_drew1) | exact HB.out)) hb); clear HO412; clear HO416; clear HO419; clear HO423; clear HB; have HO412 := n0_; have HO416 := n1_; have HO419 := n2_; have HO423 := n3_; have HO426 := n4_; have HB := n5_; clear n0_ n1_ n2_ n3_ n4_ n5_; clear hb ho70; obtain ⟨Ao71, co71, eo71⟩ := Kd.R_slice HO416.out; subst eo71; obtain ⟨Ao72, co72, eo72⟩ := Kd.R_slice HO426.out; subst eo72) | (go_at_call 53; (with_reducible refine (calamusref02_Ints.calls k _ _ t413 _ _ y424 true _ ?side1 ?side2 ?side3 ?side4 A4.out).mono ?_); (case side1 => repeat (first | exact (Kd.R_reads' HO416.out).2.2 | (with_reducible refine Kd.C_alloc ?_ _) | (with_reducible refine Kd.C_drewN ?_ _) | (with_reducible refine Kd.C_drew ?_))); (case side2 => exact (Kd.R_reads' HO416.out).2.1); (case side3 => repeat (first | exact (Kd.R_reads' HO426.out).2.2 | (with_reducible refine Kd.C_alloc ?_ _) | (with_reducible refine Kd.C_drewN ?_ _) | (with_reducible refine Kd.C_drew ?_))); (case side4 => exact (Kd.R_reads' HO426.out).2.1); rintro e w' ⟨rfl, ⟨nd, rfl⟩⟩) | ((with_reducible refine gate_dst (N := 23) rfl ?_); (try (refine gate_guard (by rfl) ?_; dsimp only)); refine Kd.R_lit (Kd.int .i64) _ 3 ?hg (N := 23) ?hd (xs := ([0, 4, 9] : List Int)) (inner := [.int .i64 0, .int .i64 4, .int .i64 9]) (ok := fun _ => True) (okp := fun _ => True) ?hr ?hp (fun _ hk => hk) trivial (Below.refl _ _) (Nat.le_refl _) (by simp) ?_; (case hd => rfl); (case hg => rfl); (case hr => first | (go_simp; done) | (go_simp; rfl)); (case hp => exact (Reps.one (show Kd.M (Kd.int .i64) _ _ _ 0 [.int .i64 0] from rfl) (Reps.one (show Kd.M (Kd.int .i64) _ _ _ 4 [.int .i64 4] from rfl) (Reps.one (show Kd.M (Kd.int .i64) _ _ _ 9 [.int .i64 9] from rfl) (Reps.none _ _))))); intro v429 w73 ho74 hb hg_ hnew_; clear hg_ hnew_; (first | rw [← Ny428.out] at ho74 | (simp only [Int.reduceToNat] at ho74; rw [← Ny428.out] at ho74)); have n0_ := Aside0.mk (Kd.R_below (by (with_reducible repeat (first | apply Kd.R_alloc | apply Kd.R_drewN | apply Kd.R_drew)); exact HO412.out) hb); have n1_ := Aside0.mk (Kd.R_elder' (by (with_reducible repeat (first | apply Kd.R_alloc | apply Kd.R_drewN | apply Kd.R_drew)); exact HO416.out) (Kd.R_base ho74) hb); have n2_ := Aside0.mk (Kd.R_below (by (with_reducible repeat (first | apply Kd.R_alloc | apply Kd.R_drewN | apply Kd.R_drew)); exact HO419.out) hb); have n3_ := Aside0.mk (Kd.R_below (by (with_reducible repeat (first | apply Kd.R_alloc | apply Kd.R_drewN | apply Kd.R_drew)); exact HO423.out) hb); have n4_ := Aside0.mk (Kd.R_elder' (by (with_reducible repeat (first | apply Kd.R_alloc | apply Kd.R_drewN | apply Kd.R_drew)); exact HO426.out) (Kd.R_base ho74) hb); have n5_ := Aside0.mk (Kd.R_lower (Kd.R_new' (Kd.R_new' ho74 (Kd.R_lt (by (with_reducible repeat (first | apply Kd.R_alloc | apply Kd.R_drewN | apply Kd.R_drew)); exact HO416.out))) (Kd.R_lt (by (with_reducible repeat (first | apply Kd.R_alloc | apply Kd.R_drewN | apply Kd.R_drew)); exact HO426.out))) (below_size (by repeat (first | (with_reducible first | exact HB.out | apply below_alloc | apply pw_below_drewN | apply below_drew1) | exact HB.out)))); have n6_ := Aside0.mk (below_step (by repeat (first | (with_reducible first | exact HB.out | apply below_alloc | apply pw_below_drewN | apply below_drew1) | exact HB.out)) hb); clear HO412; clear HO416; clear HO419; clear HO423; clear HO426; clear HB; have HO412 := n0_; have HO416 := n1_; have HO419 := n2_; have HO423 := n3_; have HO426 := n4_; have HO430 := n5_; have HB := n6_; clear n0_ n1_ n2_ n3_ n4_ n5_ n6_; clear hb ho74; obtain ⟨Ao75, co75, eo75⟩ := Kd.R_slice HO430.out; subst eo75) | (go_at_call 56; (with_reducible refine (loca_Long.calls _ _ y428 false _ ?side1 ?side2 A6.out).mono ?_); (case side1 => repeat (first | exact (Kd.R_reads' HO430.out).2.2 | (with_reducible refine Kd.C_alloc ?_ _) | (with_reducible refine Kd.C_drewN ?_ _) | (with_reducible refine Kd.C_drew ?_))); (case side2 => exact (Kd.R_reads' HO430.out).2.1); rintro e w76 ⟨rfl, hb⟩; have n0_ := Aside0.mk (Kd.R_below (by (with_reducible repeat (first | apply Kd.R_alloc | apply Kd.R_drewN | apply Kd.R_drew)); exact HO412.out) hb); have n1_ := Aside0.mk (Kd.R_below (by (with_reducible repeat (first | apply Kd.R_alloc | apply Kd.R_drewN | apply Kd.R_drew)); exact HO416.out) hb); have n2_ := Aside0.mk (Kd.R_below (by (with_reducible repeat (first | apply Kd.R_alloc | apply Kd.R_drewN | apply Kd.R_drew)); exact HO419.out) hb); have n3_ := Aside0.mk (Kd.R_below (by (with_reducible repeat (first | apply Kd.R_alloc | apply Kd.R_drewN | apply Kd.R_drew)); exact HO423.out) hb); have n4_ := Aside0.mk (Kd.R_below (by (with_reducible repeat (first | apply Kd.R_alloc | apply Kd.R_drewN | apply Kd.R_drew)); exact HO426.out) hb); have n5_ := Aside0.mk (Kd.R_below (by (with_reducible repeat (first | apply Kd.R_alloc | apply Kd.R_drewN | apply Kd.R_drew)); exact HO430.out) hb); have n6_ := Aside0.mk (below_step (by repeat (first | (with_reducible first | exact HB.out | apply below_alloc | apply pw_below_drewN | apply below_drew1) | exact HB.out)) hb); clear HO412; clear HO416; clear HO419; clear HO423; clear HO426; clear HO430; clear HB; have HO412 := n0_; have HO416 := n1_; have HO419 := n2_; have HO423 := n3_; have HO426 := n4_; have HO430 := n5_; have HB := n6_; clear n0_ n1_ n2_ n3_ n4_ n5_ n6_; (try clear hb); (try clear hb2); (try clear hk); (try clear hi)))
        go_ret
        exact ⟨by first | rfl | (simp [errW_none, errW_some] <;> rfl) | (simp [*, errW_none, errW_some] <;> rfl), by repeat (first | (with_reducible first | exact HB.out | apply below_alloc | apply pw_below_drewN | apply below_drew1) | exact HB.out)⟩
    · replace c5 := Bool.eq_false_iff.mpr c5
      subst c5
      have H1 : (some false) = some r := by rw [if_neg (show ¬ (false = true) by decide)] at H; exact H
      clear H
      have H := H1
      clear H1
      obtain rfl := Option.some.inj H
      go_enter Try.func50, Try.ntmps50
      go_wp2_with (first | ((with_reducible refine gate_dst (N := 6) rfl ?_); (try (refine gate_guard (by rfl) ?_; dsimp only)); refine Kd.R_lit (Kd.int .u8) _ 5 ?hg (N := 6) ?hd (xs := ([0, 0, 0, 2, 0, 5] : List Int)) (inner := [.int .u8 0, .int .u8 0, .int .u8 0, .int .u8 2, .int .u8 0, .int .u8 5]) (ok := fun _ => True) (okp := fun _ => True) ?hr ?hp (fun _ hk => hk) trivial (Below.refl _ _) (Nat.le_refl _) (by simp) ?_; (case hd => rfl); (case hg => rfl); (case hr => first | (go_simp; done) | (go_simp; rfl)); (case hp => exact (Reps.one (show Kd.M (Kd.int .u8) _ _ _ 0 [.int .u8 0] from rfl) (Reps.one (show Kd.M (Kd.int .u8) _ _ _ 0 [.int .u8 0] from rfl) (Reps.one (show Kd.M (Kd.int .u8) _ _ _ 0 [.int .u8 0] from rfl) (Reps.one (show Kd.M (Kd.int .u8) _ _ _ 2 [.int .u8 2] from rfl) (Reps.one (show Kd.M (Kd.int .u8) _ _ _ 0 [.int .u8 0] from rfl) (Reps.one (show Kd.M (Kd.int .u8) _ _ _ 5 [.int .u8 5] from rfl) (Reps.none _ _)))))))); intro v411 w77 ho78 hb hg_ hnew_; clear hg_ hnew_; (first | rw [← Ny410.out] at ho78 | (simp only [Int.reduceToNat] at ho78; rw [← Ny410.out] at ho78)); have n0_ := Aside0.mk (Kd.R_lower ho78 (below_size (by repeat (first | (with_reducible first | exact HB.out | apply below_alloc | apply pw_below_drewN | apply below_drew1) | exact HB.out)))); have n1_ := Aside0.mk (below_step (by repeat (first | (with_reducible first | exact HB.out | apply below_alloc | apply pw_below_drewN | apply below_drew1) | exact HB.out)) hb); clear HB; have HO412 := n0_; have HB := n1_; clear n0_ n1_; clear hb ho78; obtain ⟨Ao79, co79, eo79⟩ := Kd.R_slice HO412.out; subst eo79) | ((with_reducible refine gate_callee (f := 51) rfl ?_); refine goesL_ (some 7) rfl rfl Try.func51 (by kernel_rfl) rfl #[.slice Ao79 y410.length co79, .bool false, .int .i64 2] rfl (by (try simp only [List.map_toArray, List.map_cons, List.map_nil]); first | done | rfl | (simp only [List.length_drop, List.length_take]; rfl)) ?_; (with_reducible refine (loca_Read.calls k _ _ y410 false 2 t413 t414 _ ?side1 ?side2 A1.out).mono ?_); (case side1 => repeat (first | exact (Kd.R_reads' HO412.out).2.2 | (with_reducible refine Kd.C_alloc ?_ _) | (with_reducible refine Kd.C_drewN ?_ _) | (with_reducible refine Kd.C_drew ?_))); (case side2 => exact (Kd.R_reads' HO412.out).2.1); rintro e w80 ⟨v415, rfl, ho0, hb⟩; refine ⟨_, rfl, ?_⟩; have n0_ := Aside0.mk (Kd.R_below (by (with_reducible repeat (first | apply Kd.R_alloc | apply Kd.R_drewN | apply Kd.R_drew)); exact HO412.out) hb); have n1_ := Aside0.mk (Kd.R_lower ho0 (below_size (by repeat (first | (with_reducible first | exact HB.out | apply below_alloc | apply pw_below_drewN | apply below_drew1) | exact HB.out)))); have n2_ := Aside0.mk (below_step (by repeat (first | (with_reducible first | exact HB.out | apply below_alloc | apply pw_below_drewN | apply below_drew1) | exact HB.out)) hb); clear HO412; clear HB; have HO412 := n0_; have HO416 := n1_; have HB := n2_; clear n0_ n1_ n2_; (try clear hb); (try clear hb2); (try clear hk); (try clear hi); (try clear ho0)) | ((with_reducible refine gate_dst (N := 11) rfl ?_); (try (refine gate_guard (by rfl) ?_; dsimp only)); refine Kd.R_lit (Kd.int .u8) _ 5 ?hg (N := 11) ?hd (xs := ([1, 244, 0, 10, 255, 254] : List Int)) (inner := [.int .u8 1, .int .u8 244, .int .u8 0, .int .u8 10, .int .u8 255, .int .u8 254]) (ok := fun _ => True) (okp := fun _ => True) ?hr ?hp (fun _ hk => hk) trivial (Below.refl _ _) (Nat.le_refl _) (by simp) ?_; (case hd => rfl); (case hg => rfl); (case hr => first | (go_simp; done) | (go_simp; rfl)); (case hp => exact (Reps.one (show Kd.M (Kd.int .u8) _ _ _ 1 [.int .u8 1] from rfl) (Reps.one (show Kd.M (Kd.int .u8) _ _ _ 244 [.int .u8 244] from rfl) (Reps.one (show Kd.M (Kd.int .u8) _ _ _ 0 [.int .u8 0] from rfl) (Reps.one (show Kd.M (Kd.int .u8) _ _ _ 10 [.int .u8 10] from rfl) (Reps.one (show Kd.M (Kd.int .u8) _ _ _ 255 [.int .u8 255] from rfl) (Reps.one (show Kd.M (Kd.int .u8) _ _ _ 254 [.int .u8 254] from rfl) (Reps.none _ _)))))))); intro v418 w81 ho82 hb hg_ hnew_; clear hg_ hnew_; (first | rw [← Ny417.out] at ho82 | (simp only [Int.reduceToNat] at ho82; rw [← Ny417.out] at ho82)); have n0_ := Aside0.mk (Kd.R_elder' (by (with_reducible repeat (first | apply Kd.R_alloc | apply Kd.R_drewN | apply Kd.R_drew)); exact HO412.out) (Kd.R_base ho82) hb); have n1_ := Aside0.mk (Kd.R_below (by (with_reducible repeat (first | apply Kd.R_alloc | apply Kd.R_drewN | apply Kd.R_drew)); exact HO416.out) hb); have n2_ := Aside0.mk (Kd.R_lower (Kd.R_new' ho82 (Kd.R_lt (by (with_reducible repeat (first | apply Kd.R_alloc | apply Kd.R_drewN | apply Kd.R_drew)); exact HO412.out))) (below_size (by repeat (first | (with_reducible first | exact HB.out | apply below_alloc | apply pw_below_drewN | apply below_drew1) | exact HB.out)))); have n3_ := Aside0.mk (below_step (by repeat (first | (with_reducible first | exact HB.out | apply below_alloc | apply pw_below_drewN | apply below_drew1) | exact HB.out)) hb); clear HO412; clear HO416; clear HB; have HO412 := n0_; have HO416 := n1_; have HO419 := n2_; have HB := n3_; clear n0_ n1_ n2_ n3_; clear hb ho82; obtain ⟨Ao83, co83, eo83⟩ := Kd.R_slice HO419.out; subst eo83) | ((with_reducible refine gate_callee (f := 58) rfl ?_); refine goesL_ (some 12) rfl rfl Try.func58 (by kernel_rfl) rfl #[.slice Ao83 y417.length co83, .int .i64 1, .int .i64 2] rfl (by (try simp only [List.map_toArray, List.map_cons, List.map_nil]); first | done | rfl | (simp only [List.length_drop, List.length_take]; rfl)) ?_; (with_reducible refine (loca_Metrics.calls k _ _ y417 1 2 t420 t421 _ ?side1 ?side2 A2.out).mono ?_); (case side1 => repeat (first | exact (Kd.R_reads' HO419.out).2.2 | (with_reducible refine Kd.C_alloc ?_ _) | (with_reducible refine Kd.C_drewN ?_ _) | (with_reducible refine Kd.C_drew ?_))); (case side2 => exact (Kd.R_reads' HO419.out).2.1); rintro e w84 ⟨v422, rfl, ho0, hb⟩; refine ⟨_, rfl, ?_⟩; have n0_ := Aside0.mk (Kd.R_below (by (with_reducible repeat (first | apply Kd.R_alloc | apply Kd.R_drewN | apply Kd.R_drew)); exact HO412.out) hb); have n1_ := Aside0.mk (Kd.R_below (by (with_reducible repeat (first | apply Kd.R_alloc | apply Kd.R_drewN | apply Kd.R_drew)); exact HO416.out) hb); have n2_ := Aside0.mk (Kd.R_below (by (with_reducible repeat (first | apply Kd.R_alloc | apply Kd.R_drewN | apply Kd.R_drew)); exact HO419.out) hb); have n3_ := Aside0.mk (Kd.R_lower ho0 (below_size (by repeat (first | (with_reducible first | exact HB.out | apply below_alloc | apply pw_below_drewN | apply below_drew1) | exact HB.out)))); have n4_ := Aside0.mk (below_step (by repeat (first | (with_reducible first | exact HB.out | apply below_alloc | apply pw_below_drewN | apply below_drew1) | exact HB.out)) hb); clear HO412; clear HO416; clear HO419; clear HB; have HO412 := n0_; have HO416 := n1_; have HO419 := n2_; have HO423 := n3_; have HB := n4_; clear n0_ n1_ n2_ n3_ n4_; (try clear hb); (try clear hb2); (try clear hk); (try clear hi); (try clear ho0)) | ((with_reducible refine gate_dst (N := 19) rfl ?_); (try (refine gate_guard (by rfl) ?_; dsimp only)); refine Kd.R_lit (Kd.int .i64) _ 3 ?hg (N := 19) ?hd (xs := ([0, 4, 10] : List Int)) (inner := [.int .i64 0, .int .i64 4, .int .i64 10]) (ok := fun _ => True) (okp := fun _ => True) ?hr ?hp (fun _ hk => hk) trivial (Below.refl _ _) (Nat.le_refl _) (by simp) ?_; (case hd => rfl); (case hg => rfl); (case hr => first | (go_simp; done) | (go_simp; rfl)); (case hp => exact (Reps.one (show Kd.M (Kd.int .i64) _ _ _ 0 [.int .i64 0] from rfl) (Reps.one (show Kd.M (Kd.int .i64) _ _ _ 4 [.int .i64 4] from rfl) (Reps.one (show Kd.M (Kd.int .i64) _ _ _ 10 [.int .i64 10] from rfl) (Reps.none _ _))))); intro v425 w85 ho86 hb hg_ hnew_; clear hg_ hnew_; (first | rw [← Ny424.out] at ho86 | (simp only [Int.reduceToNat] at ho86; rw [← Ny424.out] at ho86)); have n0_ := Aside0.mk (Kd.R_below (by (with_reducible repeat (first | apply Kd.R_alloc | apply Kd.R_drewN | apply Kd.R_drew)); exact HO412.out) hb); have n1_ := Aside0.mk (Kd.R_elder' (by (with_reducible repeat (first | apply Kd.R_alloc | apply Kd.R_drewN | apply Kd.R_drew)); exact HO416.out) (Kd.R_base ho86) hb); have n2_ := Aside0.mk (Kd.R_below (by (with_reducible repeat (first | apply Kd.R_alloc | apply Kd.R_drewN | apply Kd.R_drew)); exact HO419.out) hb); have n3_ := Aside0.mk (Kd.R_below (by (with_reducible repeat (first | apply Kd.R_alloc | apply Kd.R_drewN | apply Kd.R_drew)); exact HO423.out) hb); have n4_ := Aside0.mk (Kd.R_lower (Kd.R_new' ho86 (Kd.R_lt (by (with_reducible repeat (first | apply Kd.R_alloc | apply Kd.R_drewN | apply Kd.R_drew)); exact HO416.out))) (below_size (by repeat (first | (with_reducible first | exact HB.out | apply below_alloc | apply pw_below_drewN | apply below_drew1) | exact HB.out)))); have n5_ := Aside0.mk (below_step (by repeat (first | (with_reducible first | exact HB.out | apply below_alloc | apply pw_below_drewN | apply below_drew1) | exact HB.out)) hb); clear HO412; clear HO416; clear HO419; clear HO423; clear HB; have HO412 := n0_; have HO416 := n1_; have HO419 := n2_; have HO423 := n3_; have HO426 := n4_; have HB := n5_; clear n0_ n1_ n2_ n3_ n4_ n5_; clear hb ho86; obtain ⟨Ao87, co87, eo87⟩ := Kd.R_slice HO416.out; subst eo87; obtain ⟨Ao88, co88, eo88⟩ := Kd.R_slice HO426.out; subst eo88) | (go_at_call 53; (with_reducible refine (calamusref02_Ints.calls k _ _ t413 _ _ y424 false _ ?side1 ?side2 ?side3 ?side4 A4.out).mono ?_); (case side1 => repeat (first | exact (Kd.R_reads' HO416.out).2.2 | (with_reducible refine Kd.C_alloc ?_ _) | (with_reducible refine Kd.C_drewN ?_ _) | (with_reducible refine Kd.C_drew ?_))); (case side2 => exact (Kd.R_reads' HO416.out).2.1); (case side3 => repeat (first | exact (Kd.R_reads' HO426.out).2.2 | (with_reducible refine Kd.C_alloc ?_ _) | (with_reducible refine Kd.C_drewN ?_ _) | (with_reducible refine Kd.C_drew ?_))); (case side4 => exact (Kd.R_reads' HO426.out).2.1); rintro e w' ⟨rfl, ⟨nd, rfl⟩⟩))
      go_ret
      exact ⟨by first | rfl | (simp [errW_none, errW_some] <;> rfl) | (simp [*, errW_none, errW_some] <;> rfl), by repeat (first | (with_reducible first | exact HB.out | apply below_alloc | apply pw_below_drewN | apply below_drew1) | exact HB.out)⟩
  · rw [if_neg c3] at H
    have c3b0 : (t414 == 0) = false := beq_eq_false_iff_ne.mpr c3
    have c3b1 : (t414 != 0) = true := bne_iff_ne.mpr c3
    obtain rfl := Option.some.inj H
    go_enter Try.func50, Try.ntmps50
    go_wp2_with (first | ((with_reducible refine gate_dst (N := 6) rfl ?_); (try (refine gate_guard (by rfl) ?_; dsimp only)); refine Kd.R_lit (Kd.int .u8) _ 5 ?hg (N := 6) ?hd (xs := ([0, 0, 0, 2, 0, 5] : List Int)) (inner := [.int .u8 0, .int .u8 0, .int .u8 0, .int .u8 2, .int .u8 0, .int .u8 5]) (ok := fun _ => True) (okp := fun _ => True) ?hr ?hp (fun _ hk => hk) trivial (Below.refl _ _) (Nat.le_refl _) (by simp) ?_; (case hd => rfl); (case hg => rfl); (case hr => first | (go_simp; done) | (go_simp; rfl)); (case hp => exact (Reps.one (show Kd.M (Kd.int .u8) _ _ _ 0 [.int .u8 0] from rfl) (Reps.one (show Kd.M (Kd.int .u8) _ _ _ 0 [.int .u8 0] from rfl) (Reps.one (show Kd.M (Kd.int .u8) _ _ _ 0 [.int .u8 0] from rfl) (Reps.one (show Kd.M (Kd.int .u8) _ _ _ 2 [.int .u8 2] from rfl) (Reps.one (show Kd.M (Kd.int .u8) _ _ _ 0 [.int .u8 0] from rfl) (Reps.one (show Kd.M (Kd.int .u8) _ _ _ 5 [.int .u8 5] from rfl) (Reps.none _ _)))))))); intro v411 w89 ho90 hb hg_ hnew_; clear hg_ hnew_; (first | rw [← Ny410.out] at ho90 | (simp only [Int.reduceToNat] at ho90; rw [← Ny410.out] at ho90)); have n0_ := Aside0.mk (Kd.R_lower ho90 (below_size (by repeat (first | (with_reducible first | exact HB.out | apply below_alloc | apply pw_below_drewN | apply below_drew1) | exact HB.out)))); have n1_ := Aside0.mk (below_step (by repeat (first | (with_reducible first | exact HB.out | apply below_alloc | apply pw_below_drewN | apply below_drew1) | exact HB.out)) hb); clear HB; have HO412 := n0_; have HB := n1_; clear n0_ n1_; clear hb ho90; obtain ⟨Ao91, co91, eo91⟩ := Kd.R_slice HO412.out; subst eo91) | ((with_reducible refine gate_callee (f := 51) rfl ?_); refine goesL_ (some 7) rfl rfl Try.func51 (by kernel_rfl) rfl #[.slice Ao91 y410.length co91, .bool false, .int .i64 2] rfl (by (try simp only [List.map_toArray, List.map_cons, List.map_nil]); first | done | rfl | (simp only [List.length_drop, List.length_take]; rfl)) ?_; (with_reducible refine (loca_Read.calls k _ _ y410 false 2 t413 t414 _ ?side1 ?side2 A1.out).mono ?_); (case side1 => repeat (first | exact (Kd.R_reads' HO412.out).2.2 | (with_reducible refine Kd.C_alloc ?_ _) | (with_reducible refine Kd.C_drewN ?_ _) | (with_reducible refine Kd.C_drew ?_))); (case side2 => exact (Kd.R_reads' HO412.out).2.1); rintro e w92 ⟨v415, rfl, ho0, hb⟩; refine ⟨_, rfl, ?_⟩; have n0_ := Aside0.mk (Kd.R_below (by (with_reducible repeat (first | apply Kd.R_alloc | apply Kd.R_drewN | apply Kd.R_drew)); exact HO412.out) hb); have n1_ := Aside0.mk (Kd.R_lower ho0 (below_size (by repeat (first | (with_reducible first | exact HB.out | apply below_alloc | apply pw_below_drewN | apply below_drew1) | exact HB.out)))); have n2_ := Aside0.mk (below_step (by repeat (first | (with_reducible first | exact HB.out | apply below_alloc | apply pw_below_drewN | apply below_drew1) | exact HB.out)) hb); clear HO412; clear HB; have HO412 := n0_; have HO416 := n1_; have HB := n2_; clear n0_ n1_ n2_; (try clear hb); (try clear hb2); (try clear hk); (try clear hi); (try clear ho0)) | ((with_reducible refine gate_dst (N := 11) rfl ?_); (try (refine gate_guard (by rfl) ?_; dsimp only)); refine Kd.R_lit (Kd.int .u8) _ 5 ?hg (N := 11) ?hd (xs := ([1, 244, 0, 10, 255, 254] : List Int)) (inner := [.int .u8 1, .int .u8 244, .int .u8 0, .int .u8 10, .int .u8 255, .int .u8 254]) (ok := fun _ => True) (okp := fun _ => True) ?hr ?hp (fun _ hk => hk) trivial (Below.refl _ _) (Nat.le_refl _) (by simp) ?_; (case hd => rfl); (case hg => rfl); (case hr => first | (go_simp; done) | (go_simp; rfl)); (case hp => exact (Reps.one (show Kd.M (Kd.int .u8) _ _ _ 1 [.int .u8 1] from rfl) (Reps.one (show Kd.M (Kd.int .u8) _ _ _ 244 [.int .u8 244] from rfl) (Reps.one (show Kd.M (Kd.int .u8) _ _ _ 0 [.int .u8 0] from rfl) (Reps.one (show Kd.M (Kd.int .u8) _ _ _ 10 [.int .u8 10] from rfl) (Reps.one (show Kd.M (Kd.int .u8) _ _ _ 255 [.int .u8 255] from rfl) (Reps.one (show Kd.M (Kd.int .u8) _ _ _ 254 [.int .u8 254] from rfl) (Reps.none _ _)))))))); intro v418 w93 ho94 hb hg_ hnew_; clear hg_ hnew_; (first | rw [← Ny417.out] at ho94 | (simp only [Int.reduceToNat] at ho94; rw [← Ny417.out] at ho94)); have n0_ := Aside0.mk (Kd.R_elder' (by (with_reducible repeat (first | apply Kd.R_alloc | apply Kd.R_drewN | apply Kd.R_drew)); exact HO412.out) (Kd.R_base ho94) hb); have n1_ := Aside0.mk (Kd.R_below (by (with_reducible repeat (first | apply Kd.R_alloc | apply Kd.R_drewN | apply Kd.R_drew)); exact HO416.out) hb); have n2_ := Aside0.mk (Kd.R_lower (Kd.R_new' ho94 (Kd.R_lt (by (with_reducible repeat (first | apply Kd.R_alloc | apply Kd.R_drewN | apply Kd.R_drew)); exact HO412.out))) (below_size (by repeat (first | (with_reducible first | exact HB.out | apply below_alloc | apply pw_below_drewN | apply below_drew1) | exact HB.out)))); have n3_ := Aside0.mk (below_step (by repeat (first | (with_reducible first | exact HB.out | apply below_alloc | apply pw_below_drewN | apply below_drew1) | exact HB.out)) hb); clear HO412; clear HO416; clear HB; have HO412 := n0_; have HO416 := n1_; have HO419 := n2_; have HB := n3_; clear n0_ n1_ n2_ n3_; clear hb ho94; obtain ⟨Ao95, co95, eo95⟩ := Kd.R_slice HO419.out; subst eo95) | ((with_reducible refine gate_callee (f := 58) rfl ?_); refine goesL_ (some 12) rfl rfl Try.func58 (by kernel_rfl) rfl #[.slice Ao95 y417.length co95, .int .i64 1, .int .i64 2] rfl (by (try simp only [List.map_toArray, List.map_cons, List.map_nil]); first | done | rfl | (simp only [List.length_drop, List.length_take]; rfl)) ?_; (with_reducible refine (loca_Metrics.calls k _ _ y417 1 2 t420 t421 _ ?side1 ?side2 A2.out).mono ?_); (case side1 => repeat (first | exact (Kd.R_reads' HO419.out).2.2 | (with_reducible refine Kd.C_alloc ?_ _) | (with_reducible refine Kd.C_drewN ?_ _) | (with_reducible refine Kd.C_drew ?_))); (case side2 => exact (Kd.R_reads' HO419.out).2.1); rintro e w96 ⟨v422, rfl, ho0, hb⟩; refine ⟨_, rfl, ?_⟩; have n0_ := Aside0.mk (Kd.R_below (by (with_reducible repeat (first | apply Kd.R_alloc | apply Kd.R_drewN | apply Kd.R_drew)); exact HO412.out) hb); have n1_ := Aside0.mk (Kd.R_below (by (with_reducible repeat (first | apply Kd.R_alloc | apply Kd.R_drewN | apply Kd.R_drew)); exact HO416.out) hb); have n2_ := Aside0.mk (Kd.R_below (by (with_reducible repeat (first | apply Kd.R_alloc | apply Kd.R_drewN | apply Kd.R_drew)); exact HO419.out) hb); have n3_ := Aside0.mk (Kd.R_lower ho0 (below_size (by repeat (first | (with_reducible first | exact HB.out | apply below_alloc | apply pw_below_drewN | apply below_drew1) | exact HB.out)))); have n4_ := Aside0.mk (below_step (by repeat (first | (with_reducible first | exact HB.out | apply below_alloc | apply pw_below_drewN | apply below_drew1) | exact HB.out)) hb); clear HO412; clear HO416; clear HO419; clear HB; have HO412 := n0_; have HO416 := n1_; have HO419 := n2_; have HO423 := n3_; have HB := n4_; clear n0_ n1_ n2_ n3_ n4_; (try clear hb); (try clear hb2); (try clear hk); (try clear hi); (try clear ho0)))
    go_ret
    exact ⟨by first | rfl | (simp [errW_none, errW_some] <;> rfl) | (simp [*, errW_none, errW_some] <;> rfl), by repeat (first | (with_reducible first | exact HB.out | apply below_alloc | apply pw_below_drewN | apply below_drew1) | exact HB.out)⟩

end Go.Proofs.Ytcclmaicdmogjaa.P

-- Written by wip/pr.py over the kit's print
namespace Go.Proofs.Ytcclmaicdmogjaa.P
open Go.RowKit Go.Proofs.YtcclmaicdmogjaaW.PrintWords Go.Proofs.YtcclmaicdmogjaaW.PrintLast Go.Proofs.YtcclmaicdmogjaaW.PrintMore
attribute [local go_sem] max2_int min2_int max_two min_two max_three min_three max_four min_four   -- for this text's walks alone
set_option linter.unusedVariables false
set_option linter.unusedSimpArgs false

/-! ### calamusref02_There: function 78 -/
def calamusref02_There.f (l0 : List Int) (a1 : Int) (a2 : Int) : Option (Bool) := if a1 ≥ 0 then (if a2 ≥ 0 then (if a1 ≤ (l0.length : Int) then (some (decide (a2 ≤ (wrap64 ((l0.length : Int) - a1))))) else (some false)) else (some false)) else (some false)
set_option maxHeartbeats 8000000 in
set_option maxRecDepth 100000 in
theorem calamusref02_There.calls (A0 : Option Addr) (c0 : Nat) (l0 : List Int) (a1 : Int) (a2 : Int) (r : Bool) (w : World) (hr0 : Kd.C (Kd.int .u8) w A0 l0.length l0) (hc0 : l0.length ≤ c0) (h : calamusref02_There.f l0 a1 a2 = some r) :
    Calls Try.prog 78 #[.slice A0 l0.length c0, .int .i64 a1, .int .i64 a2] w fun e w' => e = .returned (.bool r) ∧ Drawn0 w w' := by
  have HR0 := Aside0.mk hr0
  have HC0 := Aside0.mk hc0
  clear hr0 hc0
  have H : (if a1 ≥ 0 then (if a2 ≥ 0 then (if a1 ≤ (l0.length : Int) then (some (decide (a2 ≤ (wrap64 ((l0.length : Int) - a1))))) else (some false)) else (some false)) else (some false)) = some r := h
  clear h
  by_cases c4 : a1 ≥ 0
  · rw [if_pos c4] at H
    have c4b0 : decide (0 ≤ a1) = true := decide_eq_true c4
    clear c4
    by_cases c5 : a2 ≥ 0
    · rw [if_pos c5] at H
      have c5b0 : decide (0 ≤ a2) = true := decide_eq_true c5
      clear c5
      by_cases c6 : a1 ≤ (l0.length : Int)
      · rw [if_pos c6] at H
        have c6b0 : decide (a1 ≤ (l0.length : Int)) = true := decide_eq_true c6
        clear c6
        obtain rfl := Option.some.inj H
        go_enter Try.func78, Try.ntmps78
        go_wp2
        go_ret
        exact ⟨by first | rfl | (simp; done) | (simp [*]; done), by repeat (first | exact Drawn0.refl _ | apply Drawn0.step)⟩
      · rw [if_neg c6] at H
        have c6b0 : decide (a1 ≤ (l0.length : Int)) = false := decide_eq_false c6
        clear c6
        obtain rfl := Option.some.inj H
        go_enter Try.func78, Try.ntmps78
        go_wp2
        go_ret
        exact ⟨by first | rfl | (simp; done) | (simp [*]; done), by repeat (first | exact Drawn0.refl _ | apply Drawn0.step)⟩
    · rw [if_neg c5] at H
      have c5b0 : decide (0 ≤ a2) = false := decide_eq_false c5
      clear c5
      obtain rfl := Option.some.inj H
      go_enter Try.func78, Try.ntmps78
      go_wp2
      go_ret
      exact ⟨by first | rfl | (simp; done) | (simp [*]; done), by repeat (first | exact Drawn0.refl _ | apply Drawn0.step)⟩
  · rw [if_neg c4] at H
    have c4b0 : decide (0 ≤ a1) = false := decide_eq_false c4
    clear c4
    obtain rfl := Option.some.inj H
    go_enter Try.func78, Try.ntmps78
    go_wp2
    go_ret
    exact ⟨by first | rfl | (simp; done) | (simp [*]; done), by repeat (first | exact Drawn0.refl _ | apply Drawn0.step)⟩

end Go.Proofs.Ytcclmaicdmogjaa.P

-- Written by wip/pr.py over the kit's print
namespace Go.Proofs.Ytcclmaicdmogjaa.P
open Go.RowKit Go.Proofs.YtcclmaicdmogjaaW.PrintWords Go.Proofs.YtcclmaicdmogjaaW.PrintLast Go.Proofs.YtcclmaicdmogjaaW.PrintMore
attribute [local go_sem] max2_int min2_int max_two min_two max_three min_three max_four min_four   -- for this text's walks alone
set_option linter.unusedVariables false
set_option linter.unusedSimpArgs false

/-! ### calamusref02_U: function 37 -/
mutual
def calamusref02_U.j0 : Nat → List Int → Int → Int → Bool → Option (Int × Int)
  | 0, _, _, _, _ => none
  | k + 1, x0, x1, x2, x15 => if x15 = true then (some (0, 2)) else ((calamusref02_There.f x0 x1 x2).bind fun t203 => (if t203 = true then (calamusref02_U.l0 k x0 x1 x2 0 x1) else (some (0, 3))))
def calamusref02_U.l0 : Nat → List Int → Int → Int → Int → Int → Option (Int × Int)
  | 0, _, _, _, _, _ => none
  | k + 1, x0, x1, x2, x8, x9 => if x9 < (wrap64 (x1 + x2)) then (if 0 ≤ x9 then (if x9 < (x0.length : Int) then (calamusref02_U.l0 k x0 x1 x2 (wrap64 ((wrap64 (256 * x8)) + (wrap64 (rd x0 x9)))) (wrap64 (x9 + 1))) else (none)) else (none)) else (some (x8, 0))
end
def calamusref02_U.f (k : Nat) (l0 : List Int) (a1 : Int) (a2 : Int) : Option (Int × Int) := if a2 < 1 then (calamusref02_U.j0 k l0 a1 a2 true) else (calamusref02_U.j0 k l0 a1 a2 (decide (a2 > 4)))
theorem calamusref02_U.mono_l : ∀ k, (∀ y0 y1 y2 y3, LeO (calamusref02_U.j0 k y0 y1 y2 y3) (calamusref02_U.j0 (k + 1) y0 y1 y2 y3)) ∧ (∀ y0 y1 y2 y3 y4, LeO (calamusref02_U.l0 k y0 y1 y2 y3 y4) (calamusref02_U.l0 (k + 1) y0 y1 y2 y3 y4))
  | 0 => ⟨fun _ _ _ _ r h => by simp [calamusref02_U.j0] at h, fun _ _ _ _ _ r h => by simp [calamusref02_U.l0] at h⟩
  | k + 1 => by
    obtain ⟨ih0, ih1⟩ := calamusref02_U.mono_l k
    refine ⟨?_, ?_⟩
    · intro y0 y1 y2 y3
      unfold calamusref02_U.j0
      repeat' first
      | (with_reducible exact ih0 _ _ _ _)
      | (with_reducible exact ih1 _ _ _ _ _)
      | (with_reducible exact LeO.refl _)
      | (with_reducible exact LeO.none _)
      | (with_reducible refine LeO.ite ?_ ?_)
      | (with_reducible refine LeO.bind ?_ (fun _ => ?_))
      | exact ih0 _ _ _ _
      | exact ih1 _ _ _ _ _
      | exact LeO.none _
      | refine LeO.ite ?_ ?_
      | refine LeO.bind ?_ (fun _ => ?_)
    · intro y0 y1 y2 y3 y4
      unfold calamusref02_U.l0
      repeat' first
      | (with_reducible exact ih0 _ _ _ _)
      | (with_reducible exact ih1 _ _ _ _ _)
      | (with_reducible exact LeO.refl _)
      | (with_reducible exact LeO.none _)
      | (with_reducible refine LeO.ite ?_ ?_)
      | (with_reducible refine LeO.bind ?_ (fun _ => ?_))
      | exact ih0 _ _ _ _
      | exact ih1 _ _ _ _ _
      | exact LeO.none _
      | refine LeO.ite ?_ ?_
      | refine LeO.bind ?_ (fun _ => ?_)
theorem calamusref02_U.mono : ∀ a0 a1 a2 k, LeO (calamusref02_U.f k a0 a1 a2) (calamusref02_U.f (k + 1) a0 a1 a2) := by
  intro a0 a1 a2 k
  obtain ⟨ih0, ih1⟩ := calamusref02_U.mono_l k
  unfold calamusref02_U.f
  repeat' first
      | (with_reducible exact ih0 _ _ _ _)
      | (with_reducible exact ih1 _ _ _ _ _)
      | (with_reducible exact LeO.refl _)
      | (with_reducible exact LeO.none _)
      | (with_reducible refine LeO.ite ?_ ?_)
      | (with_reducible refine LeO.bind ?_ (fun _ => ?_))
      | exact ih0 _ _ _ _
      | exact ih1 _ _ _ _ _
      | exact LeO.none _
      | refine LeO.ite ?_ ?_
      | refine LeO.bind ?_ (fun _ => ?_)
set_option maxHeartbeats 8000000 in
set_option maxRecDepth 100000 in
theorem calamusref02_U.calls (k : Nat) (A0 : Option Addr) (c0 : Nat) (l0 : List Int) (a1 : Int) (a2 : Int) (r1 : Int) (r2 : Int) (w : World) (hr0 : Kd.C (Kd.int .u8) w A0 l0.length l0) (hc0 : l0.length ≤ c0) (h : calamusref02_U.f k l0 a1 a2 = some (r1, r2)) :
    Calls Try.prog 37 #[.slice A0 l0.length c0, .int .i64 a1, .int .i64 a2] w fun e w' => e = .returned (.tuple #[.int .i64 r1, .int .i64 r2]) ∧ Drawn0 w w' := by
  have HR0 := Aside0.mk hr0
  have HC0 := Aside0.mk hc0
  clear hr0 hc0
  have H : (if a2 < 1 then (calamusref02_U.j0 k l0 a1 a2 true) else (calamusref02_U.j0 k l0 a1 a2 (decide (a2 > 4)))) = some (r1, r2) := h
  clear h
  have HC4 := Aside0.mk H
  clear H
  go_enter Try.func37, Try.ntmps37
  go_upto_region 1 with (fail)
  go_cut [15] (fun v15 wc => ∃ (kq : Nat) (x15_3 : Bool), v15 = .bool x15_3 ∧ Aside0 (calamusref02_U.j0 kq l0 a1 a2 x15_3 = some (r1, r2)) ∧ Aside0 (kq ≤ k) ∧ Drawn0 w wc)
  case first =>
    have H := HC4.out
    clear HC4
    by_cases c5 : a2 < 1
    · rw [if_pos c5] at H
      have c5b0 : decide (a2 < 1) = true := decide_eq_true c5
      clear c5
      (first | rw [c5b0] | (simp only [i64_w, i32_w]; rw [c5b0]) | skip)
      have H' := Aside0.mk H
      clear H
      go_wp2
      go_meet
      case rel => exact ⟨_, (true), (by first | rfl | (simp; done) | (simp [*]; done)), H', ⟨by first | omega | exact Nat.le_refl _⟩, by repeat (first | exact Drawn0.refl _ | apply Drawn0.step)⟩
    · rw [if_neg c5] at H
      have c5b0 : decide (a2 < 1) = false := decide_eq_false c5
      clear c5
      (first | rw [c5b0] | (simp only [i64_w, i32_w]; rw [c5b0]) | skip)
      have H' := Aside0.mk H
      clear H
      go_wp2
      go_meet
      case rel => exact ⟨_, (decide (a2 > 4)), (by first | rfl | (simp; done) | (simp [*]; done)), H', ⟨by first | omega | exact Nat.le_refl _⟩, by repeat (first | exact Drawn0.refl _ | apply Drawn0.step)⟩
  case rest =>
    clear HC4
    try clear p2
    try clear c3
    try clear c5
    try clear c5b0
    obtain ⟨kq, x15_3, rfl, HA, HJ3, ⟨mc3, rfl⟩⟩ := hcut
    cases kq with
    | zero => exact absurd HA.out (by simp [calamusref02_U.j0])
    | succ kj3 =>
      have H := HA.out
      clear HA
      simp only [calamusref02_U.j0] at H
      by_cases c6 : x15_3 = true
      · subst c6
        have H1 : (some (0, 2)) = some (r1, r2) := by rw [if_pos rfl] at H; exact H
        clear H
        have H := H1
        clear H1
        simp only [Option.some.injEq, Prod.mk.injEq] at H
        obtain ⟨rfl, rfl⟩ := H
        go_wp2
        go_ret2
        exact ⟨by first | rfl | (simp; done) | (simp [*]; done), by repeat (first | exact Drawn0.refl _ | apply Drawn0.step)⟩
      · replace c6 := Bool.eq_false_iff.mpr c6
        subst c6
        have H1 : ((calamusref02_There.f l0 a1 a2).bind fun t203 => (if t203 = true then (calamusref02_U.l0 kj3 l0 a1 a2 0 a1) else (some (0, 3)))) = some (r1, r2) := by rw [if_neg (show ¬ (false = true) by decide)] at H; exact H
        clear H
        have H := H1
        clear H1
        replace H := Option.bind_eq_some_iff.mp H
        obtain ⟨t203, A70, H⟩ := H
        replace H : (if t203 = true then (calamusref02_U.l0 kj3 l0 a1 a2 0 a1) else (some (0, 3))) = some (r1, r2) := H
        have A7 := Aside0.mk A70
        clear A70
        by_cases c8 : t203 = true
        · subst c8
          have H1 : (calamusref02_U.l0 kj3 l0 a1 a2 0 a1) = some (r1, r2) := by rw [if_pos rfl] at H; exact H
          clear H
          have H := H1
          clear H1
          have H' := Aside0.mk H
          clear H
          go_wp2_with (first | ((with_reducible refine gate_callee (f := 78) rfl ?_); refine goesL_ (some 19) rfl rfl Try.func78 (by kernel_rfl) rfl #[.slice A0 l0.length c0, .int .i64 a1, .int .i64 a2] rfl (by (try simp only [List.map_toArray, List.map_cons, List.map_nil]); first | done | rfl | (simp only [List.length_drop, List.length_take]; rfl)) ?_; (with_reducible refine (calamusref02_There.calls _ _ l0 a1 a2 true _ ?side1 ?side2 A7.out).mono ?_); (case side1 => repeat (first | exact HR0.out | (with_reducible refine Kd.C_alloc ?_ _) | (with_reducible refine Kd.C_drewN ?_ _) | (with_reducible refine Kd.C_drew ?_))); (case side2 => exact HC0.out); rintro e w' ⟨rfl, ⟨nd, rfl⟩⟩; refine ⟨_, rfl, ?_⟩))
          go_loopg [8, 9] kj3 (fun kq v8 v9 w' => ∃ (x8_2 : Int) (x9_2 : Int), v8 = .int .i64 x8_2 ∧ v9 = .int .i64 x9_2 ∧ Aside0 (calamusref02_U.l0 kq l0 a1 a2 x8_2 x9_2 = some (r1, r2)) ∧ Aside0 (kq ≤ kj3) ∧ Drawn0 w w')
          case atStart => exact ⟨(0), (a1), (by first | rfl | (simp; done) | (simp [*]; done)), (by first | rfl | (simp; done) | (simp [*]; done)), H', ⟨Nat.le_refl _⟩, by repeat (first | exact Drawn0.refl _ | apply Drawn0.step)⟩
          case round =>
            clear H'
            try clear p2
            try clear c3
            try clear c5
            try clear c5b0
            try clear c6
            try clear c7
            try clear c8
            try clear p2
            obtain ⟨x8_2, x9_2, rfl, rfl, HA, HK2, ⟨m2, rfl⟩⟩ := hrel
            cases gk with
            | zero => exact absurd HA.out (by simp [calamusref02_U.l0])
            | succ k2 =>
              have H := HA.out
              clear HA
              simp only [calamusref02_U.l0] at H
              by_cases c9 : x9_2 < (wrap64 (a1 + a2))
              · rw [if_pos c9] at H
                have c9b0 : decide (x9_2 < (wrap64 (a1 + a2))) = true := decide_eq_true c9
                clear c9
                by_cases c10 : 0 ≤ x9_2
                · rw [if_pos c10] at H
                  have c10b0 : decide (0 ≤ x9_2) = true := decide_eq_true c10
                  clear c10
                  by_cases c11 : x9_2 < (l0.length : Int)
                  · rw [if_pos c11] at H
                    have c11b0 : decide (x9_2 < (l0.length : Int)) = true := decide_eq_true c11
                    clear c11
                    have H' := Aside0.mk H
                    clear H
                    have p204 : 0 ≤ (x9_2 : Int) := of_decide_eq_true (by first | (with_reducible assumption) | assumption)
                    have q204 : x9_2 < (l0.length : Int) := of_decide_eq_true (by first | (with_reducible assumption) | assumption)
                    obtain ⟨ad204, e204, hx204_0⟩ := Kd.at_int HR0.out x9_2 p204 q204
                    cases e204
                    replace p204 := eq_true p204
                    replace q204 := eq_true q204
                    go_wp2
                    go_roundg k2
                    case measure => have := HJ3.out; have := HK2.out; omega
                    case rel => exact ⟨(wrap64 ((wrap64 (256 * x8_2)) + (wrap64 (rd l0 x9_2)))), (wrap64 (x9_2 + 1)), (by first | rfl | (simp; done) | (simp [*]; done)), (by first | rfl | (simp; done) | (simp [*]; done)), H', ⟨by have := HJ3.out; have := HK2.out; omega⟩, by repeat (first | exact Drawn0.refl _ | apply Drawn0.step)⟩
                  · rw [if_neg c11] at H
                    exact absurd H (by simp)
                · rw [if_neg c10] at H
                  exact absurd H (by simp)
              · rw [if_neg c9] at H
                have c9b0 : decide (x9_2 < (wrap64 (a1 + a2))) = false := decide_eq_false c9
                clear c9
                simp only [Option.some.injEq, Prod.mk.injEq] at H
                obtain ⟨rfl, rfl⟩ := H
                go_wp2
                go_ret2
                exact ⟨by first | rfl | (simp; done) | (simp [*]; done), by repeat (first | exact Drawn0.refl _ | apply Drawn0.step)⟩
        · replace c8 := Bool.eq_false_iff.mpr c8
          subst c8
          have H1 : (some (0, 3)) = some (r1, r2) := by rw [if_neg (show ¬ (false = true) by decide)] at H; exact H
          clear H
          have H := H1
          clear H1
          simp only [Option.some.injEq, Prod.mk.injEq] at H
          obtain ⟨rfl, rfl⟩ := H
          go_wp2_with (first | ((with_reducible refine gate_callee (f := 78) rfl ?_); refine goesL_ (some 19) rfl rfl Try.func78 (by kernel_rfl) rfl #[.slice A0 l0.length c0, .int .i64 a1, .int .i64 a2] rfl (by (try simp only [List.map_toArray, List.map_cons, List.map_nil]); first | done | rfl | (simp only [List.length_drop, List.length_take]; rfl)) ?_; (with_reducible refine (calamusref02_There.calls _ _ l0 a1 a2 false _ ?side1 ?side2 A7.out).mono ?_); (case side1 => repeat (first | exact HR0.out | (with_reducible refine Kd.C_alloc ?_ _) | (with_reducible refine Kd.C_drewN ?_ _) | (with_reducible refine Kd.C_drew ?_))); (case side2 => exact HC0.out); rintro e w' ⟨rfl, ⟨nd, rfl⟩⟩; refine ⟨_, rfl, ?_⟩))
          go_ret2
          exact ⟨by first | rfl | (simp; done) | (simp [*]; done), by repeat (first | exact Drawn0.refl _ | apply Drawn0.step)⟩

end Go.Proofs.Ytcclmaicdmogjaa.P

-- Written by wip/pr.py over the kit's print
namespace Go.Proofs.Ytcclmaicdmogjaa.P
open Go.RowKit Go.Proofs.YtcclmaicdmogjaaW.PrintWords Go.Proofs.YtcclmaicdmogjaaW.PrintLast Go.Proofs.YtcclmaicdmogjaaW.PrintMore
attribute [local go_sem] max2_int min2_int max_two min_two max_three min_three max_four min_four   -- for this text's walks alone
set_option linter.unusedVariables false
set_option linter.unusedSimpArgs false

/-! ### calamusref06_Read: function 52 -/
mutual
def calamusref06_Read.j0 : Nat → List Int → Bool → Int → Bool → Option (List Int × Int)
  | 0, _, _, _, _ => none
  | k + 1, x0, x1, x2, x19 => if x19 = true then (some (([] : List Int), 2)) else (if x1 = true then (calamusref06_Read.j1 k x0 x2 4 1) else (calamusref06_Read.j1 k x0 x2 2 2))
def calamusref06_Read.j1 : Nat → List Int → Int → Int → Int → Option (List Int × Int)
  | 0, _, _, _, _ => none
  | k + 1, x0, x2, x8, x9 => if (x0.length : Int) < (wrap64 (x8 * (wrap64 (x2 + 1)))) then (some (([] : List Int), 3)) else (calamusref06_Read.l0 k x0 x2 x8 x9 ([] : List Int) 0)
def calamusref06_Read.l0 : Nat → List Int → Int → Int → Int → List Int → Int → Option (List Int × Int)
  | 0, _, _, _, _, _, _ => none
  | k + 1, x0, x2, x8, x9, x10, x11 => if x11 ≤ x2 then ((calamusref02_U.f k x0 (wrap64 (x8 * x11)) x8).bind fun bt433 => (if x11 > 0 then (if 0 ≤ (wrap64 (x11 - 1)) then (if (wrap64 (x11 - 1)) < (x10.length : Int) then (if (wrap64 (x9 * bt433.1)) < (rd x10 (wrap64 (x11 - 1))) then (some (([] : List Int), 12)) else (if x10.length < 17592186044416 then (calamusref06_Read.l0 k x0 x2 x8 x9 (x10 ++ [wrap64 (x9 * bt433.1)]) (wrap64 (x11 + 1))) else (none))) else (none)) else (none)) else (if x10.length < 17592186044416 then (calamusref06_Read.l0 k x0 x2 x8 x9 (x10 ++ [wrap64 (x9 * bt433.1)]) (wrap64 (x11 + 1))) else (none)))) else (some (x10, 0))
end
def calamusref06_Read.f (k : Nat) (l0 : List Int) (a1 : Bool) (a2 : Int) : Option (List Int × Int) := if a2 < 0 then (calamusref06_Read.j0 k l0 a1 a2 true) else (calamusref06_Read.j0 k l0 a1 a2 (decide (a2 > 1024)))
theorem calamusref06_Read.mono_l : ∀ k, (∀ y0 y1 y2 y3, LeO (calamusref06_Read.j0 k y0 y1 y2 y3) (calamusref06_Read.j0 (k + 1) y0 y1 y2 y3)) ∧ (∀ y0 y1 y2 y3, LeO (calamusref06_Read.j1 k y0 y1 y2 y3) (calamusref06_Read.j1 (k + 1) y0 y1 y2 y3)) ∧ (∀ y0 y1 y2 y3 y4 y5, LeO (calamusref06_Read.l0 k y0 y1 y2 y3 y4 y5) (calamusref06_Read.l0 (k + 1) y0 y1 y2 y3 y4 y5))
  | 0 => ⟨fun _ _ _ _ r h => by simp [calamusref06_Read.j0] at h, fun _ _ _ _ r h => by simp [calamusref06_Read.j1] at h, fun _ _ _ _ _ _ r h => by simp [calamusref06_Read.l0] at h⟩
  | k + 1 => by
    obtain ⟨ih0, ih1, ih2⟩ := calamusref06_Read.mono_l k
    refine ⟨?_, ?_, ?_⟩
    · intro y0 y1 y2 y3
      unfold calamusref06_Read.j0
      repeat' first
      | (with_reducible exact ih0 _ _ _ _)
      | (with_reducible exact ih1 _ _ _ _)
      | (with_reducible exact ih2 _ _ _ _ _ _)
      | (with_reducible exact calamusref02_U.mono _ _ _ _)
      | (with_reducible exact LeO.refl _)
      | (with_reducible exact LeO.none _)
      | (with_reducible refine LeO.ite ?_ ?_)
      | (with_reducible refine LeO.bind ?_ (fun _ => ?_))
      | exact ih0 _ _ _ _
      | exact ih1 _ _ _ _
      | exact ih2 _ _ _ _ _ _
      | exact calamusref02_U.mono _ _ _ _
      | exact LeO.none _
      | refine LeO.ite ?_ ?_
      | refine LeO.bind ?_ (fun _ => ?_)
    · intro y0 y1 y2 y3
      unfold calamusref06_Read.j1
      repeat' first
      | (with_reducible exact ih0 _ _ _ _)
      | (with_reducible exact ih1 _ _ _ _)
      | (with_reducible exact ih2 _ _ _ _ _ _)
      | (with_reducible exact calamusref02_U.mono _ _ _ _)
      | (with_reducible exact LeO.refl _)
      | (with_reducible exact LeO.none _)
      | (with_reducible refine LeO.ite ?_ ?_)
      | (with_reducible refine LeO.bind ?_ (fun _ => ?_))
      | exact ih0 _ _ _ _
      | exact ih1 _ _ _ _
      | exact ih2 _ _ _ _ _ _
      | exact calamusref02_U.mono _ _ _ _
      | exact LeO.none _
      | refine LeO.ite ?_ ?_
      | refine LeO.bind ?_ (fun _ => ?_)
    · intro y0 y1 y2 y3 y4 y5
      unfold calamusref06_Read.l0
      repeat' first
      | (with_reducible exact ih0 _ _ _ _)
      | (with_reducible exact ih1 _ _ _ _)
      | (with_reducible exact ih2 _ _ _ _ _ _)
      | (with_reducible exact calamusref02_U.mono _ _ _ _)
      | (with_reducible exact LeO.refl _)
      | (with_reducible exact LeO.none _)
      | (with_reducible refine LeO.ite ?_ ?_)
      | (with_reducible refine LeO.bind ?_ (fun _ => ?_))
      | exact ih0 _ _ _ _
      | exact ih1 _ _ _ _
      | exact ih2 _ _ _ _ _ _
      | exact calamusref02_U.mono _ _ _ _
      | exact LeO.none _
      | refine LeO.ite ?_ ?_
      | refine LeO.bind ?_ (fun _ => ?_)
theorem calamusref06_Read.mono : ∀ a0 a1 a2 k, LeO (calamusref06_Read.f k a0 a1 a2) (calamusref06_Read.f (k + 1) a0 a1 a2) := by
  intro a0 a1 a2 k
  obtain ⟨ih0, ih1, ih2⟩ := calamusref06_Read.mono_l k
  unfold calamusref06_Read.f
  repeat' first
      | (with_reducible exact ih0 _ _ _ _)
      | (with_reducible exact ih1 _ _ _ _)
      | (with_reducible exact ih2 _ _ _ _ _ _)
      | (with_reducible exact calamusref02_U.mono _ _ _ _)
      | (with_reducible exact LeO.refl _)
      | (with_reducible exact LeO.none _)
      | (with_reducible refine LeO.ite ?_ ?_)
      | (with_reducible refine LeO.bind ?_ (fun _ => ?_))
      | exact ih0 _ _ _ _
      | exact ih1 _ _ _ _
      | exact ih2 _ _ _ _ _ _
      | exact calamusref02_U.mono _ _ _ _
      | exact LeO.none _
      | refine LeO.ite ?_ ?_
      | refine LeO.bind ?_ (fun _ => ?_)
set_option maxHeartbeats 8000000 in
set_option maxRecDepth 100000 in
theorem calamusref06_Read.calls (k : Nat) (A0 : Option Addr) (c0 : Nat) (l0 : List Int) (a1 : Bool) (a2 : Int) (r1 : List Int) (r2 : Int) (w : World) (hr0 : Kd.C (Kd.int .u8) w A0 l0.length l0) (hc0 : l0.length ≤ c0) (h : calamusref06_Read.f k l0 a1 a2 = some (r1, r2)) :
    Calls Try.prog 52 #[.slice A0 l0.length c0, .bool a1, .int .i64 a2] w fun e w' => ∃ v0_ : Value, e = .returned (.tuple #[v0_, .int .i64 r2]) ∧ Kd.R (Kd.int .i64) 3 w' w.heap.size (fun _ => True) v0_ r1 ∧ Below w.heap.size w w' := by
  have HR0 := Aside0.mk hr0
  have HC0 := Aside0.mk hc0
  clear hr0 hc0
  have HB := Aside0.mk (Below.refl w.heap.size w)
  have H : (if a2 < 0 then (calamusref06_Read.j0 k l0 a1 a2 true) else (calamusref06_Read.j0 k l0 a1 a2 (decide (a2 > 1024)))) = some (r1, r2) := h
  clear h
  have HC4 := Aside0.mk H
  clear H
  go_enter Try.func52, Try.ntmps52
  go_upto_region 1 with (fail)
  go_cut [19] (fun v19 wc => ∃ (kq : Nat) (x19_3 : Bool), v19 = .bool x19_3 ∧ Aside0 (calamusref06_Read.j0 kq l0 a1 a2 x19_3 = some (r1, r2)) ∧ Aside0 (kq ≤ k) ∧ Aside0 (Below w.heap.size w wc))
  case first =>
    have H := HC4.out
    clear HC4
    by_cases c5 : a2 < 0
    · rw [if_pos c5] at H
      have c5b0 : decide (a2 < 0) = true := decide_eq_true c5
      clear c5
      (first | rw [c5b0] | (simp only [i64_w, i32_w]; rw [c5b0]) | skip)
      have H' := Aside0.mk H
      clear H
      go_wp2
      go_meet
      case rel => exact ⟨_, (true), (by first | rfl | (simp; done) | (simp [*]; done)), H', ⟨by first | omega | exact Nat.le_refl _⟩, ⟨by repeat (first | (with_reducible first | exact HB.out | apply below_alloc | apply pw_below_drewN | apply below_drew1) | exact HB.out)⟩⟩
    · rw [if_neg c5] at H
      have c5b0 : decide (a2 < 0) = false := decide_eq_false c5
      clear c5
      (first | rw [c5b0] | (simp only [i64_w, i32_w]; rw [c5b0]) | skip)
      have H' := Aside0.mk H
      clear H
      go_wp2
      go_meet
      case rel => exact ⟨_, (decide (a2 > 1024)), (by first | rfl | (simp; done) | (simp [*]; done)), H', ⟨by first | omega | exact Nat.le_refl _⟩, ⟨by repeat (first | (with_reducible first | exact HB.out | apply below_alloc | apply pw_below_drewN | apply below_drew1) | exact HB.out)⟩⟩
  case rest =>
    clear HC4
    try clear p2
    try clear c5
    try clear c5b0
    obtain ⟨kq, x19_3, rfl, HA, HJ3, HB⟩ := hcut
    cases kq with
    | zero => exact absurd HA.out (by simp [calamusref06_Read.j0])
    | succ kj3 =>
      have H := HA.out
      clear HA
      simp only [calamusref06_Read.j0] at H
      by_cases c6 : x19_3 = true
      · subst c6
        have H1 : (some (([] : List Int), 2)) = some (r1, r2) := by rw [if_pos rfl] at H; exact H
        clear H
        have H := H1
        clear H1
        simp only [Option.some.injEq, Prod.mk.injEq] at H
        obtain ⟨rfl, rfl⟩ := H
        go_wp2
        go_ret2
        exact ⟨_, by first | rfl | (simp [errW_none, errW_some] <;> rfl) | (simp [*, errW_none, errW_some] <;> rfl), by first | exact Kd.R_nil _ _ _ _ _ | exact Kd.N_nil _ _ _ _ _ | exact Kd.V_nil _ _ _ _ _ | exact Kd.Q_nil _ _ _ _ _ | exact Kd.S_nil _ _ _ _ _, by repeat (first | (with_reducible first | exact HB.out | apply below_alloc | apply pw_below_drewN | apply below_drew1) | exact HB.out)⟩
      · replace c6 := Bool.eq_false_iff.mpr c6
        subst c6
        have H1 : (if a1 = true then (calamusref06_Read.j1 kj3 l0 a2 4 1) else (calamusref06_Read.j1 kj3 l0 a2 2 2)) = some (r1, r2) := by rw [if_neg (show ¬ (false = true) by decide)] at H; exact H
        clear H
        have H := H1
        clear H1
        have HC7 := Aside0.mk H
        clear H
        go_upto_if 20 with (fail)
        go_cut [8, 9] (fun v8 v9 wc => ∃ (kq : Nat) (x8_6 : Int) (x9_6 : Int), v8 = .int .i64 x8_6 ∧ v9 = .int .i64 x9_6 ∧ Aside0 (calamusref06_Read.j1 kq l0 a2 x8_6 x9_6 = some (r1, r2)) ∧ Aside0 (kq ≤ kj3) ∧ Aside0 (Below w.heap.size w wc))
        case first =>
          have H := HC7.out
          clear HC7
          by_cases c8 : a1 = true
          · subst c8
            have H1 : (calamusref06_Read.j1 kj3 l0 a2 4 1) = some (r1, r2) := by rw [if_pos rfl] at H; exact H
            clear H
            have H := H1
            clear H1
            have H' := Aside0.mk H
            clear H
            go_wp2
            go_meet
            case rel => exact ⟨_, (4), (1), (by first | rfl | (simp; done) | (simp [*]; done)), (by first | rfl | (simp; done) | (simp [*]; done)), H', ⟨by have := HJ3.out; first | omega | exact Nat.le_refl _⟩, ⟨by repeat (first | (with_reducible first | exact HB.out | apply below_alloc | apply pw_below_drewN | apply below_drew1) | exact HB.out)⟩⟩
          · replace c8 := Bool.eq_false_iff.mpr c8
            subst c8
            have H1 : (calamusref06_Read.j1 kj3 l0 a2 2 2) = some (r1, r2) := by rw [if_neg (show ¬ (false = true) by decide)] at H; exact H
            clear H
            have H := H1
            clear H1
            have H' := Aside0.mk H
            clear H
            go_wp2
            go_meet
            case rel => exact ⟨_, (2), (2), (by first | rfl | (simp; done) | (simp [*]; done)), (by first | rfl | (simp; done) | (simp [*]; done)), H', ⟨by have := HJ3.out; first | omega | exact Nat.le_refl _⟩, ⟨by repeat (first | (with_reducible first | exact HB.out | apply below_alloc | apply pw_below_drewN | apply below_drew1) | exact HB.out)⟩⟩
        case rest =>
          clear HC7
          try clear p2
          try clear c5
          try clear c5b0
          try clear c6
          try clear c8
          try clear p2
          obtain ⟨kq, x8_6, x9_6, rfl, rfl, HA, HJ6, HB⟩ := hcut
          cases kq with
          | zero => exact absurd HA.out (by simp [calamusref06_Read.j1])
          | succ kj6 =>
            have H := HA.out
            clear HA
            simp only [calamusref06_Read.j1] at H
            by_cases c9 : (l0.length : Int) < (wrap64 (x8_6 * (wrap64 (a2 + 1))))
            · rw [if_pos c9] at H
              have c9b0 : decide ((l0.length : Int) < (wrap64 (x8_6 * (wrap64 (a2 + 1))))) = true := decide_eq_true c9
              clear c9
              simp only [Option.some.injEq, Prod.mk.injEq] at H
              obtain ⟨rfl, rfl⟩ := H
              go_wp2
              go_ret2
              exact ⟨_, by first | rfl | (simp [errW_none, errW_some] <;> rfl) | (simp [*, errW_none, errW_some] <;> rfl), by first | exact Kd.R_nil _ _ _ _ _ | exact Kd.N_nil _ _ _ _ _ | exact Kd.V_nil _ _ _ _ _ | exact Kd.Q_nil _ _ _ _ _ | exact Kd.S_nil _ _ _ _ _, by repeat (first | (with_reducible first | exact HB.out | apply below_alloc | apply pw_below_drewN | apply below_drew1) | exact HB.out)⟩
            · rw [if_neg c9] at H
              have c9b0 : decide ((l0.length : Int) < (wrap64 (x8_6 * (wrap64 (a2 + 1))))) = false := decide_eq_false c9
              clear c9
              have H' := Aside0.mk H
              clear H
              go_wp2
              go_loopg [10, 11] kj6 (fun kq v10 v11 w' => ∃ (x10_3 : List Int) (x11_3 : Int), v11 = .int .i64 x11_3 ∧ Aside0 (calamusref06_Read.l0 kq l0 a2 x8_6 x9_6 x10_3 x11_3 = some (r1, r2)) ∧ Aside0 (kq ≤ kj6) ∧ Aside0 (Kd.R (Kd.int .i64) 3 w' w.heap.size (fun _ => True) v10 x10_3) ∧ Aside0 (Below w.heap.size w w'))
              case atStart => exact ⟨(([] : List Int)), (0), (by first | rfl | (simp; done) | (simp [*]; done)), H', ⟨Nat.le_refl _⟩, ⟨by first | exact Kd.R_nil _ _ _ _ _ | exact Kd.N_nil _ _ _ _ _ | exact Kd.V_nil _ _ _ _ _ | exact Kd.Q_nil _ _ _ _ _ | exact Kd.S_nil _ _ _ _ _⟩, ⟨by repeat (first | (with_reducible first | exact HB.out | apply below_alloc | apply pw_below_drewN | apply below_drew1) | exact HB.out)⟩⟩
              case round =>
                clear H'
                try clear p2
                try clear c5
                try clear c5b0
                try clear c6
                try clear p6
                try clear c8
                try clear c9
                try clear c9b0
                try clear p2
                obtain ⟨x10_3, x11_3, rfl, HA, HK3, HO_10, HB⟩ := hrel
                cases gk with
                | zero => exact absurd HA.out (by simp [calamusref06_Read.l0])
                | succ k3 =>
                  have H := HA.out
                  clear HA
                  simp only [calamusref06_Read.l0] at H
                  by_cases c10 : x11_3 ≤ a2
                  · rw [if_pos c10] at H
                    have c10b0 : decide (x11_3 ≤ a2) = true := decide_eq_true c10
                    clear c10
                    replace H := Option.bind_eq_some_iff.mp H
                    obtain ⟨⟨t433, t434⟩, A110, H⟩ := H
                    replace H : (if x11_3 > 0 then (if 0 ≤ (wrap64 (x11_3 - 1)) then (if (wrap64 (x11_3 - 1)) < (x10_3.length : Int) then (if (wrap64 (x9_6 * t433)) < (rd x10_3 (wrap64 (x11_3 - 1))) then (some (([] : List Int), 12)) else (if x10_3.length < 17592186044416 then (calamusref06_Read.l0 k3 l0 a2 x8_6 x9_6 (x10_3 ++ [wrap64 (x9_6 * t433)]) (wrap64 (x11_3 + 1))) else (none))) else (none)) else (none)) else (if x10_3.length < 17592186044416 then (calamusref06_Read.l0 k3 l0 a2 x8_6 x9_6 (x10_3 ++ [wrap64 (x9_6 * t433)]) (wrap64 (x11_3 + 1))) else (none))) = some (r1, r2) := H
                    have A11 := Aside0.mk A110
                    clear A110
                    by_cases c12 : x11_3 > 0
                    · rw [if_pos c12] at H
                      have c12b0 : decide (0 < x11_3) = true := decide_eq_true c12
                      clear c12
                      obtain ⟨ji13, hji13⟩ : ∃ j_ : Int, (wrap64 (x11_3 - 1)) = j_ := ⟨_, rfl⟩
                      replace H : (if 0 ≤ (ji13) then (if (ji13) < (x10_3.length : Int) then (if (wrap64 (x9_6 * t433)) < (rd x10_3 (ji13)) then (some (([] : List Int), 12)) else (if x10_3.length < 17592186044416 then (calamusref06_Read.l0 k3 l0 a2 x8_6 x9_6 (x10_3 ++ [wrap64 (x9_6 * t433)]) (wrap64 (x11_3 + 1))) else (none))) else (none)) else (none)) = some (r1, r2) := by first | (rw [hji13] at H; exact H) | (simp only [hji13] at H ⊢; exact H)
                      (try rw [hji13] at A11)
                      have hji13w : (IntKind.i64.wrap (x11_3 - 1)) = ji13 := (i64_w _).trans hji13
                      by_cases c14 : 0 ≤ (ji13)
                      · rw [if_pos c14] at H
                        have c14b0 : decide (0 ≤ (ji13)) = true := decide_eq_true c14
                        clear c14
                        by_cases c15 : (ji13) < (x10_3.length : Int)
                        · rw [if_pos c15] at H
                          have c15b0 : decide ((ji13) < (x10_3.length : Int)) = true := decide_eq_true c15
                          clear c15
                          by_cases c16 : (wrap64 (x9_6 * t433)) < (rd x10_3 (ji13))
                          · rw [if_pos c16] at H
                            have c16b0 : decide ((wrap64 (x9_6 * t433)) < (rd x10_3 (ji13))) = true := decide_eq_true c16
                            clear c16
                            simp only [Option.some.injEq, Prod.mk.injEq] at H
                            obtain ⟨rfl, rfl⟩ := H
                            go_wp2_with (first | ((with_reducible refine gate_callee (f := 37) rfl ?_); refine goesL_ (some 39) rfl rfl Try.func37 (by kernel_rfl) rfl #[.slice A0 l0.length c0, .int .i64 (wrap64 (x8_6 * x11_3)), .int .i64 x8_6] rfl (by (try simp only [List.map_toArray, List.map_cons, List.map_nil]); first | done | rfl | (simp only [List.length_drop, List.length_take]; rfl)) ?_; (with_reducible refine (calamusref02_U.calls k3 _ _ l0 (wrap64 (x8_6 * x11_3)) x8_6 t433 t434 _ ?side1 ?side2 A11.out).mono ?_); (case side1 => repeat (first | exact (Kd.C_below HR0.out HB.out) | (with_reducible refine Kd.C_alloc ?_ _) | (with_reducible refine Kd.C_drewN ?_ _) | (with_reducible refine Kd.C_drew ?_))); (case side2 => exact HC0.out); rintro e w' ⟨rfl, ⟨nd, rfl⟩⟩; refine ⟨_, rfl, ?_⟩; obtain ⟨Ao17, co17, eo17⟩ := Kd.R_slice HO_10.out; subst eo17; have p435 : 0 ≤ ((ji13) : Int) := of_decide_eq_true (by first | (with_reducible assumption) | assumption); have q435 : (ji13) < (x10_3.length : Int) := of_decide_eq_true (by first | (with_reducible assumption) | assumption); obtain ⟨ad435, e435, hx435_0⟩ := Kd.at_int (Kd.R_reads' HO_10.out).2.2 (ji13) p435 q435; cases e435; replace p435 := eq_true p435; replace q435 := eq_true q435))
                            go_ret2
                            exact ⟨_, by first | rfl | (simp [errW_none, errW_some] <;> rfl) | (simp only [← hji13]; first | rfl | (simp [errW_none, errW_some] <;> rfl)) | (simp [*, errW_none, errW_some] <;> rfl), by first | exact Kd.R_nil _ _ _ _ _ | exact Kd.N_nil _ _ _ _ _ | exact Kd.V_nil _ _ _ _ _ | exact Kd.Q_nil _ _ _ _ _ | exact Kd.S_nil _ _ _ _ _, by repeat (first | (with_reducible first | exact HB.out | apply below_alloc | apply pw_below_drewN | apply below_drew1) | exact HB.out)⟩
                          · rw [if_neg c16] at H
                            have c16b0 : decide ((wrap64 (x9_6 * t433)) < (rd x10_3 (ji13))) = false := decide_eq_false c16
                            clear c16
                            by_cases c18 : x10_3.length < 17592186044416
                            · rw [if_pos c18] at H
                              have LMc18 := Aside0.mk c18
                              clear c18
                              obtain ⟨y436, hy436⟩ : ∃ y_ : List Int, y_ = (x10_3 ++ [wrap64 (x9_6 * t433)]) := ⟨_, rfl⟩
                              replace H : (calamusref06_Read.l0 k3 l0 a2 x8_6 x9_6 y436 (wrap64 (x11_3 + 1))) = some (r1, r2) := by first | (rw [hy436]; with_reducible exact H) | (have H2_ := (Option.bind_some _ _).symm.trans H; rw [hy436]; with_reducible exact H2_) | (have H2_ := (Option.bind_some _ _).symm.trans H; with_reducible exact H2_) | with_reducible exact H | (rw [hy436]; exact H) | exact H
                              have Ny436 := Aside0.mk hy436
                              clear hy436
                              have H' := Aside0.mk H
                              clear H
                              go_wp2_with (first | ((with_reducible refine gate_callee (f := 37) rfl ?_); refine goesL_ (some 39) rfl rfl Try.func37 (by kernel_rfl) rfl #[.slice A0 l0.length c0, .int .i64 (wrap64 (x8_6 * x11_3)), .int .i64 x8_6] rfl (by (try simp only [List.map_toArray, List.map_cons, List.map_nil]); first | done | rfl | (simp only [List.length_drop, List.length_take]; rfl)) ?_; (with_reducible refine (calamusref02_U.calls k3 _ _ l0 (wrap64 (x8_6 * x11_3)) x8_6 t433 t434 _ ?side1 ?side2 A11.out).mono ?_); (case side1 => repeat (first | exact (Kd.C_below HR0.out HB.out) | (with_reducible refine Kd.C_alloc ?_ _) | (with_reducible refine Kd.C_drewN ?_ _) | (with_reducible refine Kd.C_drew ?_))); (case side2 => exact HC0.out); rintro e w' ⟨rfl, ⟨nd, rfl⟩⟩; refine ⟨_, rfl, ?_⟩; obtain ⟨Ao19, co19, eo19⟩ := Kd.R_slice HO_10.out; subst eo19; have p435 : 0 ≤ ((ji13) : Int) := of_decide_eq_true (by first | (with_reducible assumption) | assumption); have q435 : (ji13) < (x10_3.length : Int) := of_decide_eq_true (by first | (with_reducible assumption) | assumption); obtain ⟨ad435, e435, hx435_0⟩ := Kd.at_int (Kd.R_reads' HO_10.out).2.2 (ji13) p435 q435; cases e435; replace p435 := eq_true p435; replace q435 := eq_true q435) | ((with_reducible refine gate_builtin (b := .append) (xs := #[.tmp 55, .tmp 59]) rfl ?_); at_builtin; refine Kd.R_append (Kd.int .i64) (w0 := w) w.heap.size rfl (.tmp 55) (.tmp 59) 61 3 (.int .i64 0) 8 rfl Try.underlying61 info3 rfl (by decide) (by omega) (.slice (some ad435) x10_3.length co19) x10_3 (wrap64 (x9_6 * t433)) [.int .i64 (wrap64 (x9_6 * t433))] (fun _ => True) (fun _ => False) rfl rfl ?aP (fun _ hk => hk.elim) ?aF ?aO ?aB ?aS ?aL ?_; (case aP => exact rfl); (case aB => exact (by repeat (first | (with_reducible first | exact HB.out | apply below_alloc | apply pw_below_drewN | apply below_drew1) | exact HB.out))); (case aF => exact (fun _ _ => trivial)); (case aO => exact (by (with_reducible repeat (first | apply Kd.R_alloc | apply Kd.R_drewN | apply Kd.R_drew)); exact HO_10.out)); (case aS => exact (below_size (by repeat (first | (with_reducible first | exact HB.out | apply below_alloc | apply pw_below_drewN | apply below_drew1) | exact HB.out)))); (case aL => have := LMc18.out; omega); intro v437 w20 ho hb hg hat; rw [← Ny436.out] at ho; have n0_ := Aside0.mk (hb); have n1_ := Aside0.mk (ho); clear HB; clear HO_10; have HB := n0_; have HO438 := n1_; clear n0_ n1_; clear ho hb hg hat))
                              go_roundg k3
                              case measure => have := HJ3.out; have := HJ6.out; have := HK3.out; omega
                              case rel => exact ⟨(y436), (wrap64 (x11_3 + 1)), (by first | rfl | (simp; done) | (simp [*]; done)), H', ⟨by have := HJ3.out; have := HJ6.out; have := HK3.out; omega⟩, ⟨by (with_reducible repeat (first | apply Kd.R_alloc | apply Kd.R_drewN | apply Kd.R_drew)); exact HO438.out⟩, ⟨by repeat (first | (with_reducible first | exact HB.out | apply below_alloc | apply pw_below_drewN | apply below_drew1) | exact HB.out)⟩⟩
                            · rw [if_neg c18] at H
                              exact absurd H (by simp)
                        · rw [if_neg c15] at H
                          exact absurd H (by simp)
                      · rw [if_neg c14] at H
                        exact absurd H (by simp)
                    · rw [if_neg c12] at H
                      have c12b0 : decide (0 < x11_3) = false := decide_eq_false c12
                      clear c12
                      by_cases c21 : x10_3.length < 17592186044416
                      · rw [if_pos c21] at H
                        have LMc21 := Aside0.mk c21
                        clear c21
                        obtain ⟨y439, hy439⟩ : ∃ y_ : List Int, y_ = (x10_3 ++ [wrap64 (x9_6 * t433)]) := ⟨_, rfl⟩
                        replace H : (calamusref06_Read.l0 k3 l0 a2 x8_6 x9_6 y439 (wrap64 (x11_3 + 1))) = some (r1, r2) := by first | (rw [hy439]; with_reducible exact H) | (have H2_ := (Option.bind_some _ _).symm.trans H; rw [hy439]; with_reducible exact H2_) | (have H2_ := (Option.bind_some _ _).symm.trans H; with_reducible exact H2_) | with_reducible exact H | (rw [hy439]; exact H) | exact H
                        have Ny439 := Aside0.mk hy439
                        clear hy439
                        have H' := Aside0.mk H
                        clear H
                        go_wp2_with (first | ((with_reducible refine gate_callee (f := 37) rfl ?_); refine goesL_ (some 39) rfl rfl Try.func37 (by kernel_rfl) rfl #[.slice A0 l0.length c0, .int .i64 (wrap64 (x8_6 * x11_3)), .int .i64 x8_6] rfl (by (try simp only [List.map_toArray, List.map_cons, List.map_nil]); first | done | rfl | (simp only [List.length_drop, List.length_take]; rfl)) ?_; (with_reducible refine (calamusref02_U.calls k3 _ _ l0 (wrap64 (x8_6 * x11_3)) x8_6 t433 t434 _ ?side1 ?side2 A11.out).mono ?_); (case side1 => repeat (first | exact (Kd.C_below HR0.out HB.out) | (with_reducible refine Kd.C_alloc ?_ _) | (with_reducible refine Kd.C_drewN ?_ _) | (with_reducible refine Kd.C_drew ?_))); (case side2 => exact HC0.out); rintro e w' ⟨rfl, ⟨nd, rfl⟩⟩; refine ⟨_, rfl, ?_⟩) | ((with_reducible refine gate_builtin (b := .append) (xs := #[.tmp 55, .tmp 59]) rfl ?_); at_builtin; refine Kd.R_append (Kd.int .i64) (w0 := w) w.heap.size rfl (.tmp 55) (.tmp 59) 61 3 (.int .i64 0) 8 rfl Try.underlying61 info3 rfl (by decide) (by omega) u10 x10_3 (wrap64 (x9_6 * t433)) [.int .i64 (wrap64 (x9_6 * t433))] (fun _ => True) (fun _ => False) rfl rfl ?aP (fun _ hk => hk.elim) ?aF ?aO ?aB ?aS ?aL ?_; (case aP => exact rfl); (case aB => exact (by repeat (first | (with_reducible first | exact HB.out | apply below_alloc | apply pw_below_drewN | apply below_drew1) | exact HB.out))); (case aF => exact (fun _ _ => trivial)); (case aO => exact (by (with_reducible repeat (first | apply Kd.R_alloc | apply Kd.R_drewN | apply Kd.R_drew)); exact HO_10.out)); (case aS => exact (below_size (by repeat (first | (with_reducible first | exact HB.out | apply below_alloc | apply pw_below_drewN | apply below_drew1) | exact HB.out)))); (case aL => have := LMc21.out; omega); intro v440 w22 ho hb hg hat; rw [← Ny439.out] at ho; have n0_ := Aside0.mk (hb); have n1_ := Aside0.mk (ho); clear HB; clear HO_10; have HB := n0_; have HO441 := n1_; clear n0_ n1_; clear ho hb hg hat))
                        go_roundg k3
                        case measure => have := HJ3.out; have := HJ6.out; have := HK3.out; omega
                        case rel => exact ⟨(y439), (wrap64 (x11_3 + 1)), (by first | rfl | (simp; done) | (simp [*]; done)), H', ⟨by have := HJ3.out; have := HJ6.out; have := HK3.out; omega⟩, ⟨by (with_reducible repeat (first | apply Kd.R_alloc | apply Kd.R_drewN | apply Kd.R_drew)); exact HO441.out⟩, ⟨by repeat (first | (with_reducible first | exact HB.out | apply below_alloc | apply pw_below_drewN | apply below_drew1) | exact HB.out)⟩⟩
                      · rw [if_neg c21] at H
                        exact absurd H (by simp)
                  · rw [if_neg c10] at H
                    have c10b0 : decide (x11_3 ≤ a2) = false := decide_eq_false c10
                    clear c10
                    simp only [Option.some.injEq, Prod.mk.injEq] at H
                    obtain ⟨rfl, rfl⟩ := H
                    go_wp2
                    go_ret2
                    exact ⟨_, by first | rfl | (simp [errW_none, errW_some] <;> rfl) | (simp [*, errW_none, errW_some] <;> rfl), by (with_reducible repeat (first | apply Kd.R_alloc | apply Kd.R_drewN | apply Kd.R_drew)); exact HO_10.out, by repeat (first | (with_reducible first | exact HB.out | apply below_alloc | apply pw_below_drewN | apply below_drew1) | exact HB.out)⟩

end Go.Proofs.Ytcclmaicdmogjaa.P

-- Written by wip/pr.py over the kit's print
namespace Go.Proofs.Ytcclmaicdmogjaa.P
open Go.RowKit Go.Proofs.YtcclmaicdmogjaaW.PrintWords Go.Proofs.YtcclmaicdmogjaaW.PrintLast Go.Proofs.YtcclmaicdmogjaaW.PrintMore
attribute [local go_sem] max2_int min2_int max_two min_two max_three min_three max_four min_four   -- for this text's walks alone
set_option linter.unusedVariables false
set_option linter.unusedSimpArgs false

/-! ### calamuslaw06_LocaReads: function 14 -/
def calamuslaw06_LocaReads.f (k : Nat) (l0 : List Int) (a1 : Bool) (a2 : Int) : Option (Bool) := (calamuslaw06_alive.f k).bind fun t442 => (if t442 = true then ((calamusref02_Copy.f l0).bind fun t443 => ((loca_Read.f k t443 a1 a2).bind fun bt446 => ((calamusref06_Read.f k l0 a1 a2).bind fun bt450 => (if bt446.2 = bt450.2 then ((calamusref02_Ints.f k bt446.1 bt450.1).bind fun t454 => (if t454 = true then ((calamusref02_Same.f t443 l0).bind fun t455 => (some t455)) else (some false))) else (some false))))) else (some false))
theorem calamuslaw06_LocaReads.mono : ∀ a0 a1 a2 k, LeO (calamuslaw06_LocaReads.f k a0 a1 a2) (calamuslaw06_LocaReads.f (k + 1) a0 a1 a2) := by
  intro a0 a1 a2 k
  unfold calamuslaw06_LocaReads.f
  repeat' first
      | (with_reducible exact calamuslaw06_alive.mono _)
      | (with_reducible exact calamusref02_Ints.mono _ _ _)
      | (with_reducible exact calamusref06_Read.mono _ _ _ _)
      | (with_reducible exact loca_Read.mono _ _ _ _)
      | (with_reducible exact LeO.refl _)
      | (with_reducible exact LeO.none _)
      | (with_reducible refine LeO.ite ?_ ?_)
      | (with_reducible refine LeO.bind ?_ (fun _ => ?_))
      | exact calamuslaw06_alive.mono _
      | exact calamusref02_Ints.mono _ _ _
      | exact calamusref06_Read.mono _ _ _ _
      | exact loca_Read.mono _ _ _ _
      | exact LeO.none _
      | refine LeO.ite ?_ ?_
      | refine LeO.bind ?_ (fun _ => ?_)
set_option maxHeartbeats 8000000 in
set_option maxRecDepth 100000 in
theorem calamuslaw06_LocaReads.calls (k : Nat) (A0 : Option Addr) (c0 : Nat) (l0 : List Int) (a1 : Bool) (a2 : Int) (r : Bool) (w : World) (hr0 : Kd.C (Kd.int .u8) w A0 l0.length l0) (hc0 : l0.length ≤ c0) (h : calamuslaw06_LocaReads.f k l0 a1 a2 = some r) :
    Calls Try.prog 14 #[.slice A0 l0.length c0, .bool a1, .int .i64 a2] w fun e w' => e = .returned (.bool r) ∧ Below w.heap.size w w' := by
  have HR0 := Aside0.mk hr0
  have HC0 := Aside0.mk hc0
  clear hr0 hc0
  have HB := Aside0.mk (Below.refl w.heap.size w)
  have H : ((calamuslaw06_alive.f k).bind fun t442 => (if t442 = true then ((calamusref02_Copy.f l0).bind fun t443 => ((loca_Read.f k t443 a1 a2).bind fun bt446 => ((calamusref06_Read.f k l0 a1 a2).bind fun bt450 => (if bt446.2 = bt450.2 then ((calamusref02_Ints.f k bt446.1 bt450.1).bind fun t454 => (if t454 = true then ((calamusref02_Same.f t443 l0).bind fun t455 => (some t455)) else (some false))) else (some false))))) else (some false))) = some r := h
  clear h
  replace H := Option.bind_eq_some_iff.mp H
  obtain ⟨t442, A40, H⟩ := H
  replace H : (if t442 = true then ((calamusref02_Copy.f l0).bind fun t443 => ((loca_Read.f k t443 a1 a2).bind fun bt446 => ((calamusref06_Read.f k l0 a1 a2).bind fun bt450 => (if bt446.2 = bt450.2 then ((calamusref02_Ints.f k bt446.1 bt450.1).bind fun t454 => (if t454 = true then ((calamusref02_Same.f t443 l0).bind fun t455 => (some t455)) else (some false))) else (some false))))) else (some false)) = some r := H
  have A4 := Aside0.mk A40
  clear A40
  by_cases c5 : t442 = true
  · subst c5
    have H1 : ((calamusref02_Copy.f l0).bind fun t443 => ((loca_Read.f k t443 a1 a2).bind fun bt446 => ((calamusref06_Read.f k l0 a1 a2).bind fun bt450 => (if bt446.2 = bt450.2 then ((calamusref02_Ints.f k bt446.1 bt450.1).bind fun t454 => (if t454 = true then ((calamusref02_Same.f t443 l0).bind fun t455 => (some t455)) else (some false))) else (some false))))) = some r := by rw [if_pos rfl] at H; exact H
    clear H
    have H := H1
    clear H1
    replace H := Option.bind_eq_some_iff.mp H
    obtain ⟨t443, A60, H⟩ := H
    replace H : ((loca_Read.f k t443 a1 a2).bind fun bt446 => ((calamusref06_Read.f k l0 a1 a2).bind fun bt450 => (if bt446.2 = bt450.2 then ((calamusref02_Ints.f k bt446.1 bt450.1).bind fun t454 => (if t454 = true then ((calamusref02_Same.f t443 l0).bind fun t455 => (some t455)) else (some false))) else (some false)))) = some r := H
    have A6 := Aside0.mk A60
    clear A60
    replace H := Option.bind_eq_some_iff.mp H
    obtain ⟨⟨t446, t447⟩, A70, H⟩ := H
    replace H : ((calamusref06_Read.f k l0 a1 a2).bind fun bt450 => (if t447 = bt450.2 then ((calamusref02_Ints.f k t446 bt450.1).bind fun t454 => (if t454 = true then ((calamusref02_Same.f t443 l0).bind fun t455 => (some t455)) else (some false))) else (some false))) = some r := H
    have A7 := Aside0.mk A70
    clear A70
    replace H := Option.bind_eq_some_iff.mp H
    obtain ⟨⟨t450, t451⟩, A80, H⟩ := H
    replace H : (if t447 = t451 then ((calamusref02_Ints.f k t446 t450).bind fun t454 => (if t454 = true then ((calamusref02_Same.f t443 l0).bind fun t455 => (some t455)) else (some false))) else (some false)) = some r := H
    have A8 := Aside0.mk A80
    clear A80
    by_cases c9 : t447 = t451
    · rw [if_pos c9] at H
      have c9b0 : (t447 == t451) = true := beq_iff_eq.mpr c9
      have c9b1 : (t447 != t451) = false := bne_eq_false_iff_eq.mpr c9
      clear c9
      replace H := Option.bind_eq_some_iff.mp H
      obtain ⟨t454, A100, H⟩ := H
      replace H : (if t454 = true then ((calamusref02_Same.f t443 l0).bind fun t455 => (some t455)) else (some false)) = some r := H
      have A10 := Aside0.mk A100
      clear A100
      by_cases c11 : t454 = true
      · subst c11
        have H1 : ((calamusref02_Same.f t443 l0).bind fun t455 => (some t455)) = some r := by rw [if_pos rfl] at H; exact H
        clear H
        have H := H1
        clear H1
        replace H := Option.bind_eq_some_iff.mp H
        obtain ⟨t455, A120, H⟩ := H
        replace H : (some t455) = some r := H
        have A12 := Aside0.mk A120
        clear A120
        obtain rfl := Option.some.inj H
        go_enter Try.func14, Try.ntmps14
        go_wp2_with (first | ((with_reducible refine gate_callee (f := 50) rfl ?_); refine goesL_ (some 12) rfl rfl Try.func50 (by kernel_rfl) rfl #[] rfl (by (try simp only [List.map_toArray, List.map_cons, List.map_nil]); first | done | rfl | (simp only [List.length_drop, List.length_take]; rfl)) ?_; (with_reducible refine (calamuslaw06_alive.calls k  true _ A4.out).mono ?_); rintro e w13 ⟨rfl, hb⟩; refine ⟨_, rfl, ?_⟩; have n0_ := Aside0.mk (below_step (by repeat (first | (with_reducible first | exact HB.out | apply below_alloc | apply pw_below_drewN | apply below_drew1) | exact HB.out)) hb); clear HB; have HB := n0_; clear n0_; (try clear hb); (try clear hb2); (try clear hk); (try clear hi)) | ((with_reducible refine gate_callee (f := 26) rfl ?_); refine goesL_ (some 15) rfl rfl Try.func26 (by kernel_rfl) rfl #[.slice A0 l0.length c0] rfl (by (try simp only [List.map_toArray, List.map_cons, List.map_nil]); first | done | rfl | (simp only [List.length_drop, List.length_take]; rfl)) ?_; (with_reducible refine (calamusref02_Copy.calls _ _ l0 t443 _ ?side1 ?side2 A6.out).mono ?_); (case side1 => repeat (first | exact (Kd.C_below HR0.out HB.out) | (with_reducible refine Kd.C_alloc ?_ _) | (with_reducible refine Kd.C_drewN ?_ _) | (with_reducible refine Kd.C_drew ?_))); (case side2 => exact HC0.out); rintro e w14 ⟨v444, rfl, ho0, hb⟩; refine ⟨_, rfl, ?_⟩; have n0_ := Aside0.mk (Kd.R_lower ho0 (below_size (by repeat (first | (with_reducible first | exact HB.out | apply below_alloc | apply pw_below_drewN | apply below_drew1) | exact HB.out)))); have n1_ := Aside0.mk (below_step (by repeat (first | (with_reducible first | exact HB.out | apply below_alloc | apply pw_below_drewN | apply below_drew1) | exact HB.out)) hb); clear HB; have HO445 := n0_; have HB := n1_; clear n0_ n1_; (try clear hb); (try clear hb2); (try clear hk); (try clear hi); (try clear ho0); obtain ⟨Ao15, co15, eo15⟩ := Kd.R_slice HO445.out; subst eo15) | ((with_reducible refine gate_callee (f := 51) rfl ?_); refine goesL_ (some 20) rfl rfl Try.func51 (by kernel_rfl) rfl #[.slice Ao15 t443.length co15, .bool a1, .int .i64 a2] rfl (by (try simp only [List.map_toArray, List.map_cons, List.map_nil]); first | done | rfl | (simp only [List.length_drop, List.length_take]; rfl)) ?_; (with_reducible refine (loca_Read.calls k _ _ t443 a1 a2 t446 t447 _ ?side1 ?side2 A7.out).mono ?_); (case side1 => repeat (first | exact (Kd.R_reads' HO445.out).2.2 | (with_reducible refine Kd.C_alloc ?_ _) | (with_reducible refine Kd.C_drewN ?_ _) | (with_reducible refine Kd.C_drew ?_))); (case side2 => exact (Kd.R_reads' HO445.out).2.1); rintro e w16 ⟨v448, rfl, ho0, hb⟩; refine ⟨_, rfl, ?_⟩; have n0_ := Aside0.mk (Kd.R_below (by (with_reducible repeat (first | apply Kd.R_alloc | apply Kd.R_drewN | apply Kd.R_drew)); exact HO445.out) hb); have n1_ := Aside0.mk (Kd.R_lower ho0 (below_size (by repeat (first | (with_reducible first | exact HB.out | apply below_alloc | apply pw_below_drewN | apply below_drew1) | exact HB.out)))); have n2_ := Aside0.mk (below_step (by repeat (first | (with_reducible first | exact HB.out | apply below_alloc | apply pw_below_drewN | apply below_drew1) | exact HB.out)) hb); clear HO445; clear HB; have HO445 := n0_; have HO449 := n1_; have HB := n2_; clear n0_ n1_ n2_; (try clear hb); (try clear hb2); (try clear hk); (try clear hi); (try clear ho0)) | ((with_reducible refine gate_callee (f := 52) rfl ?_); refine goesL_ (some 27) rfl rfl Try.func52 (by kernel_rfl) rfl #[.slice A0 l0.length c0, .bool a1, .int .i64 a2] rfl (by (try simp only [List.map_toArray, List.map_cons, List.map_nil]); first | done | rfl | (simp only [List.length_drop, List.length_take]; rfl)) ?_; (with_reducible refine (calamusref06_Read.calls k _ _ l0 a1 a2 t450 t451 _ ?side1 ?side2 A8.out).mono ?_); (case side1 => repeat (first | exact (Kd.C_below HR0.out HB.out) | (with_reducible refine Kd.C_alloc ?_ _) | (with_reducible refine Kd.C_drewN ?_ _) | (with_reducible refine Kd.C_drew ?_))); (case side2 => exact HC0.out); rintro e w17 ⟨v452, rfl, ho0, hb⟩; refine ⟨_, rfl, ?_⟩; have n0_ := Aside0.mk (Kd.R_below (by (with_reducible repeat (first | apply Kd.R_alloc | apply Kd.R_drewN | apply Kd.R_drew)); exact HO445.out) hb); have n1_ := Aside0.mk (Kd.R_elder' (by (with_reducible repeat (first | apply Kd.R_alloc | apply Kd.R_drewN | apply Kd.R_drew)); exact HO449.out) (Kd.R_base ho0) hb); have n2_ := Aside0.mk (Kd.R_lower (Kd.R_new' ho0 (Kd.R_lt (by (with_reducible repeat (first | apply Kd.R_alloc | apply Kd.R_drewN | apply Kd.R_drew)); exact HO449.out))) (below_size (by repeat (first | (with_reducible first | exact HB.out | apply below_alloc | apply pw_below_drewN | apply below_drew1) | exact HB.out)))); have n3_ := Aside0.mk (below_step (by repeat (first | (with_reducible first | exact HB.out | apply below_alloc | apply pw_below_drewN | apply below_drew1) | exact HB.out)) hb); clear HO445; clear HO449; clear HB; have HO445 := n0_; have HO449 := n1_; have HO453 := n2_; have HB := n3_; clear n0_ n1_ n2_ n3_; (try clear hb); (try clear hb2); (try clear hk); (try clear hi); (try clear ho0); obtain ⟨Ao18, co18, eo18⟩ := Kd.R_slice HO449.out; subst eo18; obtain ⟨Ao19, co19, eo19⟩ := Kd.R_slice HO453.out; subst eo19) | (go_at_call 53; (with_reducible refine (calamusref02_Ints.calls k _ _ t446 _ _ t450 true _ ?side1 ?side2 ?side3 ?side4 A10.out).mono ?_); (case side1 => repeat (first | exact (Kd.R_reads' HO449.out).2.2 | (with_reducible refine Kd.C_alloc ?_ _) | (with_reducible refine Kd.C_drewN ?_ _) | (with_reducible refine Kd.C_drew ?_))); (case side2 => exact (Kd.R_reads' HO449.out).2.1); (case side3 => repeat (first | exact (Kd.R_reads' HO453.out).2.2 | (with_reducible refine Kd.C_alloc ?_ _) | (with_reducible refine Kd.C_drewN ?_ _) | (with_reducible refine Kd.C_drew ?_))); (case side4 => exact (Kd.R_reads' HO453.out).2.1); rintro e w' ⟨rfl, ⟨nd, rfl⟩⟩) | (go_at_call 33; (with_reducible refine (calamusref02_Same.calls _ _ t443 _ _ l0 t455 _ ?side1 ?side2 ?side3 ?side4 A12.out).mono ?_); (case side1 => repeat (first | exact (Kd.R_reads' HO445.out).2.2 | (with_reducible refine Kd.C_alloc ?_ _) | (with_reducible refine Kd.C_drewN ?_ _) | (with_reducible refine Kd.C_drew ?_))); (case side2 => exact (Kd.R_reads' HO445.out).2.1); (case side3 => repeat (first | exact (Kd.C_below HR0.out (by repeat (first | (with_reducible first | exact HB.out | apply below_alloc | apply pw_below_drewN | apply below_drew1) | exact HB.out))) | (with_reducible refine Kd.C_alloc ?_ _) | (with_reducible refine Kd.C_drewN ?_ _) | (with_reducible refine Kd.C_drew ?_))); (case side4 => exact HC0.out); rintro e w' ⟨rfl, ⟨nd, rfl⟩⟩))
        go_ret
        exact ⟨by first | rfl | (simp [errW_none, errW_some] <;> rfl) | (simp [*, errW_none, errW_some] <;> rfl), by repeat (first | (with_reducible first | exact HB.out | apply below_alloc | apply pw_below_drewN | apply below_drew1) | exact HB.out)⟩
      · replace c11 := Bool.eq_false_iff.mpr c11
        subst c11
        have H1 : (some false) = some r := by rw [if_neg (show ¬ (false = true) by decide)] at H; exact H
        clear H
        have H := H1
        clear H1
        obtain rfl := Option.some.inj H
        go_enter Try.func14, Try.ntmps14
        go_wp2_with (first | ((with_reducible refine gate_callee (f := 50) rfl ?_); refine goesL_ (some 12) rfl rfl Try.func50 (by kernel_rfl) rfl #[] rfl (by (try simp only [List.map_toArray, List.map_cons, List.map_nil]); first | done | rfl | (simp only [List.length_drop, List.length_take]; rfl)) ?_; (with_reducible refine (calamuslaw06_alive.calls k  true _ A4.out).mono ?_); rintro e w20 ⟨rfl, hb⟩; refine ⟨_, rfl, ?_⟩; have n0_ := Aside0.mk (below_step (by repeat (first | (with_reducible first | exact HB.out | apply below_alloc | apply pw_below_drewN | apply below_drew1) | exact HB.out)) hb); clear HB; have HB := n0_; clear n0_; (try clear hb); (try clear hb2); (try clear hk); (try clear hi)) | ((with_reducible refine gate_callee (f := 26) rfl ?_); refine goesL_ (some 15) rfl rfl Try.func26 (by kernel_rfl) rfl #[.slice A0 l0.length c0] rfl (by (try simp only [List.map_toArray, List.map_cons, List.map_nil]); first | done | rfl | (simp only [List.length_drop, List.length_take]; rfl)) ?_; (with_reducible refine (calamusref02_Copy.calls _ _ l0 t443 _ ?side1 ?side2 A6.out).mono ?_); (case side1 => repeat (first | exact (Kd.C_below HR0.out HB.out) | (with_reducible refine Kd.C_alloc ?_ _) | (with_reducible refine Kd.C_drewN ?_ _) | (with_reducible refine Kd.C_drew ?_))); (case side2 => exact HC0.out); rintro e w21 ⟨v444, rfl, ho0, hb⟩; refine ⟨_, rfl, ?_⟩; have n0_ := Aside0.mk (Kd.R_lower ho0 (below_size (by repeat (first | (with_reducible first | exact HB.out | apply below_alloc | apply pw_below_drewN | apply below_drew1) | exact HB.out)))); have n1_ := Aside0.mk (below_step (by repeat (first | (with_reducible first | exact HB.out | apply below_alloc | apply pw_below_drewN | apply below_drew1) | exact HB.out)) hb); clear HB; have HO445 := n0_; have HB := n1_; clear n0_ n1_; (try clear hb); (try clear hb2); (try clear hk); (try clear hi); (try clear ho0); obtain ⟨Ao22, co22, eo22⟩ := Kd.R_slice HO445.out; subst eo22) | ((with_reducible refine gate_callee (f := 51) rfl ?_); refine goesL_ (some 20) rfl rfl Try.func51 (by kernel_rfl) rfl #[.slice Ao22 t443.length co22, .bool a1, .int .i64 a2] rfl (by (try simp only [List.map_toArray, List.map_cons, List.map_nil]); first | done | rfl | (simp only [List.length_drop, List.length_take]; rfl)) ?_; (with_reducible refine (loca_Read.calls k _ _ t443 a1 a2 t446 t447 _ ?side1 ?side2 A7.out).mono ?_); (case side1 => repeat (first | exact (Kd.R_reads' HO445.out).2.2 | (with_reducible refine Kd.C_alloc ?_ _) | (with_reducible refine Kd.C_drewN ?_ _) | (with_reducible refine Kd.C_drew ?_))); (case side2 => exact (Kd.R_reads' HO445.out).2.1); rintro e w23 ⟨v448, rfl, ho0, hb⟩; refine ⟨_, rfl, ?_⟩; have n0_ := Aside0.mk (Kd.R_below (by (with_reducible repeat (first | apply Kd.R_alloc | apply Kd.R_drewN | apply Kd.R_drew)); exact HO445.out) hb); have n1_ := Aside0.mk (Kd.R_lower ho0 (below_size (by repeat (first | (with_reducible first | exact HB.out | apply below_alloc | apply pw_below_drewN | apply below_drew1) | exact HB.out)))); have n2_ := Aside0.mk (below_step (by repeat (first | (with_reducible first | exact HB.out | apply below_alloc | apply pw_below_drewN | apply below_drew1) | exact HB.out)) hb); clear HO445; clear HB; have HO445 := n0_; have HO449 := n1_; have HB := n2_; clear n0_ n1_ n2_; (try clear hb); (try clear hb2); (try clear hk); (try clear hi); (try clear ho0)) | ((with_reducible refine gate_callee (f := 52) rfl ?_); refine goesL_ (some 27) rfl rfl Try.func52 (by kernel_rfl) rfl #[.slice A0 l0.length c0, .bool a1, .int .i64 a2] rfl (by (try simp only [List.map_toArray, List.map_cons, List.map_nil]); first | done | rfl | (simp only [List.length_drop, List.length_take]; rfl)) ?_; (with_reducible refine (calamusref06_Read.calls k _ _ l0 a1 a2 t450 t451 _ ?side1 ?side2 A8.out).mono ?_); (case side1 => repeat (first | exact (Kd.C_below HR0.out HB.out) | (with_reducible refine Kd.C_alloc ?_ _) | (with_reducible refine Kd.C_drewN ?_ _) | (with_reducible refine Kd.C_drew ?_))); (case side2 => exact HC0.out); rintro e w24 ⟨v452, rfl, ho0, hb⟩; refine ⟨_, rfl, ?_⟩; have n0_ := Aside0.mk (Kd.R_below (by (with_reducible repeat (first | apply Kd.R_alloc | apply Kd.R_drewN | apply Kd.R_drew)); exact HO445.out) hb); have n1_ := Aside0.mk (Kd.R_elder' (by (with_reducible repeat (first | apply Kd.R_alloc | apply Kd.R_drewN | apply Kd.R_drew)); exact HO449.out) (Kd.R_base ho0) hb); have n2_ := Aside0.mk (Kd.R_lower (Kd.R_new' ho0 (Kd.R_lt (by (with_reducible repeat (first | apply Kd.R_alloc | apply Kd.R_drewN | apply Kd.R_drew)); exact HO449.out))) (below_size (by repeat (first | (with_reducible first | exact HB.out | apply below_alloc | apply pw_below_drewN | apply below_drew1) | exact HB.out)))); have n3_ := Aside0.mk (below_step (by repeat (first | (with_reducible first | exact HB.out | apply below_alloc | apply pw_below_drewN | apply below_drew1) | exact HB.out)) hb); clear HO445; clear HO449; clear HB; have HO445 := n0_; have HO449 := n1_; have HO453 := n2_; have HB := n3_; clear n0_ n1_ n2_ n3_; (try clear hb); (try clear hb2); (try clear hk); (try clear hi); (try clear ho0); obtain ⟨Ao25, co25, eo25⟩ := Kd.R_slice HO449.out; subst eo25; obtain ⟨Ao26, co26, eo26⟩ := Kd.R_slice HO453.out; subst eo26) | (go_at_call 53; (with_reducible refine (calamusref02_Ints.calls k _ _ t446 _ _ t450 false _ ?side1 ?side2 ?side3 ?side4 A10.out).mono ?_); (case side1 => repeat (first | exact (Kd.R_reads' HO449.out).2.2 | (with_reducible refine Kd.C_alloc ?_ _) | (with_reducible refine Kd.C_drewN ?_ _) | (with_reducible refine Kd.C_drew ?_))); (case side2 => exact (Kd.R_reads' HO449.out).2.1); (case side3 => repeat (first | exact (Kd.R_reads' HO453.out).2.2 | (with_reducible refine Kd.C_alloc ?_ _) | (with_reducible refine Kd.C_drewN ?_ _) | (with_reducible refine Kd.C_drew ?_))); (case side4 => exact (Kd.R_reads' HO453.out).2.1); rintro e w' ⟨rfl, ⟨nd, rfl⟩⟩))
        go_ret
        exact ⟨by first | rfl | (simp [errW_none, errW_some] <;> rfl) | (simp [*, errW_none, errW_some] <;> rfl), by repeat (first | (with_reducible first | exact HB.out | apply below_alloc | apply pw_below_drewN | apply below_drew1) | exact HB.out)⟩
    · rw [if_neg c9] at H
      have c9b0 : (t447 == t451) = false := beq_eq_false_iff_ne.mpr c9
      have c9b1 : (t447 != t451) = true := bne_iff_ne.mpr c9
      obtain rfl := Option.some.inj H
      go_enter Try.func14, Try.ntmps14
      go_wp2_with (first | ((with_reducible refine gate_callee (f := 50) rfl ?_); refine goesL_ (some 12) rfl rfl Try.func50 (by kernel_rfl) rfl #[] rfl (by (try simp only [List.map_toArray, List.map_cons, List.map_nil]); first | done | rfl | (simp only [List.length_drop, List.length_take]; rfl)) ?_; (with_reducible refine (calamuslaw06_alive.calls k  true _ A4.out).mono ?_); rintro e w27 ⟨rfl, hb⟩; refine ⟨_, rfl, ?_⟩; have n0_ := Aside0.mk (below_step (by repeat (first | (with_reducible first | exact HB.out | apply below_alloc | apply pw_below_drewN | apply below_drew1) | exact HB.out)) hb); clear HB; have HB := n0_; clear n0_; (try clear hb); (try clear hb2); (try clear hk); (try clear hi)) | ((with_reducible refine gate_callee (f := 26) rfl ?_); refine goesL_ (some 15) rfl rfl Try.func26 (by kernel_rfl) rfl #[.slice A0 l0.length c0] rfl (by (try simp only [List.map_toArray, List.map_cons, List.map_nil]); first | done | rfl | (simp only [List.length_drop, List.length_take]; rfl)) ?_; (with_reducible refine (calamusref02_Copy.calls _ _ l0 t443 _ ?side1 ?side2 A6.out).mono ?_); (case side1 => repeat (first | exact (Kd.C_below HR0.out HB.out) | (with_reducible refine Kd.C_alloc ?_ _) | (with_reducible refine Kd.C_drewN ?_ _) | (with_reducible refine Kd.C_drew ?_))); (case side2 => exact HC0.out); rintro e w28 ⟨v444, rfl, ho0, hb⟩; refine ⟨_, rfl, ?_⟩; have n0_ := Aside0.mk (Kd.R_lower ho0 (below_size (by repeat (first | (with_reducible first | exact HB.out | apply below_alloc | apply pw_below_drewN | apply below_drew1) | exact HB.out)))); have n1_ := Aside0.mk (below_step (by repeat (first | (with_reducible first | exact HB.out | apply below_alloc | apply pw_below_drewN | apply below_drew1) | exact HB.out)) hb); clear HB; have HO445 := n0_; have HB := n1_; clear n0_ n1_; (try clear hb); (try clear hb2); (try clear hk); (try clear hi); (try clear ho0); obtain ⟨Ao29, co29, eo29⟩ := Kd.R_slice HO445.out; subst eo29) | ((with_reducible refine gate_callee (f := 51) rfl ?_); refine goesL_ (some 20) rfl rfl Try.func51 (by kernel_rfl) rfl #[.slice Ao29 t443.length co29, .bool a1, .int .i64 a2] rfl (by (try simp only [List.map_toArray, List.map_cons, List.map_nil]); first | done | rfl | (simp only [List.length_drop, List.length_take]; rfl)) ?_; (with_reducible refine (loca_Read.calls k _ _ t443 a1 a2 t446 t447 _ ?side1 ?side2 A7.out).mono ?_); (case side1 => repeat (first | exact (Kd.R_reads' HO445.out).2.2 | (with_reducible refine Kd.C_alloc ?_ _) | (with_reducible refine Kd.C_drewN ?_ _) | (with_reducible refine Kd.C_drew ?_))); (case side2 => exact (Kd.R_reads' HO445.out).2.1); rintro e w30 ⟨v448, rfl, ho0, hb⟩; refine ⟨_, rfl, ?_⟩; have n0_ := Aside0.mk (Kd.R_below (by (with_reducible repeat (first | apply Kd.R_alloc | apply Kd.R_drewN | apply Kd.R_drew)); exact HO445.out) hb); have n1_ := Aside0.mk (Kd.R_lower ho0 (below_size (by repeat (first | (with_reducible first | exact HB.out | apply below_alloc | apply pw_below_drewN | apply below_drew1) | exact HB.out)))); have n2_ := Aside0.mk (below_step (by repeat (first | (with_reducible first | exact HB.out | apply below_alloc | apply pw_below_drewN | apply below_drew1) | exact HB.out)) hb); clear HO445; clear HB; have HO445 := n0_; have HO449 := n1_; have HB := n2_; clear n0_ n1_ n2_; (try clear hb); (try clear hb2); (try clear hk); (try clear hi); (try clear ho0)) | ((with_reducible refine gate_callee (f := 52) rfl ?_); refine goesL_ (some 27) rfl rfl Try.func52 (by kernel_rfl) rfl #[.slice A0 l0.length c0, .bool a1, .int .i64 a2] rfl (by (try simp only [List.map_toArray, List.map_cons, List.map_nil]); first | done | rfl | (simp only [List.length_drop, List.length_take]; rfl)) ?_; (with_reducible refine (calamusref06_Read.calls k _ _ l0 a1 a2 t450 t451 _ ?side1 ?side2 A8.out).mono ?_); (case side1 => repeat (first | exact (Kd.C_below HR0.out HB.out) | (with_reducible refine Kd.C_alloc ?_ _) | (with_reducible refine Kd.C_drewN ?_ _) | (with_reducible refine Kd.C_drew ?_))); (case side2 => exact HC0.out); rintro e w31 ⟨v452, rfl, ho0, hb⟩; refine ⟨_, rfl, ?_⟩; have n0_ := Aside0.mk (Kd.R_below (by (with_reducible repeat (first | apply Kd.R_alloc | apply Kd.R_drewN | apply Kd.R_drew)); exact HO445.out) hb); have n1_ := Aside0.mk (Kd.R_elder' (by (with_reducible repeat (first | apply Kd.R_alloc | apply Kd.R_drewN | apply Kd.R_drew)); exact HO449.out) (Kd.R_base ho0) hb); have n2_ := Aside0.mk (Kd.R_lower (Kd.R_new' ho0 (Kd.R_lt (by (with_reducible repeat (first | apply Kd.R_alloc | apply Kd.R_drewN | apply Kd.R_drew)); exact HO449.out))) (below_size (by repeat (first | (with_reducible first | exact HB.out | apply below_alloc | apply pw_below_drewN | apply below_drew1) | exact HB.out)))); have n3_ := Aside0.mk (below_step (by repeat (first | (with_reducible first | exact HB.out | apply below_alloc | apply pw_below_drewN | apply below_drew1) | exact HB.out)) hb); clear HO445; clear HO449; clear HB; have HO445 := n0_; have HO449 := n1_; have HO453 := n2_; have HB := n3_; clear n0_ n1_ n2_ n3_; (try clear hb); (try clear hb2); (try clear hk); (try clear hi); (try clear ho0)))
      go_ret
      exact ⟨by first | rfl | (simp [errW_none, errW_some] <;> rfl) | (simp [*, errW_none, errW_some] <;> rfl), by repeat (first | (with_reducible first | exact HB.out | apply below_alloc | apply pw_below_drewN | apply below_drew1) | exact HB.out)⟩
  · replace c5 := Bool.eq_false_iff.mpr c5
    subst c5
    have H1 : (some false) = some r := by rw [if_neg (show ¬ (false = true) by decide)] at H; exact H
    clear H
    have H := H1
    clear H1
    obtain rfl := Option.some.inj H
    go_enter Try.func14, Try.ntmps14
    go_wp2_with (first | ((with_reducible refine gate_callee (f := 50) rfl ?_); refine goesL_ (some 12) rfl rfl Try.func50 (by kernel_rfl) rfl #[] rfl (by (try simp only [List.map_toArray, List.map_cons, List.map_nil]); first | done | rfl | (simp only [List.length_drop, List.length_take]; rfl)) ?_; (with_reducible refine (calamuslaw06_alive.calls k  false _ A4.out).mono ?_); rintro e w32 ⟨rfl, hb⟩; refine ⟨_, rfl, ?_⟩; have n0_ := Aside0.mk (below_step (by repeat (first | (with_reducible first | exact HB.out | apply below_alloc | apply pw_below_drewN | apply below_drew1) | exact HB.out)) hb); clear HB; have HB := n0_; clear n0_; (try clear hb); (try clear hb2); (try clear hk); (try clear hi)))
    go_ret
    exact ⟨by first | rfl | (simp [errW_none, errW_some] <;> rfl) | (simp [*, errW_none, errW_some] <;> rfl), by repeat (first | (with_reducible first | exact HB.out | apply below_alloc | apply pw_below_drewN | apply below_drew1) | exact HB.out)⟩

/-- THE ONE PURE STATEMENT of calamuslaw06_LocaReads: yours. -/
def calamuslaw06_LocaReads.Pure : Prop := ∀ (l0 : List Int) (a1 : Bool) (a2 : Int), l0.length ≤ maxLen → l0.length * 1 ≤ 140737488351232 → (∀ x ∈ l0, (Lit.int .u8 x).wf = true) → (Lit.int .i64 a2).wf = true → ∃ k, calamuslaw06_LocaReads.f k l0 a1 a2 = some true
theorem calamuslaw06_LocaReads.walk (P : calamuslaw06_LocaReads.Pure) (a0 : Option Addr) (len0 cap0 : Nat) (z0 : List Int) (a1 : Bool) (a2 : Int) (w : World) (w0 : (a0 = none ∧ len0 = 0 ∧ cap0 = 0 ∧ z0 = []) ∨ ∃ x, a0 = some x ∧ len0 ≤ cap0 ∧ cap0 ≤ maxLen ∧ z0.length = cap0 ∧ (∀ i, i < z0.length → w.cell? (x.add i) = some (.int .u8 (z0.getD i 0))) ∧ ∀ n ∈ z0, (Lit.int .u8 n).wf = true) (y0 : len0 * 1 ≤ 140737488351232) (w2 : (Lit.int .i64 a2).wf = true) :
    Calls Try.prog 14 #[.slice a0 len0 cap0, .bool a1, .int .i64 a2] w fun e w' => e = .returned (.bool true) ∧ Below w.heap.size w w' := by
  obtain ⟨l0, rfl, hr0, hm0, hw0, hc0⟩ := ReadsInt.ofRowC w0
  obtain ⟨k, h⟩ := P l0 a1 a2 hm0 y0 hw0 w2
  refine (calamuslaw06_LocaReads.calls k _ _ l0 a1 a2 true w (Kd.C_of_reads (d := (0 : Int)) (h1 := fun _ => rfl) hr0) hc0 h).mono ?_
  rintro e w' ⟨rfl, hd⟩
  exact ⟨rfl, hd⟩

end Go.Proofs.Ytcclmaicdmogjaa.P

-- Written by wip/pr.py over the kit's print
namespace Go.Proofs.Ytcclmaicdmogjaa.P
open Go.RowKit Go.Proofs.YtcclmaicdmogjaaW.PrintWords Go.Proofs.YtcclmaicdmogjaaW.PrintLast Go.Proofs.YtcclmaicdmogjaaW.PrintMore
attribute [local go_sem] max2_int min2_int max_two min_two max_three min_three max_four min_four   -- for this text's walks alone
set_option linter.unusedVariables false
set_option linter.unusedSimpArgs false

/-! ### calamusref02_Put: function 34 -/
def calamusref02_Put.l0 : Nat → List Int → Int → Int → Option (List Int)
  | 0, _, _, _ => none
  | k + 1, x6, x7, x8 => if x8 ≥ 0 then (if 0 ≤ x8 then (if x8 < (x6.length : Int) then (calamusref02_Put.l0 k (x6.set (x8 : Int).toNat ((Int.tmod x7 256) % 256)) (IntKind.u64.wrap (Int.tdiv x7 256)) (wrap64 (x8 - 1))) else (none)) else (none)) else (some x6)
def calamusref02_Put.f (k : Nat) (a0 : Int) (a1 : Int) : Option (List Int) := if 0 ≤ (mx 0 (mn a1 8)) then (if (mx 0 (mn a1 8) : Int).toNat ≤ 281474976710656 then (calamusref02_Put.l0 k (List.replicate (mx 0 (mn a1 8) : Int).toNat 0) (IntKind.u64.wrap (a0)) ((mx 0 (mn a1 8)) - 1)) else (none)) else (none)
theorem calamusref02_Put.mono_l : ∀ k, (∀ y0 y1 y2, LeO (calamusref02_Put.l0 k y0 y1 y2) (calamusref02_Put.l0 (k + 1) y0 y1 y2))
  | 0 => fun _ _ _ r h => by simp [calamusref02_Put.l0] at h
  | k + 1 => by
    have ih0 := calamusref02_Put.mono_l k
    · intro y0 y1 y2
      unfold calamusref02_Put.l0
      repeat' first
      | (with_reducible exact ih0 _ _ _)
      | (with_reducible exact LeO.refl _)
      | (with_reducible exact LeO.none _)
      | (with_reducible refine LeO.ite ?_ ?_)
      | (with_reducible refine LeO.bind ?_ (fun _ => ?_))
      | exact ih0 _ _ _
      | exact LeO.none _
      | refine LeO.ite ?_ ?_
      | refine LeO.bind ?_ (fun _ => ?_)
theorem calamusref02_Put.mono : ∀ a0 a1 k, LeO (calamusref02_Put.f k a0 a1) (calamusref02_Put.f (k + 1) a0 a1) := by
  intro a0 a1 k
  have ih0 := calamusref02_Put.mono_l k
  unfold calamusref02_Put.f
  repeat' first
      | (with_reducible exact ih0 _ _ _)
      | (with_reducible exact LeO.refl _)
      | (with_reducible exact LeO.none _)
      | (with_reducible refine LeO.ite ?_ ?_)
      | (with_reducible refine LeO.bind ?_ (fun _ => ?_))
      | exact ih0 _ _ _
      | exact LeO.none _
      | refine LeO.ite ?_ ?_
      | refine LeO.bind ?_ (fun _ => ?_)
set_option maxHeartbeats 8000000 in
set_option maxRecDepth 100000 in
theorem calamusref02_Put.calls (k : Nat) (a0 : Int) (a1 : Int) (r : List Int) (w : World) (h : calamusref02_Put.f k a0 a1 = some r) :
    Calls Try.prog 34 #[.int .i64 a0, .int .i64 a1] w fun e w' => ∃ v0_ : Value, e = .returned (v0_) ∧ Kd.R (Kd.int .u8) 5 w' w.heap.size (fun _ => True) v0_ r ∧ Below w.heap.size w w' := by
  have HB := Aside0.mk (Below.refl w.heap.size w)
  have H : (if 0 ≤ (mx 0 (mn a1 8)) then (if (mx 0 (mn a1 8) : Int).toNat ≤ 281474976710656 then (calamusref02_Put.l0 k (List.replicate (mx 0 (mn a1 8) : Int).toNat 0) (IntKind.u64.wrap (a0)) ((mx 0 (mn a1 8)) - 1)) else (none)) else (none)) = some r := h
  clear h
  obtain ⟨ji3, hji3⟩ : ∃ j_ : Int, (mn a1 8) = j_ := ⟨_, rfl⟩
  replace H : (if 0 ≤ (mx 0 (ji3)) then (if (mx 0 (ji3) : Int).toNat ≤ 281474976710656 then (calamusref02_Put.l0 k (List.replicate (mx 0 (ji3) : Int).toNat 0) (IntKind.u64.wrap (a0)) ((mx 0 (ji3)) - 1)) else (none)) else (none)) = some r := by first | (rw [hji3] at H; exact H) | (simp only [hji3] at H ⊢; exact H)
  (try (have hji3h : ji3 ≤ 8 := by (rw [← hji3]; unfold mn; (repeat' split) <;> omega)))
  (try (have hji3g : ji3 ≤ 64 := by omega))
  have hji3_ : (if 8 < a1 then 8 else a1) = ji3 := hji3
  obtain ⟨ji4, hji4⟩ : ∃ j_ : Int, (mx 0 (ji3)) = j_ := ⟨_, rfl⟩
  replace H : (if 0 ≤ (ji4) then (if (ji4 : Int).toNat ≤ 281474976710656 then (calamusref02_Put.l0 k (List.replicate (ji4 : Int).toNat 0) (IntKind.u64.wrap (a0)) ((ji4) - 1)) else (none)) else (none)) = some r := by first | (rw [hji4] at H; exact H) | (simp only [hji4] at H ⊢; exact H)
  have hji4_ : (if 0 < (ji3) then (ji3) else 0) = ji4 := hji4
  by_cases c5 : 0 ≤ (ji4)
  · rw [if_pos c5] at H
    have c5b0 := eq_true c5
    have c5b1 : decide (0 ≤ (ji4)) = true := decide_eq_true c5
    clear c5
    by_cases c6 : (ji4 : Int).toNat ≤ 281474976710656
    · rw [if_pos c6] at H
      have c6b0 := eq_true c6
      have c6b1 : decide ((ji4 : Int).toNat ≤ 281474976710656) = true := decide_eq_true c6
      clear c6
      obtain ⟨y148, hy148⟩ : ∃ y_ : List Int, y_ = (List.replicate (ji4 : Int).toNat 0) := ⟨_, rfl⟩
      replace H : (calamusref02_Put.l0 k y148 (IntKind.u64.wrap (a0)) ((ji4) - 1)) = some r := by first | (rw [hy148]; with_reducible exact H) | (have H2_ := (Option.bind_some _ _).symm.trans H; rw [hy148]; with_reducible exact H2_) | (have H2_ := (Option.bind_some _ _).symm.trans H; with_reducible exact H2_) | with_reducible exact H | (rw [hy148]; exact H) | exact H
      have Ny148 := Aside0.mk hy148
      clear hy148
      have H' := Aside0.mk H
      clear H
      go_enter Try.func34, Try.ntmps34
      go_wp2_with (first | ((with_reducible refine gate_dst (N := 13) rfl ?_); refine Kd.R_make (Kd.int .u8) _ 5 rfl (N := 13) rfl 23 _ _ rfl ji4 rfl rfl Try.underlying23 (.int .u8 0) 1 info5 rfl (by decide) (by omega) 0 (ok := fun _ => True) (okp := fun _ => True) rfl (fun _ hk => hk) trivial (of_decide_eq_true (by first | (with_reducible assumption) | assumption)) (Nat.le_trans (Nat.mul_le_mul_right _ (of_decide_eq_true (by first | (with_reducible assumption) | assumption) : ji4.toNat ≤ 281474976710656)) (by omega)) (Below.refl _ _) (Nat.le_refl _) ?_; intro v149 w7 ho8 hb hg_ hnew_; clear hg_ hnew_; (first | rw [← Ny148.out] at ho8 | (simp only [Int.reduceToNat] at ho8; rw [← Ny148.out] at ho8)); have n0_ := Aside0.mk (Kd.R_lower ho8 (below_size (by repeat (first | (with_reducible first | exact HB.out | apply below_alloc | apply pw_below_drewN | apply below_drew1) | exact HB.out)))); have n1_ := Aside0.mk (below_step (by repeat (first | (with_reducible first | exact HB.out | apply below_alloc | apply pw_below_drewN | apply below_drew1) | exact HB.out)) hb); clear HB; have HO150 := n0_; have HB := n1_; clear n0_ n1_; clear hb ho8))
      go_loopg [7, 8] k (fun kq v7 v8 w' => ∃ (x6_1 : List Int) (x7_1 : Int) (x8_1 : Int), v7 = .int .u64 x7_1 ∧ v8 = .int .i64 x8_1 ∧ Aside0 (calamusref02_Put.l0 kq x6_1 x7_1 x8_1 = some r) ∧ Aside0 (kq ≤ k) ∧ Aside0 (Kd.R (Kd.int .u8) 5 w' w.heap.size (fun _ => True) v149 x6_1) ∧ Aside0 (Below w.heap.size w w'))
      case atStart => exact ⟨(y148), (IntKind.u64.wrap (a0)), ((ji4) - 1), (by first | rfl | (simp; done) | (simp [*]; done)), (by first | rfl | (simp; done) | (simp only [← hji4] <;> (first | rfl | simp)) | (simp [*]; done)), H', ⟨Nat.le_refl _⟩, ⟨by (with_reducible repeat (first | apply Kd.R_alloc | apply Kd.R_drewN | apply Kd.R_drew)); exact HO150.out⟩, ⟨by repeat (first | (with_reducible first | exact HB.out | apply below_alloc | apply pw_below_drewN | apply below_drew1) | exact HB.out)⟩⟩
      case round =>
        clear H'
        try clear p2
        try clear c3
        try clear c5
        try clear c5b0
        try clear c5b1
        try clear c6
        try clear c6b0
        try clear c6b1
        obtain ⟨x6_1, x7_1, x8_1, rfl, rfl, HA, HK1, HO_6, HB⟩ := hrel
        cases gk with
        | zero => exact absurd HA.out (by simp [calamusref02_Put.l0])
        | succ k1 =>
          have H := HA.out
          clear HA
          simp only [calamusref02_Put.l0] at H
          by_cases c9 : x8_1 ≥ 0
          · rw [if_pos c9] at H
            have c9b0 : decide (0 ≤ x8_1) = true := decide_eq_true c9
            clear c9
            by_cases c10 : 0 ≤ x8_1
            · rw [if_pos c10] at H
              have c10b0 : decide (0 ≤ x8_1) = true := decide_eq_true c10
              clear c10
              by_cases c11 : x8_1 < (x6_1.length : Int)
              · rw [if_pos c11] at H
                have c11b0 : decide (x8_1 < (x6_1.length : Int)) = true := decide_eq_true c11
                clear c11
                obtain ⟨y151, hy151⟩ : ∃ y_ : List Int, y_ = (x6_1.set (x8_1 : Int).toNat ((Int.tmod x7_1 256) % 256)) := ⟨_, rfl⟩
                replace H : (calamusref02_Put.l0 k1 y151 (IntKind.u64.wrap (Int.tdiv x7_1 256)) (wrap64 (x8_1 - 1))) = some r := by first | (rw [hy151]; with_reducible exact H) | (have H2_ := (Option.bind_some _ _).symm.trans H; rw [hy151]; with_reducible exact H2_) | (have H2_ := (Option.bind_some _ _).symm.trans H; with_reducible exact H2_) | with_reducible exact H | (rw [hy151]; exact H) | exact H
                have Ny151 := Aside0.mk hy151
                clear hy151
                have H' := Aside0.mk H
                clear H
                have p12 : 0 ≤ (x8_1 : Int) := of_decide_eq_true (by first | (with_reducible assumption) | assumption)
                have q12 : (x8_1 : Int) < ((x6_1.length : Int) : Int) := of_decide_eq_true (by first | (with_reducible assumption) | assumption)
                obtain ⟨go12, co12, eo12, gb12, gl12, cl12, HG12⟩ := Kd.R_form HO_6.out (by omega)
                (first | cases eo12 | (injection eo12 with ea_ en_ ec_; (first | subst ea_ | (injection ea_ with ea_; subst ea_)); subst ec_; clear en_))
                have GB12 := Aside0.mk gb12
                have GG12 := Aside0.mk HG12
                clear gb12 gl12 HG12
                obtain ⟨hx12_0, hf12_0⟩ := Kd.R_celln 0 HO_6.out (x8_1 : Int) p12 q12
                replace p12 := eq_true p12
                replace q12 := eq_true q12
                have HP13 := Kd.R_putg HO_6.out (x8_1 : Int) ((Int.tmod x7_1 256) % 256)
                go_wp2_with (first | ((with_reducible refine gate_store (t := 5) (p := 27) rfl ?_); refine store_event (t := 5) (p := 27) (v := ?vo_w14) (w1 := (wr.setCell ⟨go12, (x8_1 : Int).toNat, none⟩ (.int .u8 ((Int.tmod x7_1 256) % 256)))) ?hg ?ho ?hn ?hr ?_; (case ho => rfl); (case hg => rfl); (case hn => rfl); (case hr => first | (go_simp; done) | (go_simp; rfl)); intro w14 hw; have hg : wr.grownBy w14 (some go12) := (by rw [hw]; exact HP13.2); have hp_ : Kd.R (Kd.int .u8) 5 w14 w.heap.size (fun _ => True) (.slice (some ⟨go12, 0, none⟩) x6_1.length co12) y151 := (by rw [hw, Ny151.out]; exact HP13.1); clear HP13; have n0_ := Aside0.mk (hp_); have n1_ := Aside0.mk ((by rw [hw]; exact below_set (HB.out) GB12.out : Below w.heap.size w w14)); clear HO_6; clear HB; have HO_6 := n0_; have HB := n1_; clear n0_ n1_; clear hg hw hp_))
                go_roundg k1
                case measure => have := HK1.out; omega
                case rel => exact ⟨(y151), (IntKind.u64.wrap (Int.tdiv x7_1 256)), (wrap64 (x8_1 - 1)), (by first | rfl | (simp; done) | (simp [*]; done)), (by first | rfl | (simp; done) | (simp [*]; done)), H', ⟨by have := HK1.out; omega⟩, ⟨by (with_reducible repeat (first | apply Kd.R_alloc | apply Kd.R_drewN | apply Kd.R_drew)); exact HO_6.out⟩, ⟨by repeat (first | (with_reducible first | exact HB.out | apply below_alloc | apply pw_below_drewN | apply below_drew1) | exact HB.out)⟩⟩
              · rw [if_neg c11] at H
                exact absurd H (by simp)
            · rw [if_neg c10] at H
              exact absurd H (by simp)
          · rw [if_neg c9] at H
            have c9b0 : decide (0 ≤ x8_1) = false := decide_eq_false c9
            clear c9
            obtain rfl := Option.some.inj H
            go_wp2
            go_ret
            exact ⟨_, by first | rfl | (simp [errW_none, errW_some] <;> rfl) | (simp only [← hji3, ← hji4]; first | rfl | (simp [errW_none, errW_some] <;> rfl)) | (simp [*, errW_none, errW_some] <;> rfl), by (with_reducible repeat (first | apply Kd.R_alloc | apply Kd.R_drewN | apply Kd.R_drew)); exact HO_6.out, by repeat (first | (with_reducible first | exact HB.out | apply below_alloc | apply pw_below_drewN | apply below_drew1) | exact HB.out)⟩
    · rw [if_neg c6] at H
      exact absurd H (by simp)
  · rw [if_neg c5] at H
    exact absurd H (by simp)

end Go.Proofs.Ytcclmaicdmogjaa.P

-- Written by wip/pr.py over the kit's print
namespace Go.Proofs.Ytcclmaicdmogjaa.P
open Go.RowKit Go.Proofs.YtcclmaicdmogjaaW.PrintWords Go.Proofs.YtcclmaicdmogjaaW.PrintLast Go.Proofs.YtcclmaicdmogjaaW.PrintMore
attribute [local go_sem] max2_int min2_int max_two min_two max_three min_three max_four min_four   -- for this text's walks alone
set_option linter.unusedVariables false
set_option linter.unusedSimpArgs false

/-! ### calamusref06_Write: function 55 -/
mutual
def calamusref06_Write.l0 : Nat → List Int → Bool → List Int → Int → Int → Option (List Int × Int)
  | 0, _, _, _, _, _ => none
  | k + 1, x0, x1, x11, x12, x13 => if x13 < x12 then (if 0 ≤ x13 then (if x13 < (x11.length : Int) then (if (rd x11 x13) < 0 then (some (([] : List Int), 12)) else (if x13 > 0 then (if 0 ≤ (wrap64 (x13 - 1)) then (if (wrap64 (x13 - 1)) < (x0.length : Int) then (if (rd x11 x13) < (rd x0 (wrap64 (x13 - 1))) then (some (([] : List Int), 12)) else (calamusref06_Write.l0 k x0 x1 x11 x12 (wrap64 (x13 + 1)))) else (none)) else (none)) else (calamusref06_Write.l0 k x0 x1 x11 x12 (wrap64 (x13 + 1))))) else (none)) else (none)) else (calamusref06_Write.l1 k x1 ([] : List Int) x0 (x0.length : Int) 0)
def calamusref06_Write.l1 : Nat → Bool → List Int → List Int → Int → Int → Option (List Int × Int)
  | 0, _, _, _, _, _ => none
  | k + 1, x1, x8, x34, x35, x36 => if x36 < x35 then (if 0 ≤ x36 then (if x36 < (x34.length : Int) then (if x1 = true then (if (rd x34 x36) > 4294967295 then (calamusref06_Write.j2 k x1 x8 (rd x34 x36) x34 x35 x36 true) else (calamusref06_Write.j2 k x1 x8 (rd x34 x36) x34 x35 x36 false)) else (if (Int.tmod (rd x34 x36) 2) = 0 then (calamusref06_Write.j2 k x1 x8 (rd x34 x36) x34 x35 x36 (decide ((rd x34 x36) > 131070))) else (calamusref06_Write.j2 k x1 x8 (rd x34 x36) x34 x35 x36 true))) else (none)) else (none)) else (some (x8, 0))
def calamusref06_Write.j2 : Nat → Bool → List Int → Int → List Int → Int → Int → Bool → Option (List Int × Int)
  | 0, _, _, _, _, _, _, _ => none
  | k + 1, x1, x8, x10, x34, x35, x36, x57 => if x57 = true then (some (([] : List Int), 6)) else (if x1 = true then ((calamusref02_Put.f k x10 4).bind fun t459 => (if x8.length + t459.length < 140737488355328 then (calamusref06_Write.l1 k x1 (x8 ++ t459) x34 x35 (wrap64 (x36 + 1))) else (none))) else ((calamusref02_Put.f k (wrap64 (Int.tdiv x10 2)) 2).bind fun t465 => (if x8.length + t465.length < 140737488355328 then (calamusref06_Write.l1 k x1 (x8 ++ t465) x34 x35 (wrap64 (x36 + 1))) else (none))))
end
def calamusref06_Write.f (k : Nat) (l0 : List Int) (a1 : Bool) : Option (List Int × Int) := calamusref06_Write.l0 k l0 a1 l0 (l0.length : Int) 0
theorem calamusref06_Write.mono_l : ∀ k, (∀ y0 y1 y2 y3 y4, LeO (calamusref06_Write.l0 k y0 y1 y2 y3 y4) (calamusref06_Write.l0 (k + 1) y0 y1 y2 y3 y4)) ∧ (∀ y0 y1 y2 y3 y4, LeO (calamusref06_Write.l1 k y0 y1 y2 y3 y4) (calamusref06_Write.l1 (k + 1) y0 y1 y2 y3 y4)) ∧ (∀ y0 y1 y2 y3 y4 y5 y6, LeO (calamusref06_Write.j2 k y0 y1 y2 y3 y4 y5 y6) (calamusref06_Write.j2 (k + 1) y0 y1 y2 y3 y4 y5 y6))
  | 0 => ⟨fun _ _ _ _ _ r h => by simp [calamusref06_Write.l0] at h, fun _ _ _ _ _ r h => by simp [calamusref06_Write.l1] at h, fun _ _ _ _ _ _ _ r h => by simp [calamusref06_Write.j2] at h⟩
  | k + 1 => by
    obtain ⟨ih0, ih1, ih2⟩ := calamusref06_Write.mono_l k
    refine ⟨?_, ?_, ?_⟩
    · intro y0 y1 y2 y3 y4
      unfold calamusref06_Write.l0
      repeat' first
      | (with_reducible exact ih0 _ _ _ _ _)
      | (with_reducible exact ih1 _ _ _ _ _)
      | (with_reducible exact ih2 _ _ _ _ _ _ _)
      | (with_reducible exact calamusref02_Put.mono _ _ _)
      | (with_reducible exact LeO.refl _)
      | (with_reducible exact LeO.none _)
      | (with_reducible refine LeO.ite ?_ ?_)
      | (with_reducible refine LeO.bind ?_ (fun _ => ?_))
      | exact ih0 _ _ _ _ _
      | exact ih1 _ _ _ _ _
      | exact ih2 _ _ _ _ _ _ _
      | exact calamusref02_Put.mono _ _ _
      | exact LeO.none _
      | refine LeO.ite ?_ ?_
      | refine LeO.bind ?_ (fun _ => ?_)
    · intro y0 y1 y2 y3 y4
      unfold calamusref06_Write.l1
      repeat' first
      | (with_reducible exact ih0 _ _ _ _ _)
      | (with_reducible exact ih1 _ _ _ _ _)
      | (with_reducible exact ih2 _ _ _ _ _ _ _)
      | (with_reducible exact calamusref02_Put.mono _ _ _)
      | (with_reducible exact LeO.refl _)
      | (with_reducible exact LeO.none _)
      | (with_reducible refine LeO.ite ?_ ?_)
      | (with_reducible refine LeO.bind ?_ (fun _ => ?_))
      | exact ih0 _ _ _ _ _
      | exact ih1 _ _ _ _ _
      | exact ih2 _ _ _ _ _ _ _
      | exact calamusref02_Put.mono _ _ _
      | exact LeO.none _
      | refine LeO.ite ?_ ?_
      | refine LeO.bind ?_ (fun _ => ?_)
    · intro y0 y1 y2 y3 y4 y5 y6
      unfold calamusref06_Write.j2
      repeat' first
      | (with_reducible exact ih0 _ _ _ _ _)
      | (with_reducible exact ih1 _ _ _ _ _)
      | (with_reducible exact ih2 _ _ _ _ _ _ _)
      | (with_reducible exact calamusref02_Put.mono _ _ _)
      | (with_reducible exact LeO.refl _)
      | (with_reducible exact LeO.none _)
      | (with_reducible refine LeO.ite ?_ ?_)
      | (with_reducible refine LeO.bind ?_ (fun _ => ?_))
      | exact ih0 _ _ _ _ _
      | exact ih1 _ _ _ _ _
      | exact ih2 _ _ _ _ _ _ _
      | exact calamusref02_Put.mono _ _ _
      | exact LeO.none _
      | refine LeO.ite ?_ ?_
      | refine LeO.bind ?_ (fun _ => ?_)
theorem calamusref06_Write.mono : ∀ a0 a1 k, LeO (calamusref06_Write.f k a0 a1) (calamusref06_Write.f (k + 1) a0 a1) := by
  intro a0 a1 k
  obtain ⟨ih0, ih1, ih2⟩ := calamusref06_Write.mono_l k
  unfold calamusref06_Write.f
  repeat' first
      | (with_reducible exact ih0 _ _ _ _ _)
      | (with_reducible exact ih1 _ _ _ _ _)
      | (with_reducible exact ih2 _ _ _ _ _ _ _)
      | (with_reducible exact calamusref02_Put.mono _ _ _)
      | (with_reducible exact LeO.refl _)
      | (with_reducible exact LeO.none _)
      | (with_reducible refine LeO.ite ?_ ?_)
      | (with_reducible refine LeO.bind ?_ (fun _ => ?_))
      | exact ih0 _ _ _ _ _
      | exact ih1 _ _ _ _ _
      | exact ih2 _ _ _ _ _ _ _
      | exact calamusref02_Put.mono _ _ _
      | exact LeO.none _
      | refine LeO.ite ?_ ?_
      | refine LeO.bind ?_ (fun _ => ?_)
set_option maxHeartbeats 8000000 in
set_option maxRecDepth 100000 in
theorem calamusref06_Write.calls (k : Nat) (A0 : Option Addr) (c0 : Nat) (l0 : List Int) (a1 : Bool) (r1 : List Int) (r2 : Int) (w : World) (hr0 : Kd.C (Kd.int .i64) w A0 l0.length l0) (hc0 : l0.length ≤ c0) (h : calamusref06_Write.f k l0 a1 = some (r1, r2)) :
    Calls Try.prog 55 #[.slice A0 l0.length c0, .bool a1] w fun e w' => ∃ v0_ : Value, e = .returned (.tuple #[v0_, .int .i64 r2]) ∧ Kd.R (Kd.int .u8) 5 w' w.heap.size (fun _ => True) v0_ r1 ∧ Below w.heap.size w w' := by
  have HR0 := Aside0.mk hr0
  have HC0 := Aside0.mk hc0
  clear hr0 hc0
  have HB := Aside0.mk (Below.refl w.heap.size w)
  have H : (calamusref06_Write.l0 k l0 a1 l0 (l0.length : Int) 0) = some (r1, r2) := h
  clear h
  have H' := Aside0.mk H
  clear H
  go_enter Try.func55, Try.ntmps55
  go_wp2
  go_loopg [13] k (fun kq v13 w' => ∃ (x13_1 : Int), v13 = .int .i64 x13_1 ∧ Aside0 (calamusref06_Write.l0 kq l0 a1 l0 (l0.length : Int) x13_1 = some (r1, r2)) ∧ Aside0 (kq ≤ k) ∧ Aside0 (Below w.heap.size w w'))
  case atStart => exact ⟨(0), (by first | rfl | (simp; done) | (simp [*]; done)), H', ⟨Nat.le_refl _⟩, ⟨by repeat (first | (with_reducible first | exact HB.out | apply below_alloc | apply pw_below_drewN | apply below_drew1) | exact HB.out)⟩⟩
  case round =>
    clear H'
    try clear p2
    obtain ⟨x13_1, rfl, HA, HK1, HB⟩ := hrel
    cases gk with
    | zero => exact absurd HA.out (by simp [calamusref06_Write.l0])
    | succ k1 =>
      have H := HA.out
      clear HA
      simp only [calamusref06_Write.l0] at H
      by_cases c3 : x13_1 < (l0.length : Int)
      · rw [if_pos c3] at H
        have c3b0 : decide (x13_1 < (l0.length : Int)) = true := decide_eq_true c3
        clear c3
        by_cases c4 : 0 ≤ x13_1
        · rw [if_pos c4] at H
          have c4b0 : decide (0 ≤ x13_1) = true := decide_eq_true c4
          clear c4
          by_cases c5 : x13_1 < (l0.length : Int)
          · rw [if_pos c5] at H
            have c5b0 : decide (x13_1 < (l0.length : Int)) = true := decide_eq_true c5
            clear c5
            by_cases c6 : (rd l0 x13_1) < 0
            · rw [if_pos c6] at H
              have c6b0 : decide ((rd l0 x13_1) < 0) = true := decide_eq_true c6
              clear c6
              simp only [Option.some.injEq, Prod.mk.injEq] at H
              obtain ⟨rfl, rfl⟩ := H
              have p456 : 0 ≤ (x13_1 : Int) := of_decide_eq_true (by first | (with_reducible assumption) | assumption)
              have q456 : x13_1 < (l0.length : Int) := of_decide_eq_true (by first | (with_reducible assumption) | assumption)
              obtain ⟨ad456, e456, hx456_0⟩ := Kd.at_int HR0.out x13_1 p456 q456
              cases e456
              replace hx456_0 := (HB.out.cell (World.block_lt_of_cell? w _ hx456_0)).trans hx456_0
              replace p456 := eq_true p456
              replace q456 := eq_true q456
              go_wp2
              go_ret2
              exact ⟨_, by first | rfl | (simp [errW_none, errW_some] <;> rfl) | (simp [*, errW_none, errW_some] <;> rfl), by first | exact Kd.R_nil _ _ _ _ _ | exact Kd.N_nil _ _ _ _ _ | exact Kd.V_nil _ _ _ _ _ | exact Kd.Q_nil _ _ _ _ _ | exact Kd.S_nil _ _ _ _ _, by repeat (first | (with_reducible first | exact HB.out | apply below_alloc | apply pw_below_drewN | apply below_drew1) | exact HB.out)⟩
            · rw [if_neg c6] at H
              have c6b0 : decide ((rd l0 x13_1) < 0) = false := decide_eq_false c6
              clear c6
              by_cases c7 : x13_1 > 0
              · rw [if_pos c7] at H
                have c7b0 : decide (0 < x13_1) = true := decide_eq_true c7
                clear c7
                obtain ⟨ji8, hji8⟩ : ∃ j_ : Int, (wrap64 (x13_1 - 1)) = j_ := ⟨_, rfl⟩
                replace H : (if 0 ≤ (ji8) then (if (ji8) < (l0.length : Int) then (if (rd l0 x13_1) < (rd l0 (ji8)) then (some (([] : List Int), 12)) else (calamusref06_Write.l0 k1 l0 a1 l0 (l0.length : Int) (wrap64 (x13_1 + 1)))) else (none)) else (none)) = some (r1, r2) := by first | (rw [hji8] at H; exact H) | (simp only [hji8] at H ⊢; exact H)
                have hji8w : (IntKind.i64.wrap (x13_1 - 1)) = ji8 := (i64_w _).trans hji8
                by_cases c9 : 0 ≤ (ji8)
                · rw [if_pos c9] at H
                  have c9b0 : decide (0 ≤ (ji8)) = true := decide_eq_true c9
                  clear c9
                  by_cases c10 : (ji8) < (l0.length : Int)
                  · rw [if_pos c10] at H
                    have c10b0 : decide ((ji8) < (l0.length : Int)) = true := decide_eq_true c10
                    clear c10
                    by_cases c11 : (rd l0 x13_1) < (rd l0 (ji8))
                    · rw [if_pos c11] at H
                      have c11b0 : decide ((rd l0 x13_1) < (rd l0 (ji8))) = true := decide_eq_true c11
                      clear c11
                      simp only [Option.some.injEq, Prod.mk.injEq] at H
                      obtain ⟨rfl, rfl⟩ := H
                      have p456 : 0 ≤ (x13_1 : Int) := of_decide_eq_true (by first | (with_reducible assumption) | assumption)
                      have q456 : x13_1 < (l0.length : Int) := of_decide_eq_true (by first | (with_reducible assumption) | assumption)
                      obtain ⟨ad456, e456, hx456_0⟩ := Kd.at_int HR0.out x13_1 p456 q456
                      cases e456
                      replace hx456_0 := (HB.out.cell (World.block_lt_of_cell? w _ hx456_0)).trans hx456_0
                      replace p456 := eq_true p456
                      replace q456 := eq_true q456
                      have p457 : 0 ≤ ((ji8) : Int) := of_decide_eq_true (by first | (with_reducible assumption) | assumption)
                      have q457 : (ji8) < (l0.length : Int) := of_decide_eq_true (by first | (with_reducible assumption) | assumption)
                      obtain ⟨ad457, e457, hx457_0⟩ := Kd.at_int HR0.out (ji8) p457 q457
                      obtain rfl : ad456 = ad457 := (by injection e457)
                      replace hx457_0 := (HB.out.cell (World.block_lt_of_cell? w _ hx457_0)).trans hx457_0
                      replace p457 := eq_true p457
                      replace q457 := eq_true q457
                      go_wp2
                      go_ret2
                      exact ⟨_, by first | rfl | (simp [errW_none, errW_some] <;> rfl) | (simp only [← hji8]; first | rfl | (simp [errW_none, errW_some] <;> rfl)) | (simp [*, errW_none, errW_some] <;> rfl), by first | exact Kd.R_nil _ _ _ _ _ | exact Kd.N_nil _ _ _ _ _ | exact Kd.V_nil _ _ _ _ _ | exact Kd.Q_nil _ _ _ _ _ | exact Kd.S_nil _ _ _ _ _, by repeat (first | (with_reducible first | exact HB.out | apply below_alloc | apply pw_below_drewN | apply below_drew1) | exact HB.out)⟩
                    · rw [if_neg c11] at H
                      have c11b0 : decide ((rd l0 x13_1) < (rd l0 (ji8))) = false := decide_eq_false c11
                      clear c11
                      have H' := Aside0.mk H
                      clear H
                      have p456 : 0 ≤ (x13_1 : Int) := of_decide_eq_true (by first | (with_reducible assumption) | assumption)
                      have q456 : x13_1 < (l0.length : Int) := of_decide_eq_true (by first | (with_reducible assumption) | assumption)
                      obtain ⟨ad456, e456, hx456_0⟩ := Kd.at_int HR0.out x13_1 p456 q456
                      cases e456
                      replace hx456_0 := (HB.out.cell (World.block_lt_of_cell? w _ hx456_0)).trans hx456_0
                      replace p456 := eq_true p456
                      replace q456 := eq_true q456
                      have p457 : 0 ≤ ((ji8) : Int) := of_decide_eq_true (by first | (with_reducible assumption) | assumption)
                      have q457 : (ji8) < (l0.length : Int) := of_decide_eq_true (by first | (with_reducible assumption) | assumption)
                      obtain ⟨ad457, e457, hx457_0⟩ := Kd.at_int HR0.out (ji8) p457 q457
                      obtain rfl : ad456 = ad457 := (by injection e457)
                      replace hx457_0 := (HB.out.cell (World.block_lt_of_cell? w _ hx457_0)).trans hx457_0
                      replace p457 := eq_true p457
                      replace q457 := eq_true q457
                      go_wp2
                      go_roundg k1
                      case measure => have := HK1.out; omega
                      case rel => exact ⟨(wrap64 (x13_1 + 1)), (by first | rfl | (simp; done) | (simp [*]; done)), H', ⟨by have := HK1.out; omega⟩, ⟨by repeat (first | (with_reducible first | exact HB.out | apply below_alloc | apply pw_below_drewN | apply below_drew1) | exact HB.out)⟩⟩
                  · rw [if_neg c10] at H
                    exact absurd H (by simp)
                · rw [if_neg c9] at H
                  exact absurd H (by simp)
              · rw [if_neg c7] at H
                have c7b0 : decide (0 < x13_1) = false := decide_eq_false c7
                clear c7
                have H' := Aside0.mk H
                clear H
                have p456 : 0 ≤ (x13_1 : Int) := of_decide_eq_true (by first | (with_reducible assumption) | assumption)
                have q456 : x13_1 < (l0.length : Int) := of_decide_eq_true (by first | (with_reducible assumption) | assumption)
                obtain ⟨ad456, e456, hx456_0⟩ := Kd.at_int HR0.out x13_1 p456 q456
                cases e456
                replace hx456_0 := (HB.out.cell (World.block_lt_of_cell? w _ hx456_0)).trans hx456_0
                replace p456 := eq_true p456
                replace q456 := eq_true q456
                go_wp2
                go_roundg k1
                case measure => have := HK1.out; omega
                case rel => exact ⟨(wrap64 (x13_1 + 1)), (by first | rfl | (simp; done) | (simp [*]; done)), H', ⟨by have := HK1.out; omega⟩, ⟨by repeat (first | (with_reducible first | exact HB.out | apply below_alloc | apply pw_below_drewN | apply below_drew1) | exact HB.out)⟩⟩
          · rw [if_neg c5] at H
            exact absurd H (by simp)
        · rw [if_neg c4] at H
          exact absurd H (by simp)
      · rw [if_neg c3] at H
        have c3b0 : decide (x13_1 < (l0.length : Int)) = false := decide_eq_false c3
        clear c3
        have H' := Aside0.mk H
        clear H
        go_wp2
        go_loopg [8, 36] k1 (fun kq v8 v36 w' => ∃ (x8_2 : List Int) (x36_2 : Int), v36 = .int .i64 x36_2 ∧ Aside0 (calamusref06_Write.l1 kq a1 x8_2 l0 (l0.length : Int) x36_2 = some (r1, r2)) ∧ Aside0 (kq ≤ k1) ∧ Aside0 (Kd.R (Kd.int .u8) 5 w' w.heap.size (fun _ => True) v8 x8_2) ∧ Aside0 (Below w.heap.size w w'))
        case atStart => exact ⟨(([] : List Int)), (0), (by first | rfl | (simp; done) | (simp [*]; done)), H', ⟨Nat.le_refl _⟩, ⟨by first | exact Kd.R_nil _ _ _ _ _ | exact Kd.N_nil _ _ _ _ _ | exact Kd.V_nil _ _ _ _ _ | exact Kd.Q_nil _ _ _ _ _ | exact Kd.S_nil _ _ _ _ _⟩, ⟨by repeat (first | (with_reducible first | exact HB.out | apply below_alloc | apply pw_below_drewN | apply below_drew1) | exact HB.out)⟩⟩
        case round =>
          clear H'
          try clear c1
          try clear p2
          try clear c3
          try clear c3b0
          try clear c4
          try clear c4b0
          try clear p4
          try clear q4
          try clear hx4
          try clear c5
          try clear c5b0
          try clear c6
          try clear c6b0
          try clear p6
          try clear c7
          try clear c7b0
          try clear c9
          try clear c9b0
          try clear c10
          try clear c10b0
          try clear c11
          try clear c11b0
          try clear hx456_0
          try clear hx457_0
          try clear p2
          try clear p456
          try clear p457
          try clear q456
          try clear q457
          obtain ⟨x8_2, x36_2, rfl, HA, HK2, HO_8, HB⟩ := hrel
          cases gk with
          | zero => exact absurd HA.out (by simp [calamusref06_Write.l1])
          | succ k2 =>
            have H := HA.out
            clear HA
            simp only [calamusref06_Write.l1] at H
            by_cases c12 : x36_2 < (l0.length : Int)
            · rw [if_pos c12] at H
              have c12b0 : decide (x36_2 < (l0.length : Int)) = true := decide_eq_true c12
              clear c12
              by_cases c13 : 0 ≤ x36_2
              · rw [if_pos c13] at H
                have c13b0 : decide (0 ≤ x36_2) = true := decide_eq_true c13
                clear c13
                by_cases c14 : x36_2 < (l0.length : Int)
                · rw [if_pos c14] at H
                  have c14b0 : decide (x36_2 < (l0.length : Int)) = true := decide_eq_true c14
                  clear c14
                  have HC15 := Aside0.mk H
                  clear H
                  have p458 : 0 ≤ (x36_2 : Int) := of_decide_eq_true (by first | (with_reducible assumption) | assumption)
                  have q458 : x36_2 < (l0.length : Int) := of_decide_eq_true (by first | (with_reducible assumption) | assumption)
                  obtain ⟨ad458, e458, hx458_0⟩ := Kd.at_int HR0.out x36_2 p458 q458
                  cases e458
                  replace hx458_0 := (HB.out.cell (World.block_lt_of_cell? w _ hx458_0)).trans hx458_0
                  replace p458 := eq_true p458
                  replace q458 := eq_true q458
                  go_upto_region 11 with (fail)
                  go_cut [57] (fun v57 wc => ∃ (kq : Nat) (x57_14 : Bool), v57 = .bool x57_14 ∧ Aside0 (calamusref06_Write.j2 kq a1 x8_2 (rd l0 x36_2) l0 (l0.length : Int) x36_2 x57_14 = some (r1, r2)) ∧ Aside0 (kq ≤ k2) ∧ Aside0 (Kd.R (Kd.int .u8) 5 wc w.heap.size (fun _ => True) u8 x8_2) ∧ Aside0 (Below w.heap.size w wc))
                  case first =>
                    have H := HC15.out
                    clear HC15
                    by_cases c16 : a1 = true
                    · subst c16
                      have H1 : (if (rd l0 x36_2) > 4294967295 then (calamusref06_Write.j2 k2 true x8_2 (rd l0 x36_2) l0 (l0.length : Int) x36_2 true) else (calamusref06_Write.j2 k2 true x8_2 (rd l0 x36_2) l0 (l0.length : Int) x36_2 false)) = some (r1, r2) := by rw [if_pos rfl] at H; exact H
                      clear H
                      have H := H1
                      clear H1
                      by_cases c17 : (rd l0 x36_2) > 4294967295
                      · rw [if_pos c17] at H
                        have c17b0 : decide (4294967295 < (rd l0 x36_2)) = true := decide_eq_true c17
                        clear c17
                        (first | rw [c17b0] | (simp only [i64_w, i32_w]; rw [c17b0]) | skip)
                        have H' := Aside0.mk H
                        clear H
                        go_wp2
                        go_meet
                        case rel => exact ⟨_, (true), (by first | rfl | (simp; done) | (simp [*]; done)), H', ⟨by have := HK1.out; have := HK2.out; first | omega | exact Nat.le_refl _⟩, ⟨by (with_reducible repeat (first | apply Kd.R_alloc | apply Kd.R_drewN | apply Kd.R_drew)); exact HO_8.out⟩, ⟨by repeat (first | (with_reducible first | exact HB.out | apply below_alloc | apply pw_below_drewN | apply below_drew1) | exact HB.out)⟩⟩
                      · rw [if_neg c17] at H
                        have c17b0 : decide (4294967295 < (rd l0 x36_2)) = false := decide_eq_false c17
                        clear c17
                        (first | rw [c17b0] | (simp only [i64_w, i32_w]; rw [c17b0]) | skip)
                        have H' := Aside0.mk H
                        clear H
                        go_wp2
                        go_meet
                        case rel => exact ⟨_, (false), (by first | rfl | (simp; done) | (simp [*]; done)), H', ⟨by have := HK1.out; have := HK2.out; first | omega | exact Nat.le_refl _⟩, ⟨by (with_reducible repeat (first | apply Kd.R_alloc | apply Kd.R_drewN | apply Kd.R_drew)); exact HO_8.out⟩, ⟨by repeat (first | (with_reducible first | exact HB.out | apply below_alloc | apply pw_below_drewN | apply below_drew1) | exact HB.out)⟩⟩
                    · replace c16 := Bool.eq_false_iff.mpr c16
                      subst c16
                      have H1 : (if (Int.tmod (rd l0 x36_2) 2) = 0 then (calamusref06_Write.j2 k2 false x8_2 (rd l0 x36_2) l0 (l0.length : Int) x36_2 (decide ((rd l0 x36_2) > 131070))) else (calamusref06_Write.j2 k2 false x8_2 (rd l0 x36_2) l0 (l0.length : Int) x36_2 true)) = some (r1, r2) := by rw [if_neg (show ¬ (false = true) by decide)] at H; exact H
                      clear H
                      have H := H1
                      clear H1
                      by_cases c18 : (Int.tmod (rd l0 x36_2) 2) = 0
                      · rw [if_pos c18] at H
                        have c18b0 : ((Int.tmod (rd l0 x36_2) 2) == 0) = true := beq_iff_eq.mpr c18
                        have c18b1 : ((Int.tmod (rd l0 x36_2) 2) != 0) = false := bne_eq_false_iff_eq.mpr c18
                        clear c18
                        have H' := Aside0.mk H
                        clear H
                        go_wp2
                        go_meet
                        case rel => exact ⟨_, (decide ((rd l0 x36_2) > 131070)), (by first | rfl | (simp; done) | (simp [*]; done)), H', ⟨by have := HK1.out; have := HK2.out; first | omega | exact Nat.le_refl _⟩, ⟨by (with_reducible repeat (first | apply Kd.R_alloc | apply Kd.R_drewN | apply Kd.R_drew)); exact HO_8.out⟩, ⟨by repeat (first | (with_reducible first | exact HB.out | apply below_alloc | apply pw_below_drewN | apply below_drew1) | exact HB.out)⟩⟩
                      · rw [if_neg c18] at H
                        have c18b0 : ((Int.tmod (rd l0 x36_2) 2) == 0) = false := beq_eq_false_iff_ne.mpr c18
                        have c18b1 : ((Int.tmod (rd l0 x36_2) 2) != 0) = true := bne_iff_ne.mpr c18
                        have H' := Aside0.mk H
                        clear H
                        go_wp2
                        go_meet
                        case rel => exact ⟨_, (true), (by first | rfl | (simp; done) | (simp [*]; done)), H', ⟨by have := HK1.out; have := HK2.out; first | omega | exact Nat.le_refl _⟩, ⟨by (with_reducible repeat (first | apply Kd.R_alloc | apply Kd.R_drewN | apply Kd.R_drew)); exact HO_8.out⟩, ⟨by repeat (first | (with_reducible first | exact HB.out | apply below_alloc | apply pw_below_drewN | apply below_drew1) | exact HB.out)⟩⟩
                  case rest =>
                    clear HC15
                    try clear c1
                    try clear p2
                    try clear c3
                    try clear c3b0
                    try clear c4
                    try clear c4b0
                    try clear p4
                    try clear q4
                    try clear hx4
                    try clear c5
                    try clear c5b0
                    try clear c6
                    try clear c6b0
                    try clear p6
                    try clear c7
                    try clear c7b0
                    try clear c9
                    try clear c9b0
                    try clear c10
                    try clear c10b0
                    try clear c11
                    try clear c11b0
                    try clear c12
                    try clear c12b0
                    try clear c13
                    try clear c13b0
                    try clear c14
                    try clear c14b0
                    try clear c16
                    try clear c17
                    try clear c17b0
                    try clear c18
                    try clear c18b0
                    try clear c18b1
                    try clear hx456_0
                    try clear hx457_0
                    try clear hx458_0
                    try clear p2
                    try clear p4
                    try clear p456
                    try clear p457
                    try clear p458
                    try clear p6
                    try clear q4
                    try clear q456
                    try clear q457
                    try clear q458
                    obtain ⟨kq, x57_14, rfl, HA, HJ14, HO_8, HB⟩ := hcut
                    cases kq with
                    | zero => exact absurd HA.out (by simp [calamusref06_Write.j2])
                    | succ kj14 =>
                      have H := HA.out
                      clear HA
                      simp only [calamusref06_Write.j2] at H
                      by_cases c19 : x57_14 = true
                      · subst c19
                        have H1 : (some (([] : List Int), 6)) = some (r1, r2) := by rw [if_pos rfl] at H; exact H
                        clear H
                        have H := H1
                        clear H1
                        simp only [Option.some.injEq, Prod.mk.injEq] at H
                        obtain ⟨rfl, rfl⟩ := H
                        go_wp2
                        go_ret2
                        exact ⟨_, by first | rfl | (simp [errW_none, errW_some] <;> rfl) | (simp [*, errW_none, errW_some] <;> rfl), by first | exact Kd.R_nil _ _ _ _ _ | exact Kd.N_nil _ _ _ _ _ | exact Kd.V_nil _ _ _ _ _ | exact Kd.Q_nil _ _ _ _ _ | exact Kd.S_nil _ _ _ _ _, by repeat (first | (with_reducible first | exact HB.out | apply below_alloc | apply pw_below_drewN | apply below_drew1) | exact HB.out)⟩
                      · replace c19 := Bool.eq_false_iff.mpr c19
                        subst c19
                        have H1 : (if a1 = true then ((calamusref02_Put.f kj14 (rd l0 x36_2) 4).bind fun t459 => (if x8_2.length + t459.length < 140737488355328 then (calamusref06_Write.l1 kj14 a1 (x8_2 ++ t459) l0 (l0.length : Int) (wrap64 (x36_2 + 1))) else (none))) else ((calamusref02_Put.f kj14 (wrap64 (Int.tdiv (rd l0 x36_2) 2)) 2).bind fun t465 => (if x8_2.length + t465.length < 140737488355328 then (calamusref06_Write.l1 kj14 a1 (x8_2 ++ t465) l0 (l0.length : Int) (wrap64 (x36_2 + 1))) else (none)))) = some (r1, r2) := by rw [if_neg (show ¬ (false = true) by decide)] at H; exact H
                        clear H
                        have H := H1
                        clear H1
                        by_cases c20 : a1 = true
                        · subst c20
                          have H1 : ((calamusref02_Put.f kj14 (rd l0 x36_2) 4).bind fun t459 => (if x8_2.length + t459.length < 140737488355328 then (calamusref06_Write.l1 kj14 true (x8_2 ++ t459) l0 (l0.length : Int) (wrap64 (x36_2 + 1))) else (none))) = some (r1, r2) := by rw [if_pos rfl] at H; exact H
                          clear H
                          have H := H1
                          clear H1
                          replace H := Option.bind_eq_some_iff.mp H
                          obtain ⟨t459, A210, H⟩ := H
                          replace H : (if x8_2.length + t459.length < 140737488355328 then (calamusref06_Write.l1 kj14 true (x8_2 ++ t459) l0 (l0.length : Int) (wrap64 (x36_2 + 1))) else (none)) = some (r1, r2) := H
                          have A21 := Aside0.mk A210
                          clear A210
                          by_cases c22 : x8_2.length + t459.length < 140737488355328
                          · rw [if_pos c22] at H
                            have LMc22 := Aside0.mk c22
                            clear c22
                            obtain ⟨y462, hy462⟩ : ∃ y_ : List Int, y_ = (x8_2 ++ t459) := ⟨_, rfl⟩
                            replace H : (calamusref06_Write.l1 kj14 true y462 l0 (l0.length : Int) (wrap64 (x36_2 + 1))) = some (r1, r2) := by first | (rw [hy462]; with_reducible exact H) | (have H2_ := (Option.bind_some _ _).symm.trans H; rw [hy462]; with_reducible exact H2_) | (have H2_ := (Option.bind_some _ _).symm.trans H; with_reducible exact H2_) | with_reducible exact H | (rw [hy462]; exact H) | exact H
                            have Ny462 := Aside0.mk hy462
                            clear hy462
                            have H' := Aside0.mk H
                            clear H
                            go_wp2_with (first | ((with_reducible refine gate_callee (f := 34) rfl ?_); refine goesL_ (some 61) rfl rfl Try.func34 (by kernel_rfl) rfl #[.int .i64 (rd l0 x36_2), .int .i64 4] rfl (by (try simp only [List.map_toArray, List.map_cons, List.map_nil]); first | done | rfl | (simp only [List.length_drop, List.length_take]; rfl)) ?_; (with_reducible refine (calamusref02_Put.calls kj14 (rd l0 x36_2) 4 t459 _ A21.out).mono ?_); rintro e w23 ⟨v460, rfl, ho0, hb⟩; refine ⟨_, rfl, ?_⟩; have n0_ := Aside0.mk (Kd.R_elder' (by (with_reducible repeat (first | apply Kd.R_alloc | apply Kd.R_drewN | apply Kd.R_drew)); exact HO_8.out) (Kd.R_base ho0) hb); have n1_ := Aside0.mk (Kd.R_lower (Kd.R_new' ho0 (Kd.R_lt (by (with_reducible repeat (first | apply Kd.R_alloc | apply Kd.R_drewN | apply Kd.R_drew)); exact HO_8.out))) (below_size (by repeat (first | (with_reducible first | exact HB.out | apply below_alloc | apply pw_below_drewN | apply below_drew1) | exact HB.out)))); have n2_ := Aside0.mk (below_step (by repeat (first | (with_reducible first | exact HB.out | apply below_alloc | apply pw_below_drewN | apply below_drew1) | exact HB.out)) hb); clear HO_8; clear HB; have HO_8 := n0_; have HO461 := n1_; have HB := n2_; clear n0_ n1_ n2_; (try clear hb); (try clear hb2); (try clear hk); (try clear hi); (try clear ho0); obtain ⟨Ao25, co25, eo25⟩ := Kd.R_slice HO461.out; subst eo25) | ((with_reducible refine gate_builtin (b := .append) (xs := #[.tmp 59, .tmp 61]) rfl ?_); at_builtin; refine Kd.R_append_rows (Kd.int .u8) (w0 := w) w.heap.size rfl (.tmp 59) (.tmp 61) 23 5 (.int .u8 0) 1 rfl Try.underlying23 info5 rfl (by decide) (by omega) u8 x8_2 t459 _ _ _ (fun k_ => some k_ ≠ (.slice Ao25 t459.length co25 : Value).ownBlock) (fun _ => False) rfl rfl ?aO ?aR (fun _ _ h => h) (fun _ h => h.elim) ?aF ?aB ?aS ?aL ?_; (case aR => repeat (first | exact (Kd.R_reads' HO461.out).2.2 | (with_reducible refine Kd.C_alloc ?_ _) | (with_reducible refine Kd.C_drewN ?_ _) | (with_reducible refine Kd.C_drew ?_))); (case aB => exact (by repeat (first | (with_reducible first | exact HB.out | apply below_alloc | apply pw_below_drewN | apply below_drew1) | exact HB.out))); (case aF => exact (fun k_ hk => Kd.fresh' (Kd.R_lt (by (with_reducible repeat (first | apply Kd.R_alloc | apply Kd.R_drewN | apply Kd.R_drew)); exact HO461.out)) k_ hk)); (case aO => exact (by (with_reducible repeat (first | apply Kd.R_alloc | apply Kd.R_drewN | apply Kd.R_drew)); exact Kd.R_mono HO_8.out (fun _ hk => hk.2))); (case aS => exact (below_size (by repeat (first | (with_reducible first | exact HB.out | apply below_alloc | apply pw_below_drewN | apply below_drew1) | exact HB.out)))); (case aL => have := LMc22.out; omega); intro v463 w24 ho hb hg hat; rw [← Ny462.out] at ho; have n0_ := Aside0.mk (Kd.R_after (ok := (fun _ => True)) (by (with_reducible repeat (first | apply Kd.R_alloc | apply Kd.R_drewN | apply Kd.R_drew)); exact HO461.out) hg hat); have n1_ := Aside0.mk (hb); have n2_ := Aside0.mk (ho); clear HO461; clear HB; clear HO_8; have HO461 := n0_; have HB := n1_; have HO464 := n2_; clear n0_ n1_ n2_; clear ho hb hg hat))
                            go_roundg kj14
                            case measure => have := HK1.out; have := HK2.out; have := HJ14.out; omega
                            case rel => exact ⟨(y462), (wrap64 (x36_2 + 1)), (by first | rfl | (simp; done) | (simp [*]; done)), H', ⟨by have := HK1.out; have := HK2.out; have := HJ14.out; omega⟩, ⟨by (with_reducible repeat (first | apply Kd.R_alloc | apply Kd.R_drewN | apply Kd.R_drew)); exact Kd.R_mono HO464.out (fun _ hk => trivial)⟩, ⟨by repeat (first | (with_reducible first | exact HB.out | apply below_alloc | apply pw_below_drewN | apply below_drew1) | exact HB.out)⟩⟩
                          · rw [if_neg c22] at H
                            exact absurd H (by simp)
                        · replace c20 := Bool.eq_false_iff.mpr c20
                          subst c20
                          have H1 : ((calamusref02_Put.f kj14 (wrap64 (Int.tdiv (rd l0 x36_2) 2)) 2).bind fun t465 => (if x8_2.length + t465.length < 140737488355328 then (calamusref06_Write.l1 kj14 false (x8_2 ++ t465) l0 (l0.length : Int) (wrap64 (x36_2 + 1))) else (none))) = some (r1, r2) := by rw [if_neg (show ¬ (false = true) by decide)] at H; exact H
                          clear H
                          have H := H1
                          clear H1
                          replace H := Option.bind_eq_some_iff.mp H
                          obtain ⟨t465, A260, H⟩ := H
                          replace H : (if x8_2.length + t465.length < 140737488355328 then (calamusref06_Write.l1 kj14 false (x8_2 ++ t465) l0 (l0.length : Int) (wrap64 (x36_2 + 1))) else (none)) = some (r1, r2) := H
                          have A26 := Aside0.mk A260
                          clear A260
                          by_cases c27 : x8_2.length + t465.length < 140737488355328
                          · rw [if_pos c27] at H
                            have LMc27 := Aside0.mk c27
                            clear c27
                            obtain ⟨y468, hy468⟩ : ∃ y_ : List Int, y_ = (x8_2 ++ t465) := ⟨_, rfl⟩
                            replace H : (calamusref06_Write.l1 kj14 false y468 l0 (l0.length : Int) (wrap64 (x36_2 + 1))) = some (r1, r2) := by first | (rw [hy468]; with_reducible exact H) | (have H2_ := (Option.bind_some _ _).symm.trans H; rw [hy468]; with_reducible exact H2_) | (have H2_ := (Option.bind_some _ _).symm.trans H; with_reducible exact H2_) | with_reducible exact H | (rw [hy468]; exact H) | exact H
                            have Ny468 := Aside0.mk hy468
                            clear hy468
                            have H' := Aside0.mk H
                            clear H
                            go_wp2_with (first | ((with_reducible refine gate_callee (f := 34) rfl ?_); refine goesL_ (some 66) rfl rfl Try.func34 (by kernel_rfl) rfl #[.int .i64 (wrap64 (Int.tdiv (rd l0 x36_2) 2)), .int .i64 2] rfl (by (try simp only [List.map_toArray, List.map_cons, List.map_nil]); first | done | rfl | (simp only [List.length_drop, List.length_take]; rfl)) ?_; (with_reducible refine (calamusref02_Put.calls kj14 (wrap64 (Int.tdiv (rd l0 x36_2) 2)) 2 t465 _ A26.out).mono ?_); rintro e w28 ⟨v466, rfl, ho0, hb⟩; refine ⟨_, rfl, ?_⟩; have n0_ := Aside0.mk (Kd.R_elder' (by (with_reducible repeat (first | apply Kd.R_alloc | apply Kd.R_drewN | apply Kd.R_drew)); exact HO_8.out) (Kd.R_base ho0) hb); have n1_ := Aside0.mk (Kd.R_lower (Kd.R_new' ho0 (Kd.R_lt (by (with_reducible repeat (first | apply Kd.R_alloc | apply Kd.R_drewN | apply Kd.R_drew)); exact HO_8.out))) (below_size (by repeat (first | (with_reducible first | exact HB.out | apply below_alloc | apply pw_below_drewN | apply below_drew1) | exact HB.out)))); have n2_ := Aside0.mk (below_step (by repeat (first | (with_reducible first | exact HB.out | apply below_alloc | apply pw_below_drewN | apply below_drew1) | exact HB.out)) hb); clear HO_8; clear HB; have HO_8 := n0_; have HO467 := n1_; have HB := n2_; clear n0_ n1_ n2_; (try clear hb); (try clear hb2); (try clear hk); (try clear hi); (try clear ho0); obtain ⟨Ao30, co30, eo30⟩ := Kd.R_slice HO467.out; subst eo30) | ((with_reducible refine gate_builtin (b := .append) (xs := #[.tmp 63, .tmp 66]) rfl ?_); at_builtin; refine Kd.R_append_rows (Kd.int .u8) (w0 := w) w.heap.size rfl (.tmp 63) (.tmp 66) 23 5 (.int .u8 0) 1 rfl Try.underlying23 info5 rfl (by decide) (by omega) u8 x8_2 t465 _ _ _ (fun k_ => some k_ ≠ (.slice Ao30 t465.length co30 : Value).ownBlock) (fun _ => False) rfl rfl ?aO ?aR (fun _ _ h => h) (fun _ h => h.elim) ?aF ?aB ?aS ?aL ?_; (case aR => repeat (first | exact (Kd.R_reads' HO467.out).2.2 | (with_reducible refine Kd.C_alloc ?_ _) | (with_reducible refine Kd.C_drewN ?_ _) | (with_reducible refine Kd.C_drew ?_))); (case aB => exact (by repeat (first | (with_reducible first | exact HB.out | apply below_alloc | apply pw_below_drewN | apply below_drew1) | exact HB.out))); (case aF => exact (fun k_ hk => Kd.fresh' (Kd.R_lt (by (with_reducible repeat (first | apply Kd.R_alloc | apply Kd.R_drewN | apply Kd.R_drew)); exact HO467.out)) k_ hk)); (case aO => exact (by (with_reducible repeat (first | apply Kd.R_alloc | apply Kd.R_drewN | apply Kd.R_drew)); exact Kd.R_mono HO_8.out (fun _ hk => hk.2))); (case aS => exact (below_size (by repeat (first | (with_reducible first | exact HB.out | apply below_alloc | apply pw_below_drewN | apply below_drew1) | exact HB.out)))); (case aL => have := LMc27.out; omega); intro v469 w29 ho hb hg hat; rw [← Ny468.out] at ho; have n0_ := Aside0.mk (Kd.R_after (ok := (fun _ => True)) (by (with_reducible repeat (first | apply Kd.R_alloc | apply Kd.R_drewN | apply Kd.R_drew)); exact HO467.out) hg hat); have n1_ := Aside0.mk (hb); have n2_ := Aside0.mk (ho); clear HO467; clear HB; clear HO_8; have HO467 := n0_; have HB := n1_; have HO470 := n2_; clear n0_ n1_ n2_; clear ho hb hg hat))
                            go_roundg kj14
                            case measure => have := HK1.out; have := HK2.out; have := HJ14.out; omega
                            case rel => exact ⟨(y468), (wrap64 (x36_2 + 1)), (by first | rfl | (simp; done) | (simp [*]; done)), H', ⟨by have := HK1.out; have := HK2.out; have := HJ14.out; omega⟩, ⟨by (with_reducible repeat (first | apply Kd.R_alloc | apply Kd.R_drewN | apply Kd.R_drew)); exact Kd.R_mono HO470.out (fun _ hk => trivial)⟩, ⟨by repeat (first | (with_reducible first | exact HB.out | apply below_alloc | apply pw_below_drewN | apply below_drew1) | exact HB.out)⟩⟩
                          · rw [if_neg c27] at H
                            exact absurd H (by simp)
                · rw [if_neg c14] at H
                  exact absurd H (by simp)
              · rw [if_neg c13] at H
                exact absurd H (by simp)
            · rw [if_neg c12] at H
              have c12b0 : decide (x36_2 < (l0.length : Int)) = false := decide_eq_false c12
              clear c12
              simp only [Option.some.injEq, Prod.mk.injEq] at H
              obtain ⟨rfl, rfl⟩ := H
              go_wp2
              go_ret2
              exact ⟨_, by first | rfl | (simp [errW_none, errW_some] <;> rfl) | (simp [*, errW_none, errW_some] <;> rfl), by (with_reducible repeat (first | apply Kd.R_alloc | apply Kd.R_drewN | apply Kd.R_drew)); exact HO_8.out, by repeat (first | (with_reducible first | exact HB.out | apply below_alloc | apply pw_below_drewN | apply below_drew1) | exact HB.out)⟩

end Go.Proofs.Ytcclmaicdmogjaa.P

-- Written by wip/pr.py over the kit's print
namespace Go.Proofs.Ytcclmaicdmogjaa.P
open Go.RowKit Go.Proofs.YtcclmaicdmogjaaW.PrintWords Go.Proofs.YtcclmaicdmogjaaW.PrintLast Go.Proofs.YtcclmaicdmogjaaW.PrintMore
attribute [local go_sem] max2_int min2_int max_two min_two max_three min_three max_four min_four   -- for this text's walks alone
set_option linter.unusedVariables false
set_option linter.unusedSimpArgs false

/-! ### calamusref06_Long: function 57 -/
def calamusref06_Long.f (k : Nat) (l0 : List Int) : Option (Bool) := (calamusref06_Write.f k l0 false).bind fun bt471 => (some (bt471.2 != 0))
theorem calamusref06_Long.mono : ∀ a0 k, LeO (calamusref06_Long.f k a0) (calamusref06_Long.f (k + 1) a0) := by
  intro a0 k
  unfold calamusref06_Long.f
  repeat' first
      | (with_reducible exact calamusref06_Write.mono _ _ _)
      | (with_reducible exact LeO.refl _)
      | (with_reducible exact LeO.none _)
      | (with_reducible refine LeO.ite ?_ ?_)
      | (with_reducible refine LeO.bind ?_ (fun _ => ?_))
      | exact calamusref06_Write.mono _ _ _
      | exact LeO.none _
      | refine LeO.ite ?_ ?_
      | refine LeO.bind ?_ (fun _ => ?_)
set_option maxHeartbeats 8000000 in
set_option maxRecDepth 100000 in
theorem calamusref06_Long.calls (k : Nat) (A0 : Option Addr) (c0 : Nat) (l0 : List Int) (r : Bool) (w : World) (hr0 : Kd.C (Kd.int .i64) w A0 l0.length l0) (hc0 : l0.length ≤ c0) (h : calamusref06_Long.f k l0 = some r) :
    Calls Try.prog 57 #[.slice A0 l0.length c0] w fun e w' => e = .returned (.bool r) ∧ Below w.heap.size w w' := by
  have HR0 := Aside0.mk hr0
  have HC0 := Aside0.mk hc0
  clear hr0 hc0
  have HB := Aside0.mk (Below.refl w.heap.size w)
  have H : ((calamusref06_Write.f k l0 false).bind fun bt471 => (some (bt471.2 != 0))) = some r := h
  clear h
  replace H := Option.bind_eq_some_iff.mp H
  obtain ⟨⟨t471, t472⟩, A20, H⟩ := H
  replace H : (some (t472 != 0)) = some r := H
  have A2 := Aside0.mk A20
  clear A20
  obtain rfl := Option.some.inj H
  go_enter Try.func57, Try.ntmps57
  go_wp2_with (first | ((with_reducible refine gate_callee (f := 55) rfl ?_); refine goesL_ (some 7) rfl rfl Try.func55 (by kernel_rfl) rfl #[.slice A0 l0.length c0, .bool false] rfl (by (try simp only [List.map_toArray, List.map_cons, List.map_nil]); first | done | rfl | (simp only [List.length_drop, List.length_take]; rfl)) ?_; (with_reducible refine (calamusref06_Write.calls k _ _ l0 false t471 t472 _ ?side1 ?side2 A2.out).mono ?_); (case side1 => repeat (first | exact HR0.out | (with_reducible refine Kd.C_alloc ?_ _) | (with_reducible refine Kd.C_drewN ?_ _) | (with_reducible refine Kd.C_drew ?_))); (case side2 => exact HC0.out); rintro e w3 ⟨v473, rfl, ho0, hb⟩; refine ⟨_, rfl, ?_⟩; have n0_ := Aside0.mk (Kd.R_lower ho0 (below_size (by repeat (first | (with_reducible first | exact HB.out | apply below_alloc | apply pw_below_drewN | apply below_drew1) | exact HB.out)))); have n1_ := Aside0.mk (below_step (by repeat (first | (with_reducible first | exact HB.out | apply below_alloc | apply pw_below_drewN | apply below_drew1) | exact HB.out)) hb); clear HB; have HO474 := n0_; have HB := n1_; clear n0_ n1_; (try clear hb); (try clear hb2); (try clear hk); (try clear hi); (try clear ho0)))
  go_ret
  exact ⟨by first | rfl | (simp [errW_none, errW_some] <;> rfl) | (simp [*, errW_none, errW_some] <;> rfl), by repeat (first | (with_reducible first | exact HB.out | apply below_alloc | apply pw_below_drewN | apply below_drew1) | exact HB.out)⟩

end Go.Proofs.Ytcclmaicdmogjaa.P

-- Written by wip/pr.py over the kit's print
namespace Go.Proofs.Ytcclmaicdmogjaa.P
open Go.RowKit Go.Proofs.YtcclmaicdmogjaaW.PrintWords Go.Proofs.YtcclmaicdmogjaaW.PrintLast Go.Proofs.YtcclmaicdmogjaaW.PrintMore
attribute [local go_sem] max2_int min2_int max_two min_two max_three min_three max_four min_four   -- for this text's walks alone
set_option linter.unusedVariables false
set_option linter.unusedSimpArgs false

/-! ### calamusref02_S: function 39 -/
def calamusref02_S.l0 : Nat → Int → Int → Int → Int → Option (Int × Int)
  | 0, _, _, _, _ => none
  | k + 1, x2, x8, x10, x11 => if x11 < x2 then (calamusref02_S.l0 k x2 x8 (wrap64 (x10 * 256)) (wrap64 (x11 + 1))) else (if (wrap64 (2 * x8)) ≥ x10 then (some (wrap64 (x8 - x10), 0)) else (some (x8, 0)))
def calamusref02_S.f (k : Nat) (l0 : List Int) (a1 : Int) (a2 : Int) : Option (Int × Int) := (calamusref02_U.f k l0 a1 a2).bind fun bt205 => (if bt205.2 = 0 then (calamusref02_S.l0 k a2 bt205.1 1 0) else (some (0, bt205.2)))
theorem calamusref02_S.mono_l : ∀ k, (∀ y0 y1 y2 y3, LeO (calamusref02_S.l0 k y0 y1 y2 y3) (calamusref02_S.l0 (k + 1) y0 y1 y2 y3))
  | 0 => fun _ _ _ _ r h => by simp [calamusref02_S.l0] at h
  | k + 1 => by
    have ih0 := calamusref02_S.mono_l k
    · intro y0 y1 y2 y3
      unfold calamusref02_S.l0
      repeat' first
      | (with_reducible exact ih0 _ _ _ _)
      | (with_reducible exact calamusref02_U.mono _ _ _ _)
      | (with_reducible exact LeO.refl _)
      | (with_reducible exact LeO.none _)
      | (with_reducible refine LeO.ite ?_ ?_)
      | (with_reducible refine LeO.bind ?_ (fun _ => ?_))
      | exact ih0 _ _ _ _
      | exact calamusref02_U.mono _ _ _ _
      | exact LeO.none _
      | refine LeO.ite ?_ ?_
      | refine LeO.bind ?_ (fun _ => ?_)
theorem calamusref02_S.mono : ∀ a0 a1 a2 k, LeO (calamusref02_S.f k a0 a1 a2) (calamusref02_S.f (k + 1) a0 a1 a2) := by
  intro a0 a1 a2 k
  have ih0 := calamusref02_S.mono_l k
  unfold calamusref02_S.f
  repeat' first
      | (with_reducible exact ih0 _ _ _ _)
      | (with_reducible exact calamusref02_U.mono _ _ _ _)
      | (with_reducible exact LeO.refl _)
      | (with_reducible exact LeO.none _)
      | (with_reducible refine LeO.ite ?_ ?_)
      | (with_reducible refine LeO.bind ?_ (fun _ => ?_))
      | exact ih0 _ _ _ _
      | exact calamusref02_U.mono _ _ _ _
      | exact LeO.none _
      | refine LeO.ite ?_ ?_
      | refine LeO.bind ?_ (fun _ => ?_)
set_option maxHeartbeats 8000000 in
set_option maxRecDepth 100000 in
theorem calamusref02_S.calls (k : Nat) (A0 : Option Addr) (c0 : Nat) (l0 : List Int) (a1 : Int) (a2 : Int) (r1 : Int) (r2 : Int) (w : World) (hr0 : Kd.C (Kd.int .u8) w A0 l0.length l0) (hc0 : l0.length ≤ c0) (h : calamusref02_S.f k l0 a1 a2 = some (r1, r2)) :
    Calls Try.prog 39 #[.slice A0 l0.length c0, .int .i64 a1, .int .i64 a2] w fun e w' => e = .returned (.tuple #[.int .i64 r1, .int .i64 r2]) ∧ Drawn0 w w' := by
  have HR0 := Aside0.mk hr0
  have HC0 := Aside0.mk hc0
  clear hr0 hc0
  have H : ((calamusref02_U.f k l0 a1 a2).bind fun bt205 => (if bt205.2 = 0 then (calamusref02_S.l0 k a2 bt205.1 1 0) else (some (0, bt205.2)))) = some (r1, r2) := h
  clear h
  replace H := Option.bind_eq_some_iff.mp H
  obtain ⟨⟨t205, t206⟩, A40, H⟩ := H
  replace H : (if t206 = 0 then (calamusref02_S.l0 k a2 t205 1 0) else (some (0, t206))) = some (r1, r2) := H
  have A4 := Aside0.mk A40
  clear A40
  by_cases c5 : t206 = 0
  · rw [if_pos c5] at H
    have c5b0 : (t206 == 0) = true := beq_iff_eq.mpr c5
    have c5b1 : (t206 != 0) = false := bne_eq_false_iff_eq.mpr c5
    clear c5
    have H' := Aside0.mk H
    clear H
    go_enter Try.func39, Try.ntmps39
    go_wp2_with (first | ((with_reducible refine gate_callee (f := 37) rfl ?_); refine goesL_ (some 16) rfl rfl Try.func37 (by kernel_rfl) rfl #[.slice A0 l0.length c0, .int .i64 a1, .int .i64 a2] rfl (by (try simp only [List.map_toArray, List.map_cons, List.map_nil]); first | done | rfl | (simp only [List.length_drop, List.length_take]; rfl)) ?_; (with_reducible refine (calamusref02_U.calls k _ _ l0 a1 a2 t205 t206 _ ?side1 ?side2 A4.out).mono ?_); (case side1 => repeat (first | exact HR0.out | (with_reducible refine Kd.C_alloc ?_ _) | (with_reducible refine Kd.C_drewN ?_ _) | (with_reducible refine Kd.C_drew ?_))); (case side2 => exact HC0.out); rintro e w' ⟨rfl, ⟨nd, rfl⟩⟩; refine ⟨_, rfl, ?_⟩))
    go_loopg [10, 11] k (fun kq v10 v11 w' => ∃ (x10_1 : Int) (x11_1 : Int), v10 = .int .i64 x10_1 ∧ v11 = .int .i64 x11_1 ∧ Aside0 (calamusref02_S.l0 kq a2 t205 x10_1 x11_1 = some (r1, r2)) ∧ Aside0 (kq ≤ k) ∧ Drawn0 w w')
    case atStart => exact ⟨(1), (0), (by first | rfl | (simp; done) | (simp [*]; done)), (by first | rfl | (simp; done) | (simp [*]; done)), H', ⟨Nat.le_refl _⟩, by repeat (first | exact Drawn0.refl _ | apply Drawn0.step)⟩
    case round =>
      clear H'
      try clear p2
      try clear c3
      try clear c5
      try clear c5b0
      try clear c5b1
      obtain ⟨x10_1, x11_1, rfl, rfl, HA, HK1, ⟨m1, rfl⟩⟩ := hrel
      cases gk with
      | zero => exact absurd HA.out (by simp [calamusref02_S.l0])
      | succ k1 =>
        have H := HA.out
        clear HA
        simp only [calamusref02_S.l0] at H
        by_cases c6 : x11_1 < a2
        · rw [if_pos c6] at H
          have c6b0 : decide (x11_1 < a2) = true := decide_eq_true c6
          clear c6
          have H' := Aside0.mk H
          clear H
          go_wp2
          go_roundg k1
          case measure => have := HK1.out; omega
          case rel => exact ⟨(wrap64 (x10_1 * 256)), (wrap64 (x11_1 + 1)), (by first | rfl | (simp; done) | (simp [*]; done)), (by first | rfl | (simp; done) | (simp [*]; done)), H', ⟨by have := HK1.out; omega⟩, by repeat (first | exact Drawn0.refl _ | apply Drawn0.step)⟩
        · rw [if_neg c6] at H
          have c6b0 : decide (x11_1 < a2) = false := decide_eq_false c6
          clear c6
          by_cases c7 : (wrap64 (2 * t205)) ≥ x10_1
          · rw [if_pos c7] at H
            have c7b0 : decide (x10_1 ≤ (wrap64 (2 * t205))) = true := decide_eq_true c7
            clear c7
            simp only [Option.some.injEq, Prod.mk.injEq] at H
            obtain ⟨rfl, rfl⟩ := H
            go_wp2
            go_ret2
            exact ⟨by first | rfl | (simp; done) | (simp [*]; done), by repeat (first | exact Drawn0.refl _ | apply Drawn0.step)⟩
          · rw [if_neg c7] at H
            have c7b0 : decide (x10_1 ≤ (wrap64 (2 * t205))) = false := decide_eq_false c7
            clear c7
            simp only [Option.some.injEq, Prod.mk.injEq] at H
            obtain ⟨rfl, rfl⟩ := H
            go_wp2
            go_ret2
            exact ⟨by first | rfl | (simp; done) | (simp [*]; done), by repeat (first | exact Drawn0.refl _ | apply Drawn0.step)⟩
  · rw [if_neg c5] at H
    have c5b0 : (t206 == 0) = false := beq_eq_false_iff_ne.mpr c5
    have c5b1 : (t206 != 0) = true := bne_iff_ne.mpr c5
    simp only [Option.some.injEq, Prod.mk.injEq] at H
    obtain ⟨rfl, rfl⟩ := H
    go_enter Try.func39, Try.ntmps39
    go_wp2_with (first | ((with_reducible refine gate_callee (f := 37) rfl ?_); refine goesL_ (some 16) rfl rfl Try.func37 (by kernel_rfl) rfl #[.slice A0 l0.length c0, .int .i64 a1, .int .i64 a2] rfl (by (try simp only [List.map_toArray, List.map_cons, List.map_nil]); first | done | rfl | (simp only [List.length_drop, List.length_take]; rfl)) ?_; (with_reducible refine (calamusref02_U.calls k _ _ l0 a1 a2 t205 t206 _ ?side1 ?side2 A4.out).mono ?_); (case side1 => repeat (first | exact HR0.out | (with_reducible refine Kd.C_alloc ?_ _) | (with_reducible refine Kd.C_drewN ?_ _) | (with_reducible refine Kd.C_drew ?_))); (case side2 => exact HC0.out); rintro e w' ⟨rfl, ⟨nd, rfl⟩⟩; refine ⟨_, rfl, ?_⟩))
    go_ret2
    exact ⟨by first | rfl | (simp; done) | (simp [*]; done), by repeat (first | exact Drawn0.refl _ | apply Drawn0.step)⟩

end Go.Proofs.Ytcclmaicdmogjaa.P

namespace Go.Proofs.Ytcclmaicdmogjaa.P
open Go.RowKit Go.Proofs.YtcclmaicdmogjaaW.PrintWords Go.Proofs.YtcclmaicdmogjaaW.PrintLast Go.Proofs.YtcclmaicdmogjaaW.PrintMore
set_option linter.unusedVariables false
set_option linter.unusedSimpArgs false

-- USES calamusref02_Copy calamusref02_Same
theorem copy_eq (l : List Int) (h : l.length < 140737488355328) : calamusref02_Copy.f l = some l := by
  unfold calamusref02_Copy.f; simp [h]
theorem same_refl (l : List Int) : calamusref02_Same.f l l = some true := by
  unfold calamusref02_Same.f; simp
theorem bytes_of_wf {l : List Int} (h : ∀ x ∈ l, (Lit.int .u8 x).wf = true) : isBytes l := fun x hx => by
  have := h x hx
  simp [Lit.wf, IntKind.min, IntKind.max, IntKind.bits, IntKind.signed] at this
  omega
theorem isBytes_zeros (n : Nat) : isBytes (List.replicate n 0) := fun x hx => by rw [List.mem_replicate] at hx; omega
theorem isBytes_set {l : List Int} (h : isBytes l) (i : Nat) (v : Int) (hv : 0 ≤ v ∧ v ≤ 255) : isBytes (l.set i v) := fun x hx => by
  rcases List.mem_or_eq_of_mem_set hx with h' | h'
  · exact h x h'
  · omega
theorem wf_u8_out {n : Int} (h : (Lit.int .u8 n).wf = true) : 0 ≤ n ∧ n ≤ 255 := by
  simp [Lit.wf, IntKind.min, IntKind.max, IntKind.bits, IntKind.signed] at h; omega
theorem wf_u16_out {n : Int} (h : (Lit.int .u16 n).wf = true) : 0 ≤ n ∧ n ≤ 65535 := by
  simp [Lit.wf, IntKind.min, IntKind.max, IntKind.bits, IntKind.signed] at h; omega
theorem wf_u32_out {n : Int} (h : (Lit.int .u32 n).wf = true) : 0 ≤ n ∧ n ≤ 4294967295 := by
  simp [Lit.wf, IntKind.min, IntKind.max, IntKind.bits, IntKind.signed] at h; omega
theorem wf_i32_out {n : Int} (h : (Lit.int .i32 n).wf = true) : -2147483648 ≤ n ∧ n ≤ 2147483647 := by
  simp [Lit.wf, IntKind.min, IntKind.max, IntKind.bits, IntKind.signed] at h; omega
theorem wf_i64_out {n : Int} (h : (Lit.int .i64 n).wf = true) : -9223372036854775808 ≤ n ∧ n ≤ 9223372036854775807 := by
  simp [Lit.wf, IntKind.min, IntKind.max, IntKind.bits, IntKind.signed] at h; omega

end Go.Proofs.Ytcclmaicdmogjaa.P
