/- Part 2 of the proof of the law HeadReads: where head.Head, head.Maxp and head.Count read what the reference reads, and the bytes stay, at any bytes. The row lists the variable head.places, tied to the program's text. -/
import Derived.Test.YtcclmaicdmogjaaDoorCHeadReads0
-- Written by wip/pr.py over the kit's print
namespace Go.Proofs.YtcclmaicdmogjaaDoor.P
open Go.RowKit Go.Proofs.YtcclmaicdmogjaaDoorW.PrintWords Go.Proofs.YtcclmaicdmogjaaDoorW.PrintLast Go.Proofs.YtcclmaicdmogjaaDoorW.PrintMore
attribute [local go_sem] max2_int min2_int max_two min_two max_three min_three max_four min_four   -- for this text's walks alone
set_option linter.unusedVariables false
set_option linter.unusedSimpArgs false

/-! ### calamusref05_PutHead: function 67 -/
def calamusref05_PutHead.j0 : Nat → List Int → Bool → Int → Int → Int → Int → Int → Bool → Option (List Int × Int)
  | 0, _, _, _, _, _, _, _, _ => none
  | k + 1, x0, x41, x491000, x491001, x491002, x491003, x491004, x491005 => if x41 = true then (some (([] : List Int), 6)) else ((calamusref05_lay.f k x0 18 x491000).bind fun t495 => ((calamusref05_lay.f k t495 36 x491001).bind fun t498 => ((calamusref05_lay.f k t498 38 x491002).bind fun t501 => ((calamusref05_lay.f k t501 40 x491003).bind fun t504 => ((calamusref05_lay.f k t504 42 x491004).bind fun t507 => (if x491005 = true then ((calamusref05_lay.f k t507 50 1).bind fun t510 => (some (t510, 0))) else ((calamusref05_lay.f k t507 50 0).bind fun t513 => (some (t513, 0)))))))))
def calamusref05_PutHead.f (k : Nat) (l0 : List Int) (a1_0 : Int) (a1_1 : Int) (a1_2 : Int) (a1_3 : Int) (a1_4 : Int) (a1_5 : Bool) : Option (List Int × Int) := if (l0.length : Int) < 54 then (some (([] : List Int), 3)) else (if a1_0 < 16 then (calamusref05_PutHead.j0 k l0 true a1_0 a1_1 a1_2 a1_3 a1_4 a1_5) else (if a1_0 > 16384 then (calamusref05_PutHead.j0 k l0 true a1_0 a1_1 a1_2 a1_3 a1_4 a1_5) else ((calamusref05_short.f a1_1).bind fun t491 => (if t491 = true then ((calamusref05_short.f a1_2).bind fun t492 => (if t492 = true then ((calamusref05_short.f a1_3).bind fun t493 => (if t493 = true then ((calamusref05_short.f a1_4).bind fun t494 => (calamusref05_PutHead.j0 k l0 (!t494) a1_0 a1_1 a1_2 a1_3 a1_4 a1_5)) else (calamusref05_PutHead.j0 k l0 true a1_0 a1_1 a1_2 a1_3 a1_4 a1_5))) else (calamusref05_PutHead.j0 k l0 true a1_0 a1_1 a1_2 a1_3 a1_4 a1_5))) else (calamusref05_PutHead.j0 k l0 true a1_0 a1_1 a1_2 a1_3 a1_4 a1_5)))))
theorem calamusref05_PutHead.mono_l : ∀ k, (∀ y0 y1 y2 y3 y4 y5 y6 y7, LeO (calamusref05_PutHead.j0 k y0 y1 y2 y3 y4 y5 y6 y7) (calamusref05_PutHead.j0 (k + 1) y0 y1 y2 y3 y4 y5 y6 y7))
  | 0 => fun _ _ _ _ _ _ _ _ r h => by simp [calamusref05_PutHead.j0] at h
  | k + 1 => by
    have ih0 := calamusref05_PutHead.mono_l k
    · intro y0 y1 y2 y3 y4 y5 y6 y7
      unfold calamusref05_PutHead.j0
      repeat' first
      | (with_reducible exact ih0 _ _ _ _ _ _ _ _)
      | (with_reducible exact calamusref05_lay.mono _ _ _ _)
      | (with_reducible exact LeO.refl _)
      | (with_reducible exact LeO.none _)
      | (with_reducible refine LeO.ite ?_ ?_)
      | (with_reducible refine LeO.bind ?_ (fun _ => ?_))
      | exact ih0 _ _ _ _ _ _ _ _
      | exact calamusref05_lay.mono _ _ _ _
      | exact LeO.none _
      | refine LeO.ite ?_ ?_
      | refine LeO.bind ?_ (fun _ => ?_)
theorem calamusref05_PutHead.mono : ∀ a0 a1 a2 a3 a4 a5 a6 k, LeO (calamusref05_PutHead.f k a0 a1 a2 a3 a4 a5 a6) (calamusref05_PutHead.f (k + 1) a0 a1 a2 a3 a4 a5 a6) := by
  intro a0 a1 a2 a3 a4 a5 a6 k
  have ih0 := calamusref05_PutHead.mono_l k
  unfold calamusref05_PutHead.f
  repeat' first
      | (with_reducible exact ih0 _ _ _ _ _ _ _ _)
      | (with_reducible exact calamusref05_lay.mono _ _ _ _)
      | (with_reducible exact LeO.refl _)
      | (with_reducible exact LeO.none _)
      | (with_reducible refine LeO.ite ?_ ?_)
      | (with_reducible refine LeO.bind ?_ (fun _ => ?_))
      | exact ih0 _ _ _ _ _ _ _ _
      | exact calamusref05_lay.mono _ _ _ _
      | exact LeO.none _
      | refine LeO.ite ?_ ?_
      | refine LeO.bind ?_ (fun _ => ?_)
def calamusref05_PutHead.T5 : Bool × List (List Nat × List Nat) := (true, [([], []), ([], []), ([1], [1]), ([0, 2], [0, 2]), ([], []), ([4], [4]), ([3, 5, 3], [3, 5]), ([], []), ([7], [7]), ([6, 8, 6], [6, 8]), ([], []), ([10], [10]), ([9, 11, 9], [9, 11]), ([], []), ([13], [13]), ([12, 14, 12], [12, 14]), ([15, 15, 0, 1, 2, 3, 4, 5, 6, 7, 8, 9, 10, 11, 12, 13, 14, 15], [15])])
def calamusref05_PutHead.B5 : List Nat := [0, 0, 2, 7, 0, 16, 63, 0, 128, 511, 0, 1024, 4095, 0, 8192, 32767, 65535]
theorem calamusref05_PutHead.tab5 : rtab .any (opsOf Tryd.f67 5) = calamusref05_PutHead.T5 := by kernel_rfl
theorem calamusref05_PutHead.bits5 : waitsOk calamusref05_PutHead.T5.2 calamusref05_PutHead.B5 = true := by kernel_rfl
set_option maxHeartbeats 8000000 in
set_option maxRecDepth 100000 in
theorem calamusref05_PutHead.calls (k : Nat) (A0 : Option Addr) (c0 : Nat) (l0 : List Int) (a1_0 : Int) (a1_1 : Int) (a1_2 : Int) (a1_3 : Int) (a1_4 : Int) (a1_5 : Bool) (r1 : List Int) (r2 : Int) (w : World) (hr0 : Kd.C (Kd.int .u8) w A0 l0.length l0) (hc0 : l0.length ≤ c0) (h : calamusref05_PutHead.f k l0 a1_0 a1_1 a1_2 a1_3 a1_4 a1_5 = some (r1, r2)) :
    Calls Tryd.prog 67 #[.slice A0 l0.length c0, .agg #[.int .i64 a1_0, .int .i64 a1_1, .int .i64 a1_2, .int .i64 a1_3, .int .i64 a1_4, .bool a1_5]] w fun e w' => ∃ v0_ : Value, e = .returned (.tuple #[v0_, .int .i64 r2]) ∧ Kd.R (Kd.int .u8) 5 w' w.heap.size (fun _ => True) v0_ r1 ∧ Below w.heap.size w w' := by
  have hu37 := Tryd.underlying37
  have HR0 := Aside0.mk hr0
  have HC0 := Aside0.mk hc0
  clear hr0 hc0
  have HB := Aside0.mk (Below.refl w.heap.size w)
  have H : (if (l0.length : Int) < 54 then (some (([] : List Int), 3)) else (if a1_0 < 16 then (calamusref05_PutHead.j0 k l0 true a1_0 a1_1 a1_2 a1_3 a1_4 a1_5) else (if a1_0 > 16384 then (calamusref05_PutHead.j0 k l0 true a1_0 a1_1 a1_2 a1_3 a1_4 a1_5) else ((calamusref05_short.f a1_1).bind fun t491 => (if t491 = true then ((calamusref05_short.f a1_2).bind fun t492 => (if t492 = true then ((calamusref05_short.f a1_3).bind fun t493 => (if t493 = true then ((calamusref05_short.f a1_4).bind fun t494 => (calamusref05_PutHead.j0 k l0 (!t494) a1_0 a1_1 a1_2 a1_3 a1_4 a1_5)) else (calamusref05_PutHead.j0 k l0 true a1_0 a1_1 a1_2 a1_3 a1_4 a1_5))) else (calamusref05_PutHead.j0 k l0 true a1_0 a1_1 a1_2 a1_3 a1_4 a1_5))) else (calamusref05_PutHead.j0 k l0 true a1_0 a1_1 a1_2 a1_3 a1_4 a1_5)))))) = some (r1, r2) := h
  clear h
  by_cases c3 : (l0.length : Int) < 54
  · rw [if_pos c3] at H
    have c3b0 : decide ((l0.length : Int) < 54) = true := decide_eq_true c3
    have c3b1 : decide (l0.length < 54) = true := decide_eq_true (by omega)
    clear c3
    simp only [Option.some.injEq, Prod.mk.injEq] at H
    obtain ⟨rfl, rfl⟩ := H
    go_enter Tryd.func67, Tryd.ntmps67
    go_wp2_with (first | ((with_reducible refine gate_dst (N := 3) rfl ?_); refine box_event ?hg (N := 3) ?hd (cs := #[.int .i64 a1_0, .int .i64 a1_1, .int .i64 a1_2, .int .i64 a1_3, .int .i64 a1_4, .bool a1_5]) (t := 37) ?hr ?_; (case hd => rfl); (case hg => rfl); (case hr => first | (go_simp; done) | (go_simp; rfl)); intro gb490 hg w4 hbox hb; have n0_ := Aside0.mk (below_step (by repeat (first | (with_reducible first | exact HB.out | apply below_alloc | apply pw_below_drewN | apply below_drew1) | exact HB.out)) hb); have n1_ := Aside0.mk (hbox); have n2_ := Aside0.mk ((by rw [hg]; exact (below_size (by repeat (first | (with_reducible first | exact HB.out | apply below_alloc | apply pw_below_drewN | apply below_drew1) | exact HB.out))) : w.heap.size ≤ gb490)); have n3_ := Aside0.mk ((by rw [hg]; exact (below_size (by repeat (first | (with_reducible first | exact HB.out | apply below_alloc | apply pw_below_drewN | apply below_drew1) | exact HB.out))) : w.heap.size ≤ gb490)); clear HB; have HB := n0_; have BK490 := n1_; have GW490 := n2_; have GE490 := n3_; clear n0_ n1_ n2_ n3_; clear hb hbox hg))
    go_ret2
    exact ⟨_, by first | rfl | (simp [errW_none, errW_some] <;> rfl) | (simp [*, errW_none, errW_some] <;> rfl), by first | exact Kd.R_nil _ _ _ _ _ | exact Kd.N_nil _ _ _ _ _ | exact Kd.V_nil _ _ _ _ _ | exact Kd.Q_nil _ _ _ _ _ | exact Kd.S_nil _ _ _ _ _, by repeat (first | (with_reducible first | exact HB.out | apply below_alloc | apply pw_below_drewN | apply below_drew1 | refine below_set ?_ GE490.out) | exact HB.out)⟩
  · rw [if_neg c3] at H
    have c3b0 : decide ((l0.length : Int) < 54) = false := decide_eq_false c3
    have c3b1 : decide (l0.length < 54) = false := decide_eq_false (by omega)
    clear c3
    have HC5 := Aside0.mk H
    clear H
    go_enter Tryd.func67, Tryd.ntmps67
    go_upto_region 3 with (first | ((with_reducible refine gate_dst (N := 3) rfl ?_); refine box_event ?hg (N := 3) ?hd (cs := #[.int .i64 a1_0, .int .i64 a1_1, .int .i64 a1_2, .int .i64 a1_3, .int .i64 a1_4, .bool a1_5]) (t := 37) ?hr ?_; (case hd => rfl); (case hg => rfl); (case hr => first | (go_simp; done) | (go_simp; rfl)); intro gb490 hg w6 hbox hb; have n0_ := Aside0.mk (below_step (by repeat (first | (with_reducible first | exact HB.out | apply below_alloc | apply pw_below_drewN | apply below_drew1) | exact HB.out)) hb); have n1_ := Aside0.mk (hbox); have n2_ := Aside0.mk ((by rw [hg]; exact (below_size (by repeat (first | (with_reducible first | exact HB.out | apply below_alloc | apply pw_below_drewN | apply below_drew1) | exact HB.out))) : w.heap.size ≤ gb490)); have n3_ := Aside0.mk ((by rw [hg]; exact (below_size (by repeat (first | (with_reducible first | exact HB.out | apply below_alloc | apply pw_below_drewN | apply below_drew1) | exact HB.out))) : w.heap.size ≤ gb490)); clear HB; have HB := n0_; have BK490 := n1_; have GW490 := n2_; have GE490 := n3_; clear n0_ n1_ n2_ n3_; clear hb hbox hg))
    (try simp only [Act.put, List.setIfInBounds_toArray, List.set_cons_zero, List.set_cons_succ])
    go_cut [41] (fun v41 wc => ∃ (kq : Nat) (x41_4 : Bool), v41 = .bool x41_4 ∧ Aside0 (calamusref05_PutHead.j0 kq l0 x41_4 a1_0 a1_1 a1_2 a1_3 a1_4 a1_5 = some (r1, r2)) ∧ Aside0 (kq ≤ k) ∧ Aside0 (wc.heap[gb490]? = some (.cells #[.int .i64 a1_0, .int .i64 a1_1, .int .i64 a1_2, .int .i64 a1_3, .int .i64 a1_4, .bool a1_5] 37 (0, 0))) ∧ Aside0 (Below w.heap.size w wc))
    case first =>
      have H := HC5.out
      clear HC5
      by_cases c7 : a1_0 < 16
      · rw [if_pos c7] at H
        have c7b0 : decide (a1_0 < 16) = true := decide_eq_true c7
        clear c7
        (first | rw [c7b0] | (simp only [i64_w, i32_w]; rw [c7b0]) | skip)
        have H' := Aside0.mk H
        clear H
        have hcz8_0 : w6.cell? ⟨gb490, 0, none⟩ = some (.int .i64 a1_0) := (blk_cell BK490.out 0).trans rfl
        have hcz8_1 : w6.cell? ⟨gb490, 1, none⟩ = some (.int .i64 a1_1) := (blk_cell BK490.out 1).trans rfl
        have hcz8_2 : w6.cell? ⟨gb490, 2, none⟩ = some (.int .i64 a1_2) := (blk_cell BK490.out 2).trans rfl
        have hcz8_3 : w6.cell? ⟨gb490, 3, none⟩ = some (.int .i64 a1_3) := (blk_cell BK490.out 3).trans rfl
        have hcz8_4 : w6.cell? ⟨gb490, 4, none⟩ = some (.int .i64 a1_4) := (blk_cell BK490.out 4).trans rfl
        have hcz8_5 : w6.cell? ⟨gb490, 5, none⟩ = some (.bool a1_5) := (blk_cell BK490.out 5).trans rfl
        have hfz8_0 := blk_frozen BK490.out 0
        have hfz8_1 := blk_frozen BK490.out 1
        have hfz8_2 := blk_frozen BK490.out 2
        have hfz8_3 := blk_frozen BK490.out 3
        have hfz8_4 := blk_frozen BK490.out 4
        have hfz8_5 := blk_frozen BK490.out 5
        go_wp2
        go_meet
        case rel => exact ⟨_, (true), (by first | rfl | (simp; done) | (simp [*]; done)), H', ⟨by first | omega | exact Nat.le_refl _⟩, ⟨by (with_reducible repeat (first | refine blk_drewN ?_ _ | refine blk_drew ?_ | refine blk_alloc ?_ _)); exact BK490.out⟩, ⟨by repeat (first | (with_reducible first | exact HB.out | apply below_alloc | apply pw_below_drewN | apply below_drew1 | refine below_set ?_ GE490.out) | exact HB.out)⟩⟩
      · rw [if_neg c7] at H
        have c7b0 : decide (a1_0 < 16) = false := decide_eq_false c7
        clear c7
        (first | rw [c7b0] | (simp only [i64_w, i32_w]; rw [c7b0]) | skip)
        by_cases c9 : a1_0 > 16384
        · rw [if_pos c9] at H
          have c9b0 : decide (16384 < a1_0) = true := decide_eq_true c9
          clear c9
          have H' := Aside0.mk H
          clear H
          have hcz10_0 : w6.cell? ⟨gb490, 0, none⟩ = some (.int .i64 a1_0) := (blk_cell BK490.out 0).trans rfl
          have hcz10_1 : w6.cell? ⟨gb490, 1, none⟩ = some (.int .i64 a1_1) := (blk_cell BK490.out 1).trans rfl
          have hcz10_2 : w6.cell? ⟨gb490, 2, none⟩ = some (.int .i64 a1_2) := (blk_cell BK490.out 2).trans rfl
          have hcz10_3 : w6.cell? ⟨gb490, 3, none⟩ = some (.int .i64 a1_3) := (blk_cell BK490.out 3).trans rfl
          have hcz10_4 : w6.cell? ⟨gb490, 4, none⟩ = some (.int .i64 a1_4) := (blk_cell BK490.out 4).trans rfl
          have hcz10_5 : w6.cell? ⟨gb490, 5, none⟩ = some (.bool a1_5) := (blk_cell BK490.out 5).trans rfl
          have hfz10_0 := blk_frozen BK490.out 0
          have hfz10_1 := blk_frozen BK490.out 1
          have hfz10_2 := blk_frozen BK490.out 2
          have hfz10_3 := blk_frozen BK490.out 3
          have hfz10_4 := blk_frozen BK490.out 4
          have hfz10_5 := blk_frozen BK490.out 5
          go_wp2
          go_meet
          case rel => exact ⟨_, (true), (by first | rfl | (simp; done) | (simp [*]; done)), H', ⟨by first | omega | exact Nat.le_refl _⟩, ⟨by (with_reducible repeat (first | refine blk_drewN ?_ _ | refine blk_drew ?_ | refine blk_alloc ?_ _)); exact BK490.out⟩, ⟨by repeat (first | (with_reducible first | exact HB.out | apply below_alloc | apply pw_below_drewN | apply below_drew1 | refine below_set ?_ GE490.out) | exact HB.out)⟩⟩
        · rw [if_neg c9] at H
          have c9b0 : decide (16384 < a1_0) = false := decide_eq_false c9
          clear c9
          replace H := Option.bind_eq_some_iff.mp H
          obtain ⟨t491, A110, H⟩ := H
          replace H : (if t491 = true then ((calamusref05_short.f a1_2).bind fun t492 => (if t492 = true then ((calamusref05_short.f a1_3).bind fun t493 => (if t493 = true then ((calamusref05_short.f a1_4).bind fun t494 => (calamusref05_PutHead.j0 k l0 (!t494) a1_0 a1_1 a1_2 a1_3 a1_4 a1_5)) else (calamusref05_PutHead.j0 k l0 true a1_0 a1_1 a1_2 a1_3 a1_4 a1_5))) else (calamusref05_PutHead.j0 k l0 true a1_0 a1_1 a1_2 a1_3 a1_4 a1_5))) else (calamusref05_PutHead.j0 k l0 true a1_0 a1_1 a1_2 a1_3 a1_4 a1_5)) = some (r1, r2) := H
          have A11 := Aside0.mk A110
          clear A110
          by_cases c12 : t491 = true
          · subst c12
            have H1 : ((calamusref05_short.f a1_2).bind fun t492 => (if t492 = true then ((calamusref05_short.f a1_3).bind fun t493 => (if t493 = true then ((calamusref05_short.f a1_4).bind fun t494 => (calamusref05_PutHead.j0 k l0 (!t494) a1_0 a1_1 a1_2 a1_3 a1_4 a1_5)) else (calamusref05_PutHead.j0 k l0 true a1_0 a1_1 a1_2 a1_3 a1_4 a1_5))) else (calamusref05_PutHead.j0 k l0 true a1_0 a1_1 a1_2 a1_3 a1_4 a1_5))) = some (r1, r2) := by rw [if_pos rfl] at H; exact H
            clear H
            have H := H1
            clear H1
            replace H := Option.bind_eq_some_iff.mp H
            obtain ⟨t492, A130, H⟩ := H
            replace H : (if t492 = true then ((calamusref05_short.f a1_3).bind fun t493 => (if t493 = true then ((calamusref05_short.f a1_4).bind fun t494 => (calamusref05_PutHead.j0 k l0 (!t494) a1_0 a1_1 a1_2 a1_3 a1_4 a1_5)) else (calamusref05_PutHead.j0 k l0 true a1_0 a1_1 a1_2 a1_3 a1_4 a1_5))) else (calamusref05_PutHead.j0 k l0 true a1_0 a1_1 a1_2 a1_3 a1_4 a1_5)) = some (r1, r2) := H
            have A13 := Aside0.mk A130
            clear A130
            by_cases c14 : t492 = true
            · subst c14
              have H1 : ((calamusref05_short.f a1_3).bind fun t493 => (if t493 = true then ((calamusref05_short.f a1_4).bind fun t494 => (calamusref05_PutHead.j0 k l0 (!t494) a1_0 a1_1 a1_2 a1_3 a1_4 a1_5)) else (calamusref05_PutHead.j0 k l0 true a1_0 a1_1 a1_2 a1_3 a1_4 a1_5))) = some (r1, r2) := by rw [if_pos rfl] at H; exact H
              clear H
              have H := H1
              clear H1
              replace H := Option.bind_eq_some_iff.mp H
              obtain ⟨t493, A150, H⟩ := H
              replace H : (if t493 = true then ((calamusref05_short.f a1_4).bind fun t494 => (calamusref05_PutHead.j0 k l0 (!t494) a1_0 a1_1 a1_2 a1_3 a1_4 a1_5)) else (calamusref05_PutHead.j0 k l0 true a1_0 a1_1 a1_2 a1_3 a1_4 a1_5)) = some (r1, r2) := H
              have A15 := Aside0.mk A150
              clear A150
              by_cases c16 : t493 = true
              · subst c16
                have H1 : ((calamusref05_short.f a1_4).bind fun t494 => (calamusref05_PutHead.j0 k l0 (!t494) a1_0 a1_1 a1_2 a1_3 a1_4 a1_5)) = some (r1, r2) := by rw [if_pos rfl] at H; exact H
                clear H
                have H := H1
                clear H1
                replace H := Option.bind_eq_some_iff.mp H
                obtain ⟨t494, A170, H⟩ := H
                replace H : (calamusref05_PutHead.j0 k l0 (!t494) a1_0 a1_1 a1_2 a1_3 a1_4 a1_5) = some (r1, r2) := H
                have A17 := Aside0.mk A170
                clear A170
                have H' := Aside0.mk H
                clear H
                have hcz18_0 : w6.cell? ⟨gb490, 0, none⟩ = some (.int .i64 a1_0) := (blk_cell BK490.out 0).trans rfl
                have hcz18_1 : w6.cell? ⟨gb490, 1, none⟩ = some (.int .i64 a1_1) := (blk_cell BK490.out 1).trans rfl
                have hcz18_2 : w6.cell? ⟨gb490, 2, none⟩ = some (.int .i64 a1_2) := (blk_cell BK490.out 2).trans rfl
                have hcz18_3 : w6.cell? ⟨gb490, 3, none⟩ = some (.int .i64 a1_3) := (blk_cell BK490.out 3).trans rfl
                have hcz18_4 : w6.cell? ⟨gb490, 4, none⟩ = some (.int .i64 a1_4) := (blk_cell BK490.out 4).trans rfl
                have hcz18_5 : w6.cell? ⟨gb490, 5, none⟩ = some (.bool a1_5) := (blk_cell BK490.out 5).trans rfl
                have hfz18_0 := blk_frozen BK490.out 0
                have hfz18_1 := blk_frozen BK490.out 1
                have hfz18_2 := blk_frozen BK490.out 2
                have hfz18_3 := blk_frozen BK490.out 3
                have hfz18_4 := blk_frozen BK490.out 4
                have hfz18_5 := blk_frozen BK490.out 5
                go_wp2_with (first | (go_at_call 99; (with_reducible refine (calamusref05_short.calls a1_1 true _ A11.out).mono ?_); rintro e w' ⟨rfl, ⟨nd, rfl⟩⟩) | (go_at_call 99; (with_reducible refine (calamusref05_short.calls a1_2 true _ A13.out).mono ?_); rintro e w' ⟨rfl, ⟨nd, rfl⟩⟩) | (go_at_call 99; (with_reducible refine (calamusref05_short.calls a1_3 true _ A15.out).mono ?_); rintro e w' ⟨rfl, ⟨nd, rfl⟩⟩) | (go_at_call 99; (with_reducible refine (calamusref05_short.calls a1_4 t494 _ A17.out).mono ?_); rintro e w' ⟨rfl, ⟨nd, rfl⟩⟩))
                go_meet
                case rel => exact ⟨_, (!t494), (by first | rfl | (simp; done) | (simp [*]; done)), H', ⟨by first | omega | exact Nat.le_refl _⟩, ⟨by (with_reducible repeat (first | refine blk_drewN ?_ _ | refine blk_drew ?_ | refine blk_alloc ?_ _)); exact BK490.out⟩, ⟨by repeat (first | (with_reducible first | exact HB.out | apply below_alloc | apply pw_below_drewN | apply below_drew1 | refine below_set ?_ GE490.out) | exact HB.out)⟩⟩
              · replace c16 := Bool.eq_false_iff.mpr c16
                subst c16
                have H1 : (calamusref05_PutHead.j0 k l0 true a1_0 a1_1 a1_2 a1_3 a1_4 a1_5) = some (r1, r2) := by rw [if_neg (show ¬ (false = true) by decide)] at H; exact H
                clear H
                have H := H1
                clear H1
                have H' := Aside0.mk H
                clear H
                have hcz19_0 : w6.cell? ⟨gb490, 0, none⟩ = some (.int .i64 a1_0) := (blk_cell BK490.out 0).trans rfl
                have hcz19_1 : w6.cell? ⟨gb490, 1, none⟩ = some (.int .i64 a1_1) := (blk_cell BK490.out 1).trans rfl
                have hcz19_2 : w6.cell? ⟨gb490, 2, none⟩ = some (.int .i64 a1_2) := (blk_cell BK490.out 2).trans rfl
                have hcz19_3 : w6.cell? ⟨gb490, 3, none⟩ = some (.int .i64 a1_3) := (blk_cell BK490.out 3).trans rfl
                have hcz19_4 : w6.cell? ⟨gb490, 4, none⟩ = some (.int .i64 a1_4) := (blk_cell BK490.out 4).trans rfl
                have hcz19_5 : w6.cell? ⟨gb490, 5, none⟩ = some (.bool a1_5) := (blk_cell BK490.out 5).trans rfl
                have hfz19_0 := blk_frozen BK490.out 0
                have hfz19_1 := blk_frozen BK490.out 1
                have hfz19_2 := blk_frozen BK490.out 2
                have hfz19_3 := blk_frozen BK490.out 3
                have hfz19_4 := blk_frozen BK490.out 4
                have hfz19_5 := blk_frozen BK490.out 5
                go_wp2_with (first | (go_at_call 99; (with_reducible refine (calamusref05_short.calls a1_1 true _ A11.out).mono ?_); rintro e w' ⟨rfl, ⟨nd, rfl⟩⟩) | (go_at_call 99; (with_reducible refine (calamusref05_short.calls a1_2 true _ A13.out).mono ?_); rintro e w' ⟨rfl, ⟨nd, rfl⟩⟩) | (go_at_call 99; (with_reducible refine (calamusref05_short.calls a1_3 false _ A15.out).mono ?_); rintro e w' ⟨rfl, ⟨nd, rfl⟩⟩))
                go_meet
                case rel => exact ⟨_, (true), (by first | rfl | (simp; done) | (simp [*]; done)), H', ⟨by first | omega | exact Nat.le_refl _⟩, ⟨by (with_reducible repeat (first | refine blk_drewN ?_ _ | refine blk_drew ?_ | refine blk_alloc ?_ _)); exact BK490.out⟩, ⟨by repeat (first | (with_reducible first | exact HB.out | apply below_alloc | apply pw_below_drewN | apply below_drew1 | refine below_set ?_ GE490.out) | exact HB.out)⟩⟩
            · replace c14 := Bool.eq_false_iff.mpr c14
              subst c14
              have H1 : (calamusref05_PutHead.j0 k l0 true a1_0 a1_1 a1_2 a1_3 a1_4 a1_5) = some (r1, r2) := by rw [if_neg (show ¬ (false = true) by decide)] at H; exact H
              clear H
              have H := H1
              clear H1
              have H' := Aside0.mk H
              clear H
              have hcz20_0 : w6.cell? ⟨gb490, 0, none⟩ = some (.int .i64 a1_0) := (blk_cell BK490.out 0).trans rfl
              have hcz20_1 : w6.cell? ⟨gb490, 1, none⟩ = some (.int .i64 a1_1) := (blk_cell BK490.out 1).trans rfl
              have hcz20_2 : w6.cell? ⟨gb490, 2, none⟩ = some (.int .i64 a1_2) := (blk_cell BK490.out 2).trans rfl
              have hcz20_3 : w6.cell? ⟨gb490, 3, none⟩ = some (.int .i64 a1_3) := (blk_cell BK490.out 3).trans rfl
              have hcz20_4 : w6.cell? ⟨gb490, 4, none⟩ = some (.int .i64 a1_4) := (blk_cell BK490.out 4).trans rfl
              have hcz20_5 : w6.cell? ⟨gb490, 5, none⟩ = some (.bool a1_5) := (blk_cell BK490.out 5).trans rfl
              have hfz20_0 := blk_frozen BK490.out 0
              have hfz20_1 := blk_frozen BK490.out 1
              have hfz20_2 := blk_frozen BK490.out 2
              have hfz20_3 := blk_frozen BK490.out 3
              have hfz20_4 := blk_frozen BK490.out 4
              have hfz20_5 := blk_frozen BK490.out 5
              go_wp2_with (first | (go_at_call 99; (with_reducible refine (calamusref05_short.calls a1_1 true _ A11.out).mono ?_); rintro e w' ⟨rfl, ⟨nd, rfl⟩⟩) | (go_at_call 99; (with_reducible refine (calamusref05_short.calls a1_2 false _ A13.out).mono ?_); rintro e w' ⟨rfl, ⟨nd, rfl⟩⟩))
              go_meet
              case rel => exact ⟨_, (true), (by first | rfl | (simp; done) | (simp [*]; done)), H', ⟨by first | omega | exact Nat.le_refl _⟩, ⟨by (with_reducible repeat (first | refine blk_drewN ?_ _ | refine blk_drew ?_ | refine blk_alloc ?_ _)); exact BK490.out⟩, ⟨by repeat (first | (with_reducible first | exact HB.out | apply below_alloc | apply pw_below_drewN | apply below_drew1 | refine below_set ?_ GE490.out) | exact HB.out)⟩⟩
          · replace c12 := Bool.eq_false_iff.mpr c12
            subst c12
            have H1 : (calamusref05_PutHead.j0 k l0 true a1_0 a1_1 a1_2 a1_3 a1_4 a1_5) = some (r1, r2) := by rw [if_neg (show ¬ (false = true) by decide)] at H; exact H
            clear H
            have H := H1
            clear H1
            have H' := Aside0.mk H
            clear H
            have hcz21_0 : w6.cell? ⟨gb490, 0, none⟩ = some (.int .i64 a1_0) := (blk_cell BK490.out 0).trans rfl
            have hcz21_1 : w6.cell? ⟨gb490, 1, none⟩ = some (.int .i64 a1_1) := (blk_cell BK490.out 1).trans rfl
            have hcz21_2 : w6.cell? ⟨gb490, 2, none⟩ = some (.int .i64 a1_2) := (blk_cell BK490.out 2).trans rfl
            have hcz21_3 : w6.cell? ⟨gb490, 3, none⟩ = some (.int .i64 a1_3) := (blk_cell BK490.out 3).trans rfl
            have hcz21_4 : w6.cell? ⟨gb490, 4, none⟩ = some (.int .i64 a1_4) := (blk_cell BK490.out 4).trans rfl
            have hcz21_5 : w6.cell? ⟨gb490, 5, none⟩ = some (.bool a1_5) := (blk_cell BK490.out 5).trans rfl
            have hfz21_0 := blk_frozen BK490.out 0
            have hfz21_1 := blk_frozen BK490.out 1
            have hfz21_2 := blk_frozen BK490.out 2
            have hfz21_3 := blk_frozen BK490.out 3
            have hfz21_4 := blk_frozen BK490.out 4
            have hfz21_5 := blk_frozen BK490.out 5
            go_wp2_with (first | (go_at_call 99; (with_reducible refine (calamusref05_short.calls a1_1 false _ A11.out).mono ?_); rintro e w' ⟨rfl, ⟨nd, rfl⟩⟩))
            go_meet
            case rel => exact ⟨_, (true), (by first | rfl | (simp; done) | (simp [*]; done)), H', ⟨by first | omega | exact Nat.le_refl _⟩, ⟨by (with_reducible repeat (first | refine blk_drewN ?_ _ | refine blk_drew ?_ | refine blk_alloc ?_ _)); exact BK490.out⟩, ⟨by repeat (first | (with_reducible first | exact HB.out | apply below_alloc | apply pw_below_drewN | apply below_drew1 | refine below_set ?_ GE490.out) | exact HB.out)⟩⟩
    case rest =>
      clear HC5
      try clear c1
      try clear p2
      try clear c3
      try clear c3b0
      try clear c3b1
      try clear c6
      try clear c7
      try clear c7b0
      try clear c9
      try clear c9b0
      try clear c12
      try clear c14
      try clear c16
      try clear hcz10_0
      try clear hcz10_1
      try clear hcz10_2
      try clear hcz10_3
      try clear hcz10_4
      try clear hcz10_5
      try clear hcz18_0
      try clear hcz18_1
      try clear hcz18_2
      try clear hcz18_3
      try clear hcz18_4
      try clear hcz18_5
      try clear hcz19_0
      try clear hcz19_1
      try clear hcz19_2
      try clear hcz19_3
      try clear hcz19_4
      try clear hcz19_5
      try clear hcz20_0
      try clear hcz20_1
      try clear hcz20_2
      try clear hcz20_3
      try clear hcz20_4
      try clear hcz20_5
      try clear hcz21_0
      try clear hcz21_1
      try clear hcz21_2
      try clear hcz21_3
      try clear hcz21_4
      try clear hcz21_5
      try clear hcz8_0
      try clear hcz8_1
      try clear hcz8_2
      try clear hcz8_3
      try clear hcz8_4
      try clear hcz8_5
      try clear hfz10_0
      try clear hfz10_1
      try clear hfz10_2
      try clear hfz10_3
      try clear hfz10_4
      try clear hfz10_5
      try clear hfz18_0
      try clear hfz18_1
      try clear hfz18_2
      try clear hfz18_3
      try clear hfz18_4
      try clear hfz18_5
      try clear hfz19_0
      try clear hfz19_1
      try clear hfz19_2
      try clear hfz19_3
      try clear hfz19_4
      try clear hfz19_5
      try clear hfz20_0
      try clear hfz20_1
      try clear hfz20_2
      try clear hfz20_3
      try clear hfz20_4
      try clear hfz20_5
      try clear hfz21_0
      try clear hfz21_1
      try clear hfz21_2
      try clear hfz21_3
      try clear hfz21_4
      try clear hfz21_5
      try clear hfz8_0
      try clear hfz8_1
      try clear hfz8_2
      try clear hfz8_3
      try clear hfz8_4
      try clear hfz8_5
      obtain ⟨kq, x41_4, rfl, HA, HJ4, BK490, HB⟩ := hcut
      cases kq with
      | zero => exact absurd HA.out (by simp [calamusref05_PutHead.j0])
      | succ kj4 =>
        have H := HA.out
        clear HA
        simp only [calamusref05_PutHead.j0] at H
        by_cases c22 : x41_4 = true
        · subst c22
          have H1 : (some (([] : List Int), 6)) = some (r1, r2) := by rw [if_pos rfl] at H; exact H
          clear H
          have H := H1
          clear H1
          simp only [Option.some.injEq, Prod.mk.injEq] at H
          obtain ⟨rfl, rfl⟩ := H
          go_wp2
          go_ret2
          exact ⟨_, by first | rfl | (simp [errW_none, errW_some] <;> rfl) | (simp [*, errW_none, errW_some] <;> rfl), by first | exact Kd.R_nil _ _ _ _ _ | exact Kd.N_nil _ _ _ _ _ | exact Kd.V_nil _ _ _ _ _ | exact Kd.Q_nil _ _ _ _ _ | exact Kd.S_nil _ _ _ _ _, by repeat (first | (with_reducible first | exact HB.out | apply below_alloc | apply pw_below_drewN | apply below_drew1 | refine below_set ?_ GE490.out) | exact HB.out)⟩
        · replace c22 := Bool.eq_false_iff.mpr c22
          subst c22
          have H1 : ((calamusref05_lay.f kj4 l0 18 a1_0).bind fun t495 => ((calamusref05_lay.f kj4 t495 36 a1_1).bind fun t498 => ((calamusref05_lay.f kj4 t498 38 a1_2).bind fun t501 => ((calamusref05_lay.f kj4 t501 40 a1_3).bind fun t504 => ((calamusref05_lay.f kj4 t504 42 a1_4).bind fun t507 => (if a1_5 = true then ((calamusref05_lay.f kj4 t507 50 1).bind fun t510 => (some (t510, 0))) else ((calamusref05_lay.f kj4 t507 50 0).bind fun t513 => (some (t513, 0))))))))) = some (r1, r2) := by rw [if_neg (show ¬ (false = true) by decide)] at H; exact H
          clear H
          have H := H1
          clear H1
          replace H := Option.bind_eq_some_iff.mp H
          obtain ⟨t495, A230, H⟩ := H
          replace H : ((calamusref05_lay.f kj4 t495 36 a1_1).bind fun t498 => ((calamusref05_lay.f kj4 t498 38 a1_2).bind fun t501 => ((calamusref05_lay.f kj4 t501 40 a1_3).bind fun t504 => ((calamusref05_lay.f kj4 t504 42 a1_4).bind fun t507 => (if a1_5 = true then ((calamusref05_lay.f kj4 t507 50 1).bind fun t510 => (some (t510, 0))) else ((calamusref05_lay.f kj4 t507 50 0).bind fun t513 => (some (t513, 0)))))))) = some (r1, r2) := H
          have A23 := Aside0.mk A230
          clear A230
          replace H := Option.bind_eq_some_iff.mp H
          obtain ⟨t498, A240, H⟩ := H
          replace H : ((calamusref05_lay.f kj4 t498 38 a1_2).bind fun t501 => ((calamusref05_lay.f kj4 t501 40 a1_3).bind fun t504 => ((calamusref05_lay.f kj4 t504 42 a1_4).bind fun t507 => (if a1_5 = true then ((calamusref05_lay.f kj4 t507 50 1).bind fun t510 => (some (t510, 0))) else ((calamusref05_lay.f kj4 t507 50 0).bind fun t513 => (some (t513, 0))))))) = some (r1, r2) := H
          have A24 := Aside0.mk A240
          clear A240
          replace H := Option.bind_eq_some_iff.mp H
          obtain ⟨t501, A250, H⟩ := H
          replace H : ((calamusref05_lay.f kj4 t501 40 a1_3).bind fun t504 => ((calamusref05_lay.f kj4 t504 42 a1_4).bind fun t507 => (if a1_5 = true then ((calamusref05_lay.f kj4 t507 50 1).bind fun t510 => (some (t510, 0))) else ((calamusref05_lay.f kj4 t507 50 0).bind fun t513 => (some (t513, 0)))))) = some (r1, r2) := H
          have A25 := Aside0.mk A250
          clear A250
          replace H := Option.bind_eq_some_iff.mp H
          obtain ⟨t504, A260, H⟩ := H
          replace H : ((calamusref05_lay.f kj4 t504 42 a1_4).bind fun t507 => (if a1_5 = true then ((calamusref05_lay.f kj4 t507 50 1).bind fun t510 => (some (t510, 0))) else ((calamusref05_lay.f kj4 t507 50 0).bind fun t513 => (some (t513, 0))))) = some (r1, r2) := H
          have A26 := Aside0.mk A260
          clear A260
          replace H := Option.bind_eq_some_iff.mp H
          obtain ⟨t507, A270, H⟩ := H
          replace H : (if a1_5 = true then ((calamusref05_lay.f kj4 t507 50 1).bind fun t510 => (some (t510, 0))) else ((calamusref05_lay.f kj4 t507 50 0).bind fun t513 => (some (t513, 0)))) = some (r1, r2) := H
          have A27 := Aside0.mk A270
          clear A270
          by_cases c28 : a1_5 = true
          · subst c28
            have H1 : ((calamusref05_lay.f kj4 t507 50 1).bind fun t510 => (some (t510, 0))) = some (r1, r2) := by rw [if_pos rfl] at H; exact H
            clear H
            have H := H1
            clear H1
            replace H := Option.bind_eq_some_iff.mp H
            obtain ⟨t510, A290, H⟩ := H
            replace H : (some (t510, 0)) = some (r1, r2) := H
            have A29 := Aside0.mk A290
            clear A290
            simp only [Option.some.injEq, Prod.mk.injEq] at H
            obtain ⟨rfl, rfl⟩ := H
            try go_wp2
            have n0_ := Aside0.mk (blk_drew BK490.out)
            have n1_ := Aside0.mk (below_drew1 HB.out)
            clear BK490
            clear HB
            have BK490 := n0_
            have HB := n1_
            clear n0_ n1_
            refine start_ (n := 17) (S := fun w' => w'.cell? ⟨gb490, 0, none⟩ = some (.int .i64 a1_0) ∧ w'.cell? ⟨gb490, 1, none⟩ = some (.int .i64 a1_1) ∧ w'.cell? ⟨gb490, 2, none⟩ = some (.int .i64 a1_2) ∧ w'.cell? ⟨gb490, 3, none⟩ = some (.int .i64 a1_3) ∧ w'.cell? ⟨gb490, 4, none⟩ = some (.int .i64 a1_4) ∧ w'.cell? ⟨gb490, 5, none⟩ = some (.bool true)) (ds := []) #[false, false, false, false, false, false, false, false, false, false, false, false, false, false, false, false, false] (by kernel_rfl) rfl rfl ⟨(blk_cell BK490.out 0).trans rfl, (blk_cell BK490.out 1).trans rfl, (blk_cell BK490.out 2).trans rfl, (blk_cell BK490.out 3).trans rfl, (blk_cell BK490.out 4).trans rfl, (blk_cell BK490.out 5).trans rfl⟩ (fun hHeld => ?_); refine with_tabW calamusref05_PutHead.tab5 calamusref05_PutHead.bits5 (fun HT_ HW_ => ?_)
            generalize wc.drew = w30 at BK490 HB hHeld ⊢
            refine pure_ (i := 0) (N := some 42) (v := ?_) (a' := ?_) #[true, false, false, false, false, false, false, false, false, false, false, false, false, false, false, false, false] rfl rfl (any_of HT_.out (by kernel_rfl)) (fun _ _ _ h => h) (Or.inl ⟨by rfl, ?_⟩) ?_ ?_
            rotate_left
            · intro w'
              go_simp
              with_reducible rfl
            rotate_left
            · simp only [Act.put, List.setIfInBounds_toArray, List.set_cons_zero, List.set_cons_succ, i64_w, i32_w]
              rfl
            refine pure_ (i := 1) (N := some 43) (v := ?_) (a' := ?_) #[true, true, false, false, false, false, false, false, false, false, false, false, false, false, false, false, false] rfl rfl (any_of HT_.out (by kernel_rfl)) (fun _ _ _ h => h) (Or.inl ⟨by rfl, ?_⟩) ?_ ?_
            rotate_left
            · intro w'
              go_simp
              with_reducible rfl
            rotate_left
            · simp only [Act.put, List.setIfInBounds_toArray, List.set_cons_zero, List.set_cons_succ, i64_w, i32_w]
              rfl
            refine pure_ (i := 4) (N := some 46) (v := ?_) (a' := ?_) #[true, true, false, false, true, false, false, false, false, false, false, false, false, false, false, false, false] rfl rfl (any_of HT_.out (by kernel_rfl)) (fun _ _ _ h => h) (Or.inl ⟨by rfl, ?_⟩) ?_ ?_
            rotate_left
            · intro w'
              go_simp
              with_reducible rfl
            rotate_left
            · simp only [Act.put, List.setIfInBounds_toArray, List.set_cons_zero, List.set_cons_succ, i64_w, i32_w]
              rfl
            refine pure_ (i := 7) (N := some 49) (v := ?_) (a' := ?_) #[true, true, false, false, true, false, false, true, false, false, false, false, false, false, false, false, false] rfl rfl (any_of HT_.out (by kernel_rfl)) (fun _ _ _ h => h) (Or.inl ⟨by rfl, ?_⟩) ?_ ?_
            rotate_left
            · intro w'
              go_simp
              with_reducible rfl
            rotate_left
            · simp only [Act.put, List.setIfInBounds_toArray, List.set_cons_zero, List.set_cons_succ, i64_w, i32_w]
              rfl
            refine pure_ (i := 10) (N := some 52) (v := ?_) (a' := ?_) #[true, true, false, false, true, false, false, true, false, false, true, false, false, false, false, false, false] rfl rfl (any_of HT_.out (by kernel_rfl)) (fun _ _ _ h => h) (Or.inl ⟨by rfl, ?_⟩) ?_ ?_
            rotate_left
            · intro w'
              go_simp
              with_reducible rfl
            rotate_left
            · simp only [Act.put, List.setIfInBounds_toArray, List.set_cons_zero, List.set_cons_succ, i64_w, i32_w]
              rfl
            refine pure_ (i := 13) (N := some 55) (v := ?_) (a' := ?_) #[true, true, false, false, true, false, false, true, false, false, true, false, false, true, false, false, false] rfl rfl (any_of HT_.out (by kernel_rfl)) (fun _ _ _ h => h) (Or.inl ⟨by rfl, ?_⟩) ?_ ?_
            rotate_left
            · intro w'
              go_simp
              with_reducible rfl
            rotate_left
            · simp only [Act.put, List.setIfInBounds_toArray, List.set_cons_zero, List.set_cons_succ, i64_w, i32_w]
              rfl
            refine take_ (i := 2) (N := some 44) (v := ?_) (a' := ?_) #[true, true, true, false, true, false, false, true, false, false, true, false, false, true, false, false, false] rfl rfl (take_ofW HT_.out HW_.out (by kernel_rfl)) (fun _ _ _ h => h) (Or.inl ⟨by rfl, ?_⟩) hHeld ?_ ?_
            rotate_left
            · rintro w' ⟨s0, s1, s2, s3, s4, s5⟩
              go_simp
              with_reducible rfl
            rotate_left
            · simp only [Act.put, List.setIfInBounds_toArray, List.set_cons_zero, List.set_cons_succ, i64_w, i32_w]
              rfl
            refine take_ (i := 5) (N := some 47) (v := ?_) (a' := ?_) #[true, true, true, false, true, true, false, true, false, false, true, false, false, true, false, false, false] rfl rfl (take_ofW HT_.out HW_.out (by kernel_rfl)) (fun _ _ _ h => h) (Or.inl ⟨by rfl, ?_⟩) hHeld ?_ ?_
            rotate_left
            · rintro w' ⟨s0, s1, s2, s3, s4, s5⟩
              go_simp
              with_reducible rfl
            rotate_left
            · simp only [Act.put, List.setIfInBounds_toArray, List.set_cons_zero, List.set_cons_succ, i64_w, i32_w]
              rfl
            refine take_ (i := 8) (N := some 50) (v := ?_) (a' := ?_) #[true, true, true, false, true, true, false, true, true, false, true, false, false, true, false, false, false] rfl rfl (take_ofW HT_.out HW_.out (by kernel_rfl)) (fun _ _ _ h => h) (Or.inl ⟨by rfl, ?_⟩) hHeld ?_ ?_
            rotate_left
            · rintro w' ⟨s0, s1, s2, s3, s4, s5⟩
              go_simp
              with_reducible rfl
            rotate_left
            · simp only [Act.put, List.setIfInBounds_toArray, List.set_cons_zero, List.set_cons_succ, i64_w, i32_w]
              rfl
            refine take_ (i := 11) (N := some 53) (v := ?_) (a' := ?_) #[true, true, true, false, true, true, false, true, true, false, true, true, false, true, false, false, false] rfl rfl (take_ofW HT_.out HW_.out (by kernel_rfl)) (fun _ _ _ h => h) (Or.inl ⟨by rfl, ?_⟩) hHeld ?_ ?_
            rotate_left
            · rintro w' ⟨s0, s1, s2, s3, s4, s5⟩
              go_simp
              with_reducible rfl
            rotate_left
            · simp only [Act.put, List.setIfInBounds_toArray, List.set_cons_zero, List.set_cons_succ, i64_w, i32_w]
              rfl
            refine take_ (i := 14) (N := some 56) (v := ?_) (a' := ?_) #[true, true, true, false, true, true, false, true, true, false, true, true, false, true, true, false, false] rfl rfl (take_ofW HT_.out HW_.out (by kernel_rfl)) (fun _ _ _ h => h) (Or.inl ⟨by rfl, ?_⟩) hHeld ?_ ?_
            rotate_left
            · rintro w' ⟨s0, s1, s2, s3, s4, s5⟩
              go_simp
              with_reducible rfl
            rotate_left
            · simp only [Act.put, List.setIfInBounds_toArray, List.set_cons_zero, List.set_cons_succ, i64_w, i32_w]
              rfl
            refine one_ (i := 3) (N := some 45) #[true, true, true, true, true, true, false, true, true, false, true, true, false, true, true, false, false] rfl rfl (one_of HT_.out (by kernel_rfl)) (by decide) (fun K hK => ?_)
            refine goes_ Tryd.func42 (by kernel_rfl) rfl #[.slice A0 l0.length c0, .int .i64 18, .int .i64 a1_0] (by rfl) rfl rfl (by (try simp only [List.map_toArray, List.map_cons, List.map_nil]); first | done | rfl | (simp only [List.length_drop, List.length_take]; rfl)) ?_
            with_reducible refine (calamusref05_lay.calls kj4 _ _ l0 18 a1_0 t495 _ ?side1 ?side2 A23.out).mono ?_
            (case side1 => repeat (first | exact (Kd.C_below HR0.out HB.out) | (with_reducible refine Kd.C_alloc ?_ _) | (with_reducible refine Kd.C_drewN ?_ _) | (with_reducible refine Kd.C_drew ?_)))
            (case side2 => exact HC0.out)
            rintro e w31 ⟨v496, rfl, ho0, hb⟩
            refine ⟨_, rfl, ?_⟩
            have n0_ := Aside0.mk (Kd.R_lower ho0 (below_size (by repeat (first | (with_reducible first | exact HB.out | apply below_alloc | apply pw_below_drewN | apply below_drew1 | refine below_set ?_ GE490.out) | exact HB.out))))
            have n1_ := Aside0.mk (blk_below (g := gb490) (o := .cells #[.int .i64 a1_0, .int .i64 a1_1, .int .i64 a1_2, .int .i64 a1_3, .int .i64 a1_4, .bool true] 37 (0, 0)) (by (with_reducible repeat (first | refine blk_drewN ?_ _ | refine blk_drew ?_ | refine blk_alloc ?_ _)); exact BK490.out) hb)
            have n2_ := Aside0.mk (below_step (by repeat (first | (with_reducible first | exact HB.out | apply below_alloc | apply pw_below_drewN | apply below_drew1 | refine below_set ?_ GE490.out) | exact HB.out)) hb)
            clear BK490
            clear HB
            have HO497 := n0_
            have BK490 := n1_
            have HB := n2_
            clear n0_ n1_ n2_
            (try clear hb)
            (try clear hb2)
            (try clear hk)
            (try clear hi)
            (try clear ho0)
            obtain ⟨Ao32, co32, eo32⟩ := Kd.R_slice HO497.out
            (first | subst eo32 | (injection eo32 with f1_ f2_ f3_; have f4_ := f1_.symm; have f5_ := f3_.symm; clear f1_ f2_ f3_; subst f4_; subst f5_))
            refine hK.out _ _ ⟨(blk_cell BK490.out 0).trans rfl, (blk_cell BK490.out 1).trans rfl, (blk_cell BK490.out 2).trans rfl, (blk_cell BK490.out 3).trans rfl, (blk_cell BK490.out 4).trans rfl, (blk_cell BK490.out 5).trans rfl⟩ (fun hHeld => ?_)
            clear hK K
            refine norm_ (a' := ?_) ?_ ?_
            rotate_left
            · show Act.put _ (some 45) _ = _
              simp only [Act.put, List.setIfInBounds_toArray, List.set_cons_zero, List.set_cons_succ, i64_w, i32_w]
              rfl
            refine one_ (i := 6) (N := some 48) #[true, true, true, true, true, true, true, true, true, false, true, true, false, true, true, false, false] rfl rfl (one_of HT_.out (by kernel_rfl)) (by decide) (fun K hK => ?_)
            refine goes_ Tryd.func42 (by kernel_rfl) rfl #[.slice Ao32 t495.length co32, .int .i64 36, .int .i64 a1_1] (by rfl) rfl rfl (by (try simp only [List.map_toArray, List.map_cons, List.map_nil]); first | done | rfl | (simp only [List.length_drop, List.length_take]; rfl)) ?_
            with_reducible refine (calamusref05_lay.calls kj4 _ _ t495 36 a1_1 t498 _ ?side1 ?side2 A24.out).mono ?_
            (case side1 => repeat (first | exact (Kd.R_reads' HO497.out).2.2 | (with_reducible refine Kd.C_alloc ?_ _) | (with_reducible refine Kd.C_drewN ?_ _) | (with_reducible refine Kd.C_drew ?_)))
            (case side2 => exact (Kd.R_reads' HO497.out).2.1)
            rintro e w33 ⟨v499, rfl, ho0, hb⟩
            refine ⟨_, rfl, ?_⟩
            have n0_ := Aside0.mk (Kd.R_elder' (by (with_reducible repeat (first | apply Kd.R_alloc | apply Kd.R_drewN | apply Kd.R_drew)); exact HO497.out) (Kd.R_base ho0) hb)
            have n1_ := Aside0.mk (Kd.R_lower (Kd.R_new' ho0 (Kd.R_lt (by (with_reducible repeat (first | apply Kd.R_alloc | apply Kd.R_drewN | apply Kd.R_drew)); exact HO497.out))) (below_size (by repeat (first | (with_reducible first | exact HB.out | apply below_alloc | apply pw_below_drewN | apply below_drew1 | refine below_set ?_ GE490.out) | exact HB.out))))
            have n2_ := Aside0.mk (blk_below (g := gb490) (o := .cells #[.int .i64 a1_0, .int .i64 a1_1, .int .i64 a1_2, .int .i64 a1_3, .int .i64 a1_4, .bool true] 37 (0, 0)) (by (with_reducible repeat (first | refine blk_drewN ?_ _ | refine blk_drew ?_ | refine blk_alloc ?_ _)); exact BK490.out) hb)
            have n3_ := Aside0.mk (below_step (by repeat (first | (with_reducible first | exact HB.out | apply below_alloc | apply pw_below_drewN | apply below_drew1 | refine below_set ?_ GE490.out) | exact HB.out)) hb)
            clear HO497
            clear BK490
            clear HB
            have HO497 := n0_
            have HO500 := n1_
            have BK490 := n2_
            have HB := n3_
            clear n0_ n1_ n2_ n3_
            (try clear hb)
            (try clear hb2)
            (try clear hk)
            (try clear hi)
            (try clear ho0)
            obtain ⟨Ao34, co34, eo34⟩ := Kd.R_slice HO500.out
            (first | subst eo34 | (injection eo34 with f1_ f2_ f3_; have f4_ := f1_.symm; have f5_ := f3_.symm; clear f1_ f2_ f3_; subst f4_; subst f5_))
            refine hK.out _ _ ⟨(blk_cell BK490.out 0).trans rfl, (blk_cell BK490.out 1).trans rfl, (blk_cell BK490.out 2).trans rfl, (blk_cell BK490.out 3).trans rfl, (blk_cell BK490.out 4).trans rfl, (blk_cell BK490.out 5).trans rfl⟩ (fun hHeld => ?_)
            clear hK K
            refine norm_ (a' := ?_) ?_ ?_
            rotate_left
            · show Act.put _ (some 48) _ = _
              simp only [Act.put, List.setIfInBounds_toArray, List.set_cons_zero, List.set_cons_succ, i64_w, i32_w]
              rfl
            refine one_ (i := 9) (N := some 51) #[true, true, true, true, true, true, true, true, true, true, true, true, false, true, true, false, false] rfl rfl (one_of HT_.out (by kernel_rfl)) (by decide) (fun K hK => ?_)
            refine goes_ Tryd.func42 (by kernel_rfl) rfl #[.slice Ao34 t498.length co34, .int .i64 38, .int .i64 a1_2] (by rfl) rfl rfl (by (try simp only [List.map_toArray, List.map_cons, List.map_nil]); first | done | rfl | (simp only [List.length_drop, List.length_take]; rfl)) ?_
            with_reducible refine (calamusref05_lay.calls kj4 _ _ t498 38 a1_2 t501 _ ?side1 ?side2 A25.out).mono ?_
            (case side1 => repeat (first | exact (Kd.R_reads' HO500.out).2.2 | (with_reducible refine Kd.C_alloc ?_ _) | (with_reducible refine Kd.C_drewN ?_ _) | (with_reducible refine Kd.C_drew ?_)))
            (case side2 => exact (Kd.R_reads' HO500.out).2.1)
            rintro e w35 ⟨v502, rfl, ho0, hb⟩
            refine ⟨_, rfl, ?_⟩
            have n0_ := Aside0.mk (Kd.R_elder' (by (with_reducible repeat (first | apply Kd.R_alloc | apply Kd.R_drewN | apply Kd.R_drew)); exact HO497.out) (Kd.R_base ho0) hb)
            have n1_ := Aside0.mk (Kd.R_elder' (by (with_reducible repeat (first | apply Kd.R_alloc | apply Kd.R_drewN | apply Kd.R_drew)); exact HO500.out) (Kd.R_base ho0) hb)
            have n2_ := Aside0.mk (Kd.R_lower (Kd.R_new' (Kd.R_new' ho0 (Kd.R_lt (by (with_reducible repeat (first | apply Kd.R_alloc | apply Kd.R_drewN | apply Kd.R_drew)); exact HO497.out))) (Kd.R_lt (by (with_reducible repeat (first | apply Kd.R_alloc | apply Kd.R_drewN | apply Kd.R_drew)); exact HO500.out))) (below_size (by repeat (first | (with_reducible first | exact HB.out | apply below_alloc | apply pw_below_drewN | apply below_drew1 | refine below_set ?_ GE490.out) | exact HB.out))))
            have n3_ := Aside0.mk (blk_below (g := gb490) (o := .cells #[.int .i64 a1_0, .int .i64 a1_1, .int .i64 a1_2, .int .i64 a1_3, .int .i64 a1_4, .bool true] 37 (0, 0)) (by (with_reducible repeat (first | refine blk_drewN ?_ _ | refine blk_drew ?_ | refine blk_alloc ?_ _)); exact BK490.out) hb)
            have n4_ := Aside0.mk (below_step (by repeat (first | (with_reducible first | exact HB.out | apply below_alloc | apply pw_below_drewN | apply below_drew1 | refine below_set ?_ GE490.out) | exact HB.out)) hb)
            clear HO497
            clear HO500
            clear BK490
            clear HB
            have HO497 := n0_
            have HO500 := n1_
            have HO503 := n2_
            have BK490 := n3_
            have HB := n4_
            clear n0_ n1_ n2_ n3_ n4_
            (try clear hb)
            (try clear hb2)
            (try clear hk)
            (try clear hi)
            (try clear ho0)
            obtain ⟨Ao36, co36, eo36⟩ := Kd.R_slice HO503.out
            (first | subst eo36 | (injection eo36 with f1_ f2_ f3_; have f4_ := f1_.symm; have f5_ := f3_.symm; clear f1_ f2_ f3_; subst f4_; subst f5_))
            refine hK.out _ _ ⟨(blk_cell BK490.out 0).trans rfl, (blk_cell BK490.out 1).trans rfl, (blk_cell BK490.out 2).trans rfl, (blk_cell BK490.out 3).trans rfl, (blk_cell BK490.out 4).trans rfl, (blk_cell BK490.out 5).trans rfl⟩ (fun hHeld => ?_)
            clear hK K
            refine norm_ (a' := ?_) ?_ ?_
            rotate_left
            · show Act.put _ (some 51) _ = _
              simp only [Act.put, List.setIfInBounds_toArray, List.set_cons_zero, List.set_cons_succ, i64_w, i32_w]
              rfl
            refine one_ (i := 12) (N := some 54) #[true, true, true, true, true, true, true, true, true, true, true, true, true, true, true, false, false] rfl rfl (one_of HT_.out (by kernel_rfl)) (by decide) (fun K hK => ?_)
            refine goes_ Tryd.func42 (by kernel_rfl) rfl #[.slice Ao36 t501.length co36, .int .i64 40, .int .i64 a1_3] (by rfl) rfl rfl (by (try simp only [List.map_toArray, List.map_cons, List.map_nil]); first | done | rfl | (simp only [List.length_drop, List.length_take]; rfl)) ?_
            with_reducible refine (calamusref05_lay.calls kj4 _ _ t501 40 a1_3 t504 _ ?side1 ?side2 A26.out).mono ?_
            (case side1 => repeat (first | exact (Kd.R_reads' HO503.out).2.2 | (with_reducible refine Kd.C_alloc ?_ _) | (with_reducible refine Kd.C_drewN ?_ _) | (with_reducible refine Kd.C_drew ?_)))
            (case side2 => exact (Kd.R_reads' HO503.out).2.1)
            rintro e w37 ⟨v505, rfl, ho0, hb⟩
            refine ⟨_, rfl, ?_⟩
            have n0_ := Aside0.mk (Kd.R_elder' (by (with_reducible repeat (first | apply Kd.R_alloc | apply Kd.R_drewN | apply Kd.R_drew)); exact HO497.out) (Kd.R_base ho0) hb)
            have n1_ := Aside0.mk (Kd.R_elder' (by (with_reducible repeat (first | apply Kd.R_alloc | apply Kd.R_drewN | apply Kd.R_drew)); exact HO500.out) (Kd.R_base ho0) hb)
            have n2_ := Aside0.mk (Kd.R_elder' (by (with_reducible repeat (first | apply Kd.R_alloc | apply Kd.R_drewN | apply Kd.R_drew)); exact HO503.out) (Kd.R_base ho0) hb)
            have n3_ := Aside0.mk (Kd.R_lower (Kd.R_new' (Kd.R_new' (Kd.R_new' ho0 (Kd.R_lt (by (with_reducible repeat (first | apply Kd.R_alloc | apply Kd.R_drewN | apply Kd.R_drew)); exact HO497.out))) (Kd.R_lt (by (with_reducible repeat (first | apply Kd.R_alloc | apply Kd.R_drewN | apply Kd.R_drew)); exact HO500.out))) (Kd.R_lt (by (with_reducible repeat (first | apply Kd.R_alloc | apply Kd.R_drewN | apply Kd.R_drew)); exact HO503.out))) (below_size (by repeat (first | (with_reducible first | exact HB.out | apply below_alloc | apply pw_below_drewN | apply below_drew1 | refine below_set ?_ GE490.out) | exact HB.out))))
            have n4_ := Aside0.mk (blk_below (g := gb490) (o := .cells #[.int .i64 a1_0, .int .i64 a1_1, .int .i64 a1_2, .int .i64 a1_3, .int .i64 a1_4, .bool true] 37 (0, 0)) (by (with_reducible repeat (first | refine blk_drewN ?_ _ | refine blk_drew ?_ | refine blk_alloc ?_ _)); exact BK490.out) hb)
            have n5_ := Aside0.mk (below_step (by repeat (first | (with_reducible first | exact HB.out | apply below_alloc | apply pw_below_drewN | apply below_drew1 | refine below_set ?_ GE490.out) | exact HB.out)) hb)
            clear HO497
            clear HO500
            clear HO503
            clear BK490
            clear HB
            have HO497 := n0_
            have HO500 := n1_
            have HO503 := n2_
            have HO506 := n3_
            have BK490 := n4_
            have HB := n5_
            clear n0_ n1_ n2_ n3_ n4_ n5_
            (try clear hb)
            (try clear hb2)
            (try clear hk)
            (try clear hi)
            (try clear ho0)
            obtain ⟨Ao38, co38, eo38⟩ := Kd.R_slice HO506.out
            (first | subst eo38 | (injection eo38 with f1_ f2_ f3_; have f4_ := f1_.symm; have f5_ := f3_.symm; clear f1_ f2_ f3_; subst f4_; subst f5_))
            refine hK.out _ _ ⟨(blk_cell BK490.out 0).trans rfl, (blk_cell BK490.out 1).trans rfl, (blk_cell BK490.out 2).trans rfl, (blk_cell BK490.out 3).trans rfl, (blk_cell BK490.out 4).trans rfl, (blk_cell BK490.out 5).trans rfl⟩ (fun hHeld => ?_)
            clear hK K
            refine norm_ (a' := ?_) ?_ ?_
            rotate_left
            · show Act.put _ (some 54) _ = _
              simp only [Act.put, List.setIfInBounds_toArray, List.set_cons_zero, List.set_cons_succ, i64_w, i32_w]
              rfl
            refine one_ (i := 15) (N := some 57) #[true, true, true, true, true, true, true, true, true, true, true, true, true, true, true, true, false] rfl rfl (one_of HT_.out (by kernel_rfl)) (by decide) (fun K hK => ?_)
            refine goes_ Tryd.func42 (by kernel_rfl) rfl #[.slice Ao38 t504.length co38, .int .i64 42, .int .i64 a1_4] (by rfl) rfl rfl (by (try simp only [List.map_toArray, List.map_cons, List.map_nil]); first | done | rfl | (simp only [List.length_drop, List.length_take]; rfl)) ?_
            with_reducible refine (calamusref05_lay.calls kj4 _ _ t504 42 a1_4 t507 _ ?side1 ?side2 A27.out).mono ?_
            (case side1 => repeat (first | exact (Kd.R_reads' HO506.out).2.2 | (with_reducible refine Kd.C_alloc ?_ _) | (with_reducible refine Kd.C_drewN ?_ _) | (with_reducible refine Kd.C_drew ?_)))
            (case side2 => exact (Kd.R_reads' HO506.out).2.1)
            rintro e w39 ⟨v508, rfl, ho0, hb⟩
            refine ⟨_, rfl, ?_⟩
            have n0_ := Aside0.mk (Kd.R_elder' (by (with_reducible repeat (first | apply Kd.R_alloc | apply Kd.R_drewN | apply Kd.R_drew)); exact HO497.out) (Kd.R_base ho0) hb)
            have n1_ := Aside0.mk (Kd.R_elder' (by (with_reducible repeat (first | apply Kd.R_alloc | apply Kd.R_drewN | apply Kd.R_drew)); exact HO500.out) (Kd.R_base ho0) hb)
            have n2_ := Aside0.mk (Kd.R_elder' (by (with_reducible repeat (first | apply Kd.R_alloc | apply Kd.R_drewN | apply Kd.R_drew)); exact HO503.out) (Kd.R_base ho0) hb)
            have n3_ := Aside0.mk (Kd.R_elder' (by (with_reducible repeat (first | apply Kd.R_alloc | apply Kd.R_drewN | apply Kd.R_drew)); exact HO506.out) (Kd.R_base ho0) hb)
            have n4_ := Aside0.mk (Kd.R_lower (Kd.R_new' (Kd.R_new' (Kd.R_new' (Kd.R_new' ho0 (Kd.R_lt (by (with_reducible repeat (first | apply Kd.R_alloc | apply Kd.R_drewN | apply Kd.R_drew)); exact HO497.out))) (Kd.R_lt (by (with_reducible repeat (first | apply Kd.R_alloc | apply Kd.R_drewN | apply Kd.R_drew)); exact HO500.out))) (Kd.R_lt (by (with_reducible repeat (first | apply Kd.R_alloc | apply Kd.R_drewN | apply Kd.R_drew)); exact HO503.out))) (Kd.R_lt (by (with_reducible repeat (first | apply Kd.R_alloc | apply Kd.R_drewN | apply Kd.R_drew)); exact HO506.out))) (below_size (by repeat (first | (with_reducible first | exact HB.out | apply below_alloc | apply pw_below_drewN | apply below_drew1 | refine below_set ?_ GE490.out) | exact HB.out))))
            have n5_ := Aside0.mk (blk_below (g := gb490) (o := .cells #[.int .i64 a1_0, .int .i64 a1_1, .int .i64 a1_2, .int .i64 a1_3, .int .i64 a1_4, .bool true] 37 (0, 0)) (by (with_reducible repeat (first | refine blk_drewN ?_ _ | refine blk_drew ?_ | refine blk_alloc ?_ _)); exact BK490.out) hb)
            have n6_ := Aside0.mk (below_step (by repeat (first | (with_reducible first | exact HB.out | apply below_alloc | apply pw_below_drewN | apply below_drew1 | refine below_set ?_ GE490.out) | exact HB.out)) hb)
            clear HO497
            clear HO500
            clear HO503
            clear HO506
            clear BK490
            clear HB
            have HO497 := n0_
            have HO500 := n1_
            have HO503 := n2_
            have HO506 := n3_
            have HO509 := n4_
            have BK490 := n5_
            have HB := n6_
            clear n0_ n1_ n2_ n3_ n4_ n5_ n6_
            (try clear hb)
            (try clear hb2)
            (try clear hk)
            (try clear hi)
            (try clear ho0)
            refine hK.out _ _ ⟨(blk_cell BK490.out 0).trans rfl, (blk_cell BK490.out 1).trans rfl, (blk_cell BK490.out 2).trans rfl, (blk_cell BK490.out 3).trans rfl, (blk_cell BK490.out 4).trans rfl, (blk_cell BK490.out 5).trans rfl⟩ (fun hHeld => ?_)
            clear hK K
            refine norm_ (a' := ?_) ?_ ?_
            rotate_left
            · show Act.put _ (some 57) _ = _
              simp only [Act.put, List.setIfInBounds_toArray, List.set_cons_zero, List.set_cons_succ, i64_w, i32_w]
              rfl
            refine pure_ (i := 16) (N := some 6) (v := ?_) (a' := ?_) #[true, true, true, true, true, true, true, true, true, true, true, true, true, true, true, true, true] rfl rfl (any_of HT_.out (by kernel_rfl)) (fun _ _ _ h => h) (Or.inl ⟨by rfl, ?_⟩) ?_ ?_
            rotate_left
            · intro w'
              go_simp
              with_reducible rfl
            rotate_left
            · simp only [Act.put, List.setIfInBounds_toArray, List.set_cons_zero, List.set_cons_succ, i64_w, i32_w]
              rfl
            refine done_ (done_of HT_.out (by kernel_rfl)) ?_
            have hcz40_0 : w39.cell? ⟨gb490, 0, none⟩ = some (.int .i64 a1_0) := (blk_cell BK490.out 0).trans rfl
            have hcz40_1 : w39.cell? ⟨gb490, 1, none⟩ = some (.int .i64 a1_1) := (blk_cell BK490.out 1).trans rfl
            have hcz40_2 : w39.cell? ⟨gb490, 2, none⟩ = some (.int .i64 a1_2) := (blk_cell BK490.out 2).trans rfl
            have hcz40_3 : w39.cell? ⟨gb490, 3, none⟩ = some (.int .i64 a1_3) := (blk_cell BK490.out 3).trans rfl
            have hcz40_4 : w39.cell? ⟨gb490, 4, none⟩ = some (.int .i64 a1_4) := (blk_cell BK490.out 4).trans rfl
            have hcz40_5 : w39.cell? ⟨gb490, 5, none⟩ = some (.bool true) := (blk_cell BK490.out 5).trans rfl
            have hfz40_0 := blk_frozen BK490.out 0
            have hfz40_1 := blk_frozen BK490.out 1
            have hfz40_2 := blk_frozen BK490.out 2
            have hfz40_3 := blk_frozen BK490.out 3
            have hfz40_4 := blk_frozen BK490.out 4
            have hfz40_5 := blk_frozen BK490.out 5
            obtain ⟨Ao41, co41, eo41⟩ := Kd.R_slice HO509.out
            subst eo41
            try go_wp2_with (first | ((with_reducible refine gate_callee (f := 42) rfl ?_); refine goesL_ (some 61) rfl rfl Tryd.func42 (by kernel_rfl) rfl #[.slice Ao41 t507.length co41, .int .i64 50, .int .i64 1] rfl (by (try simp only [List.map_toArray, List.map_cons, List.map_nil]); first | done | rfl | (simp only [List.length_drop, List.length_take]; rfl)) ?_; (with_reducible refine (calamusref05_lay.calls kj4 _ _ t507 50 1 t510 _ ?side1 ?side2 A29.out).mono ?_); (case side1 => repeat (first | exact (Kd.R_reads' HO509.out).2.2 | (with_reducible refine Kd.C_alloc ?_ _) | (with_reducible refine Kd.C_drewN ?_ _) | (with_reducible refine Kd.C_drew ?_))); (case side2 => exact (Kd.R_reads' HO509.out).2.1); rintro e w42 ⟨v511, rfl, ho0, hb⟩; refine ⟨_, rfl, ?_⟩; have n0_ := Aside0.mk (Kd.R_elder' (by (with_reducible repeat (first | apply Kd.R_alloc | apply Kd.R_drewN | apply Kd.R_drew)); exact HO497.out) (Kd.R_base ho0) hb); have n1_ := Aside0.mk (Kd.R_elder' (by (with_reducible repeat (first | apply Kd.R_alloc | apply Kd.R_drewN | apply Kd.R_drew)); exact HO500.out) (Kd.R_base ho0) hb); have n2_ := Aside0.mk (Kd.R_elder' (by (with_reducible repeat (first | apply Kd.R_alloc | apply Kd.R_drewN | apply Kd.R_drew)); exact HO503.out) (Kd.R_base ho0) hb); have n3_ := Aside0.mk (Kd.R_elder' (by (with_reducible repeat (first | apply Kd.R_alloc | apply Kd.R_drewN | apply Kd.R_drew)); exact HO506.out) (Kd.R_base ho0) hb); have n4_ := Aside0.mk (Kd.R_elder' (by (with_reducible repeat (first | apply Kd.R_alloc | apply Kd.R_drewN | apply Kd.R_drew)); exact HO509.out) (Kd.R_base ho0) hb); have n5_ := Aside0.mk (Kd.R_lower (Kd.R_new' (Kd.R_new' (Kd.R_new' (Kd.R_new' (Kd.R_new' ho0 (Kd.R_lt (by (with_reducible repeat (first | apply Kd.R_alloc | apply Kd.R_drewN | apply Kd.R_drew)); exact HO497.out))) (Kd.R_lt (by (with_reducible repeat (first | apply Kd.R_alloc | apply Kd.R_drewN | apply Kd.R_drew)); exact HO500.out))) (Kd.R_lt (by (with_reducible repeat (first | apply Kd.R_alloc | apply Kd.R_drewN | apply Kd.R_drew)); exact HO503.out))) (Kd.R_lt (by (with_reducible repeat (first | apply Kd.R_alloc | apply Kd.R_drewN | apply Kd.R_drew)); exact HO506.out))) (Kd.R_lt (by (with_reducible repeat (first | apply Kd.R_alloc | apply Kd.R_drewN | apply Kd.R_drew)); exact HO509.out))) (below_size (by repeat (first | (with_reducible first | exact HB.out | apply below_alloc | apply pw_below_drewN | apply below_drew1 | refine below_set ?_ GE490.out) | exact HB.out)))); have n6_ := Aside0.mk (blk_below (g := gb490) (o := .cells #[.int .i64 a1_0, .int .i64 a1_1, .int .i64 a1_2, .int .i64 a1_3, .int .i64 a1_4, .bool true] 37 (0, 0)) (by (with_reducible repeat (first | refine blk_drewN ?_ _ | refine blk_drew ?_ | refine blk_alloc ?_ _)); exact BK490.out) hb); have n7_ := Aside0.mk (below_step (by repeat (first | (with_reducible first | exact HB.out | apply below_alloc | apply pw_below_drewN | apply below_drew1 | refine below_set ?_ GE490.out) | exact HB.out)) hb); clear HO497; clear HO500; clear HO503; clear HO506; clear HO509; clear BK490; clear HB; have HO497 := n0_; have HO500 := n1_; have HO503 := n2_; have HO506 := n3_; have HO509 := n4_; have HO512 := n5_; have BK490 := n6_; have HB := n7_; clear n0_ n1_ n2_ n3_ n4_ n5_ n6_ n7_; (try clear hb); (try clear hb2); (try clear hk); (try clear hi); (try clear ho0)))
            go_ret2
            exact ⟨_, by first | rfl | (simp [errW_none, errW_some] <;> rfl) | (simp [*, errW_none, errW_some] <;> rfl), by (with_reducible repeat (first | apply Kd.R_alloc | apply Kd.R_drewN | apply Kd.R_drew)); exact Kd.R_mono HO512.out (fun _ hk => trivial), by repeat (first | (with_reducible first | exact HB.out | apply below_alloc | apply pw_below_drewN | apply below_drew1 | refine below_set ?_ GE490.out) | exact HB.out)⟩
          · replace c28 := Bool.eq_false_iff.mpr c28
            subst c28
            have H1 : ((calamusref05_lay.f kj4 t507 50 0).bind fun t513 => (some (t513, 0))) = some (r1, r2) := by rw [if_neg (show ¬ (false = true) by decide)] at H; exact H
            clear H
            have H := H1
            clear H1
            replace H := Option.bind_eq_some_iff.mp H
            obtain ⟨t513, A430, H⟩ := H
            replace H : (some (t513, 0)) = some (r1, r2) := H
            have A43 := Aside0.mk A430
            clear A430
            simp only [Option.some.injEq, Prod.mk.injEq] at H
            obtain ⟨rfl, rfl⟩ := H
            try go_wp2
            have n0_ := Aside0.mk (blk_drew BK490.out)
            have n1_ := Aside0.mk (below_drew1 HB.out)
            clear BK490
            clear HB
            have BK490 := n0_
            have HB := n1_
            clear n0_ n1_
            refine start_ (n := 17) (S := fun w' => w'.cell? ⟨gb490, 0, none⟩ = some (.int .i64 a1_0) ∧ w'.cell? ⟨gb490, 1, none⟩ = some (.int .i64 a1_1) ∧ w'.cell? ⟨gb490, 2, none⟩ = some (.int .i64 a1_2) ∧ w'.cell? ⟨gb490, 3, none⟩ = some (.int .i64 a1_3) ∧ w'.cell? ⟨gb490, 4, none⟩ = some (.int .i64 a1_4) ∧ w'.cell? ⟨gb490, 5, none⟩ = some (.bool false)) (ds := []) #[false, false, false, false, false, false, false, false, false, false, false, false, false, false, false, false, false] (by kernel_rfl) rfl rfl ⟨(blk_cell BK490.out 0).trans rfl, (blk_cell BK490.out 1).trans rfl, (blk_cell BK490.out 2).trans rfl, (blk_cell BK490.out 3).trans rfl, (blk_cell BK490.out 4).trans rfl, (blk_cell BK490.out 5).trans rfl⟩ (fun hHeld => ?_); refine with_tabW calamusref05_PutHead.tab5 calamusref05_PutHead.bits5 (fun HT_ HW_ => ?_)
            generalize wc.drew = w44 at BK490 HB hHeld ⊢
            refine pure_ (i := 0) (N := some 42) (v := ?_) (a' := ?_) #[true, false, false, false, false, false, false, false, false, false, false, false, false, false, false, false, false] rfl rfl (any_of HT_.out (by kernel_rfl)) (fun _ _ _ h => h) (Or.inl ⟨by rfl, ?_⟩) ?_ ?_
            rotate_left
            · intro w'
              go_simp
              with_reducible rfl
            rotate_left
            · simp only [Act.put, List.setIfInBounds_toArray, List.set_cons_zero, List.set_cons_succ, i64_w, i32_w]
              rfl
            refine pure_ (i := 1) (N := some 43) (v := ?_) (a' := ?_) #[true, true, false, false, false, false, false, false, false, false, false, false, false, false, false, false, false] rfl rfl (any_of HT_.out (by kernel_rfl)) (fun _ _ _ h => h) (Or.inl ⟨by rfl, ?_⟩) ?_ ?_
            rotate_left
            · intro w'
              go_simp
              with_reducible rfl
            rotate_left
            · simp only [Act.put, List.setIfInBounds_toArray, List.set_cons_zero, List.set_cons_succ, i64_w, i32_w]
              rfl
            refine pure_ (i := 4) (N := some 46) (v := ?_) (a' := ?_) #[true, true, false, false, true, false, false, false, false, false, false, false, false, false, false, false, false] rfl rfl (any_of HT_.out (by kernel_rfl)) (fun _ _ _ h => h) (Or.inl ⟨by rfl, ?_⟩) ?_ ?_
            rotate_left
            · intro w'
              go_simp
              with_reducible rfl
            rotate_left
            · simp only [Act.put, List.setIfInBounds_toArray, List.set_cons_zero, List.set_cons_succ, i64_w, i32_w]
              rfl
            refine pure_ (i := 7) (N := some 49) (v := ?_) (a' := ?_) #[true, true, false, false, true, false, false, true, false, false, false, false, false, false, false, false, false] rfl rfl (any_of HT_.out (by kernel_rfl)) (fun _ _ _ h => h) (Or.inl ⟨by rfl, ?_⟩) ?_ ?_
            rotate_left
            · intro w'
              go_simp
              with_reducible rfl
            rotate_left
            · simp only [Act.put, List.setIfInBounds_toArray, List.set_cons_zero, List.set_cons_succ, i64_w, i32_w]
              rfl
            refine pure_ (i := 10) (N := some 52) (v := ?_) (a' := ?_) #[true, true, false, false, true, false, false, true, false, false, true, false, false, false, false, false, false] rfl rfl (any_of HT_.out (by kernel_rfl)) (fun _ _ _ h => h) (Or.inl ⟨by rfl, ?_⟩) ?_ ?_
            rotate_left
            · intro w'
              go_simp
              with_reducible rfl
            rotate_left
            · simp only [Act.put, List.setIfInBounds_toArray, List.set_cons_zero, List.set_cons_succ, i64_w, i32_w]
              rfl
            refine pure_ (i := 13) (N := some 55) (v := ?_) (a' := ?_) #[true, true, false, false, true, false, false, true, false, false, true, false, false, true, false, false, false] rfl rfl (any_of HT_.out (by kernel_rfl)) (fun _ _ _ h => h) (Or.inl ⟨by rfl, ?_⟩) ?_ ?_
            rotate_left
            · intro w'
              go_simp
              with_reducible rfl
            rotate_left
            · simp only [Act.put, List.setIfInBounds_toArray, List.set_cons_zero, List.set_cons_succ, i64_w, i32_w]
              rfl
            refine take_ (i := 2) (N := some 44) (v := ?_) (a' := ?_) #[true, true, true, false, true, false, false, true, false, false, true, false, false, true, false, false, false] rfl rfl (take_ofW HT_.out HW_.out (by kernel_rfl)) (fun _ _ _ h => h) (Or.inl ⟨by rfl, ?_⟩) hHeld ?_ ?_
            rotate_left
            · rintro w' ⟨s0, s1, s2, s3, s4, s5⟩
              go_simp
              with_reducible rfl
            rotate_left
            · simp only [Act.put, List.setIfInBounds_toArray, List.set_cons_zero, List.set_cons_succ, i64_w, i32_w]
              rfl
            refine take_ (i := 5) (N := some 47) (v := ?_) (a' := ?_) #[true, true, true, false, true, true, false, true, false, false, true, false, false, true, false, false, false] rfl rfl (take_ofW HT_.out HW_.out (by kernel_rfl)) (fun _ _ _ h => h) (Or.inl ⟨by rfl, ?_⟩) hHeld ?_ ?_
            rotate_left
            · rintro w' ⟨s0, s1, s2, s3, s4, s5⟩
              go_simp
              with_reducible rfl
            rotate_left
            · simp only [Act.put, List.setIfInBounds_toArray, List.set_cons_zero, List.set_cons_succ, i64_w, i32_w]
              rfl
            refine take_ (i := 8) (N := some 50) (v := ?_) (a' := ?_) #[true, true, true, false, true, true, false, true, true, false, true, false, false, true, false, false, false] rfl rfl (take_ofW HT_.out HW_.out (by kernel_rfl)) (fun _ _ _ h => h) (Or.inl ⟨by rfl, ?_⟩) hHeld ?_ ?_
            rotate_left
            · rintro w' ⟨s0, s1, s2, s3, s4, s5⟩
              go_simp
              with_reducible rfl
            rotate_left
            · simp only [Act.put, List.setIfInBounds_toArray, List.set_cons_zero, List.set_cons_succ, i64_w, i32_w]
              rfl
            refine take_ (i := 11) (N := some 53) (v := ?_) (a' := ?_) #[true, true, true, false, true, true, false, true, true, false, true, true, false, true, false, false, false] rfl rfl (take_ofW HT_.out HW_.out (by kernel_rfl)) (fun _ _ _ h => h) (Or.inl ⟨by rfl, ?_⟩) hHeld ?_ ?_
            rotate_left
            · rintro w' ⟨s0, s1, s2, s3, s4, s5⟩
              go_simp
              with_reducible rfl
            rotate_left
            · simp only [Act.put, List.setIfInBounds_toArray, List.set_cons_zero, List.set_cons_succ, i64_w, i32_w]
              rfl
            refine take_ (i := 14) (N := some 56) (v := ?_) (a' := ?_) #[true, true, true, false, true, true, false, true, true, false, true, true, false, true, true, false, false] rfl rfl (take_ofW HT_.out HW_.out (by kernel_rfl)) (fun _ _ _ h => h) (Or.inl ⟨by rfl, ?_⟩) hHeld ?_ ?_
            rotate_left
            · rintro w' ⟨s0, s1, s2, s3, s4, s5⟩
              go_simp
              with_reducible rfl
            rotate_left
            · simp only [Act.put, List.setIfInBounds_toArray, List.set_cons_zero, List.set_cons_succ, i64_w, i32_w]
              rfl
            refine one_ (i := 3) (N := some 45) #[true, true, true, true, true, true, false, true, true, false, true, true, false, true, true, false, false] rfl rfl (one_of HT_.out (by kernel_rfl)) (by decide) (fun K hK => ?_)
            refine goes_ Tryd.func42 (by kernel_rfl) rfl #[.slice A0 l0.length c0, .int .i64 18, .int .i64 a1_0] (by rfl) rfl rfl (by (try simp only [List.map_toArray, List.map_cons, List.map_nil]); first | done | rfl | (simp only [List.length_drop, List.length_take]; rfl)) ?_
            with_reducible refine (calamusref05_lay.calls kj4 _ _ l0 18 a1_0 t495 _ ?side1 ?side2 A23.out).mono ?_
            (case side1 => repeat (first | exact (Kd.C_below HR0.out HB.out) | (with_reducible refine Kd.C_alloc ?_ _) | (with_reducible refine Kd.C_drewN ?_ _) | (with_reducible refine Kd.C_drew ?_)))
            (case side2 => exact HC0.out)
            rintro e w45 ⟨v496, rfl, ho0, hb⟩
            refine ⟨_, rfl, ?_⟩
            have n0_ := Aside0.mk (Kd.R_lower ho0 (below_size (by repeat (first | (with_reducible first | exact HB.out | apply below_alloc | apply pw_below_drewN | apply below_drew1 | refine below_set ?_ GE490.out) | exact HB.out))))
            have n1_ := Aside0.mk (blk_below (g := gb490) (o := .cells #[.int .i64 a1_0, .int .i64 a1_1, .int .i64 a1_2, .int .i64 a1_3, .int .i64 a1_4, .bool false] 37 (0, 0)) (by (with_reducible repeat (first | refine blk_drewN ?_ _ | refine blk_drew ?_ | refine blk_alloc ?_ _)); exact BK490.out) hb)
            have n2_ := Aside0.mk (below_step (by repeat (first | (with_reducible first | exact HB.out | apply below_alloc | apply pw_below_drewN | apply below_drew1 | refine below_set ?_ GE490.out) | exact HB.out)) hb)
            clear BK490
            clear HB
            have HO497 := n0_
            have BK490 := n1_
            have HB := n2_
            clear n0_ n1_ n2_
            (try clear hb)
            (try clear hb2)
            (try clear hk)
            (try clear hi)
            (try clear ho0)
            obtain ⟨Ao46, co46, eo46⟩ := Kd.R_slice HO497.out
            (first | subst eo46 | (injection eo46 with f1_ f2_ f3_; have f4_ := f1_.symm; have f5_ := f3_.symm; clear f1_ f2_ f3_; subst f4_; subst f5_))
            refine hK.out _ _ ⟨(blk_cell BK490.out 0).trans rfl, (blk_cell BK490.out 1).trans rfl, (blk_cell BK490.out 2).trans rfl, (blk_cell BK490.out 3).trans rfl, (blk_cell BK490.out 4).trans rfl, (blk_cell BK490.out 5).trans rfl⟩ (fun hHeld => ?_)
            clear hK K
            refine norm_ (a' := ?_) ?_ ?_
            rotate_left
            · show Act.put _ (some 45) _ = _
              simp only [Act.put, List.setIfInBounds_toArray, List.set_cons_zero, List.set_cons_succ, i64_w, i32_w]
              rfl
            refine one_ (i := 6) (N := some 48) #[true, true, true, true, true, true, true, true, true, false, true, true, false, true, true, false, false] rfl rfl (one_of HT_.out (by kernel_rfl)) (by decide) (fun K hK => ?_)
            refine goes_ Tryd.func42 (by kernel_rfl) rfl #[.slice Ao46 t495.length co46, .int .i64 36, .int .i64 a1_1] (by rfl) rfl rfl (by (try simp only [List.map_toArray, List.map_cons, List.map_nil]); first | done | rfl | (simp only [List.length_drop, List.length_take]; rfl)) ?_
            with_reducible refine (calamusref05_lay.calls kj4 _ _ t495 36 a1_1 t498 _ ?side1 ?side2 A24.out).mono ?_
            (case side1 => repeat (first | exact (Kd.R_reads' HO497.out).2.2 | (with_reducible refine Kd.C_alloc ?_ _) | (with_reducible refine Kd.C_drewN ?_ _) | (with_reducible refine Kd.C_drew ?_)))
            (case side2 => exact (Kd.R_reads' HO497.out).2.1)
            rintro e w47 ⟨v499, rfl, ho0, hb⟩
            refine ⟨_, rfl, ?_⟩
            have n0_ := Aside0.mk (Kd.R_elder' (by (with_reducible repeat (first | apply Kd.R_alloc | apply Kd.R_drewN | apply Kd.R_drew)); exact HO497.out) (Kd.R_base ho0) hb)
            have n1_ := Aside0.mk (Kd.R_lower (Kd.R_new' ho0 (Kd.R_lt (by (with_reducible repeat (first | apply Kd.R_alloc | apply Kd.R_drewN | apply Kd.R_drew)); exact HO497.out))) (below_size (by repeat (first | (with_reducible first | exact HB.out | apply below_alloc | apply pw_below_drewN | apply below_drew1 | refine below_set ?_ GE490.out) | exact HB.out))))
            have n2_ := Aside0.mk (blk_below (g := gb490) (o := .cells #[.int .i64 a1_0, .int .i64 a1_1, .int .i64 a1_2, .int .i64 a1_3, .int .i64 a1_4, .bool false] 37 (0, 0)) (by (with_reducible repeat (first | refine blk_drewN ?_ _ | refine blk_drew ?_ | refine blk_alloc ?_ _)); exact BK490.out) hb)
            have n3_ := Aside0.mk (below_step (by repeat (first | (with_reducible first | exact HB.out | apply below_alloc | apply pw_below_drewN | apply below_drew1 | refine below_set ?_ GE490.out) | exact HB.out)) hb)
            clear HO497
            clear BK490
            clear HB
            have HO497 := n0_
            have HO500 := n1_
            have BK490 := n2_
            have HB := n3_
            clear n0_ n1_ n2_ n3_
            (try clear hb)
            (try clear hb2)
            (try clear hk)
            (try clear hi)
            (try clear ho0)
            obtain ⟨Ao48, co48, eo48⟩ := Kd.R_slice HO500.out
            (first | subst eo48 | (injection eo48 with f1_ f2_ f3_; have f4_ := f1_.symm; have f5_ := f3_.symm; clear f1_ f2_ f3_; subst f4_; subst f5_))
            refine hK.out _ _ ⟨(blk_cell BK490.out 0).trans rfl, (blk_cell BK490.out 1).trans rfl, (blk_cell BK490.out 2).trans rfl, (blk_cell BK490.out 3).trans rfl, (blk_cell BK490.out 4).trans rfl, (blk_cell BK490.out 5).trans rfl⟩ (fun hHeld => ?_)
            clear hK K
            refine norm_ (a' := ?_) ?_ ?_
            rotate_left
            · show Act.put _ (some 48) _ = _
              simp only [Act.put, List.setIfInBounds_toArray, List.set_cons_zero, List.set_cons_succ, i64_w, i32_w]
              rfl
            refine one_ (i := 9) (N := some 51) #[true, true, true, true, true, true, true, true, true, true, true, true, false, true, true, false, false] rfl rfl (one_of HT_.out (by kernel_rfl)) (by decide) (fun K hK => ?_)
            refine goes_ Tryd.func42 (by kernel_rfl) rfl #[.slice Ao48 t498.length co48, .int .i64 38, .int .i64 a1_2] (by rfl) rfl rfl (by (try simp only [List.map_toArray, List.map_cons, List.map_nil]); first | done | rfl | (simp only [List.length_drop, List.length_take]; rfl)) ?_
            with_reducible refine (calamusref05_lay.calls kj4 _ _ t498 38 a1_2 t501 _ ?side1 ?side2 A25.out).mono ?_
            (case side1 => repeat (first | exact (Kd.R_reads' HO500.out).2.2 | (with_reducible refine Kd.C_alloc ?_ _) | (with_reducible refine Kd.C_drewN ?_ _) | (with_reducible refine Kd.C_drew ?_)))
            (case side2 => exact (Kd.R_reads' HO500.out).2.1)
            rintro e w49 ⟨v502, rfl, ho0, hb⟩
            refine ⟨_, rfl, ?_⟩
            have n0_ := Aside0.mk (Kd.R_elder' (by (with_reducible repeat (first | apply Kd.R_alloc | apply Kd.R_drewN | apply Kd.R_drew)); exact HO497.out) (Kd.R_base ho0) hb)
            have n1_ := Aside0.mk (Kd.R_elder' (by (with_reducible repeat (first | apply Kd.R_alloc | apply Kd.R_drewN | apply Kd.R_drew)); exact HO500.out) (Kd.R_base ho0) hb)
            have n2_ := Aside0.mk (Kd.R_lower (Kd.R_new' (Kd.R_new' ho0 (Kd.R_lt (by (with_reducible repeat (first | apply Kd.R_alloc | apply Kd.R_drewN | apply Kd.R_drew)); exact HO497.out))) (Kd.R_lt (by (with_reducible repeat (first | apply Kd.R_alloc | apply Kd.R_drewN | apply Kd.R_drew)); exact HO500.out))) (below_size (by repeat (first | (with_reducible first | exact HB.out | apply below_alloc | apply pw_below_drewN | apply below_drew1 | refine below_set ?_ GE490.out) | exact HB.out))))
            have n3_ := Aside0.mk (blk_below (g := gb490) (o := .cells #[.int .i64 a1_0, .int .i64 a1_1, .int .i64 a1_2, .int .i64 a1_3, .int .i64 a1_4, .bool false] 37 (0, 0)) (by (with_reducible repeat (first | refine blk_drewN ?_ _ | refine blk_drew ?_ | refine blk_alloc ?_ _)); exact BK490.out) hb)
            have n4_ := Aside0.mk (below_step (by repeat (first | (with_reducible first | exact HB.out | apply below_alloc | apply pw_below_drewN | apply below_drew1 | refine below_set ?_ GE490.out) | exact HB.out)) hb)
            clear HO497
            clear HO500
            clear BK490
            clear HB
            have HO497 := n0_
            have HO500 := n1_
            have HO503 := n2_
            have BK490 := n3_
            have HB := n4_
            clear n0_ n1_ n2_ n3_ n4_
            (try clear hb)
            (try clear hb2)
            (try clear hk)
            (try clear hi)
            (try clear ho0)
            obtain ⟨Ao50, co50, eo50⟩ := Kd.R_slice HO503.out
            (first | subst eo50 | (injection eo50 with f1_ f2_ f3_; have f4_ := f1_.symm; have f5_ := f3_.symm; clear f1_ f2_ f3_; subst f4_; subst f5_))
            refine hK.out _ _ ⟨(blk_cell BK490.out 0).trans rfl, (blk_cell BK490.out 1).trans rfl, (blk_cell BK490.out 2).trans rfl, (blk_cell BK490.out 3).trans rfl, (blk_cell BK490.out 4).trans rfl, (blk_cell BK490.out 5).trans rfl⟩ (fun hHeld => ?_)
            clear hK K
            refine norm_ (a' := ?_) ?_ ?_
            rotate_left
            · show Act.put _ (some 51) _ = _
              simp only [Act.put, List.setIfInBounds_toArray, List.set_cons_zero, List.set_cons_succ, i64_w, i32_w]
              rfl
            refine one_ (i := 12) (N := some 54) #[true, true, true, true, true, true, true, true, true, true, true, true, true, true, true, false, false] rfl rfl (one_of HT_.out (by kernel_rfl)) (by decide) (fun K hK => ?_)
            refine goes_ Tryd.func42 (by kernel_rfl) rfl #[.slice Ao50 t501.length co50, .int .i64 40, .int .i64 a1_3] (by rfl) rfl rfl (by (try simp only [List.map_toArray, List.map_cons, List.map_nil]); first | done | rfl | (simp only [List.length_drop, List.length_take]; rfl)) ?_
            with_reducible refine (calamusref05_lay.calls kj4 _ _ t501 40 a1_3 t504 _ ?side1 ?side2 A26.out).mono ?_
            (case side1 => repeat (first | exact (Kd.R_reads' HO503.out).2.2 | (with_reducible refine Kd.C_alloc ?_ _) | (with_reducible refine Kd.C_drewN ?_ _) | (with_reducible refine Kd.C_drew ?_)))
            (case side2 => exact (Kd.R_reads' HO503.out).2.1)
            rintro e w51 ⟨v505, rfl, ho0, hb⟩
            refine ⟨_, rfl, ?_⟩
            have n0_ := Aside0.mk (Kd.R_elder' (by (with_reducible repeat (first | apply Kd.R_alloc | apply Kd.R_drewN | apply Kd.R_drew)); exact HO497.out) (Kd.R_base ho0) hb)
            have n1_ := Aside0.mk (Kd.R_elder' (by (with_reducible repeat (first | apply Kd.R_alloc | apply Kd.R_drewN | apply Kd.R_drew)); exact HO500.out) (Kd.R_base ho0) hb)
            have n2_ := Aside0.mk (Kd.R_elder' (by (with_reducible repeat (first | apply Kd.R_alloc | apply Kd.R_drewN | apply Kd.R_drew)); exact HO503.out) (Kd.R_base ho0) hb)
            have n3_ := Aside0.mk (Kd.R_lower (Kd.R_new' (Kd.R_new' (Kd.R_new' ho0 (Kd.R_lt (by (with_reducible repeat (first | apply Kd.R_alloc | apply Kd.R_drewN | apply Kd.R_drew)); exact HO497.out))) (Kd.R_lt (by (with_reducible repeat (first | apply Kd.R_alloc | apply Kd.R_drewN | apply Kd.R_drew)); exact HO500.out))) (Kd.R_lt (by (with_reducible repeat (first | apply Kd.R_alloc | apply Kd.R_drewN | apply Kd.R_drew)); exact HO503.out))) (below_size (by repeat (first | (with_reducible first | exact HB.out | apply below_alloc | apply pw_below_drewN | apply below_drew1 | refine below_set ?_ GE490.out) | exact HB.out))))
            have n4_ := Aside0.mk (blk_below (g := gb490) (o := .cells #[.int .i64 a1_0, .int .i64 a1_1, .int .i64 a1_2, .int .i64 a1_3, .int .i64 a1_4, .bool false] 37 (0, 0)) (by (with_reducible repeat (first | refine blk_drewN ?_ _ | refine blk_drew ?_ | refine blk_alloc ?_ _)); exact BK490.out) hb)
            have n5_ := Aside0.mk (below_step (by repeat (first | (with_reducible first | exact HB.out | apply below_alloc | apply pw_below_drewN | apply below_drew1 | refine below_set ?_ GE490.out) | exact HB.out)) hb)
            clear HO497
            clear HO500
            clear HO503
            clear BK490
            clear HB
            have HO497 := n0_
            have HO500 := n1_
            have HO503 := n2_
            have HO506 := n3_
            have BK490 := n4_
            have HB := n5_
            clear n0_ n1_ n2_ n3_ n4_ n5_
            (try clear hb)
            (try clear hb2)
            (try clear hk)
            (try clear hi)
            (try clear ho0)
            obtain ⟨Ao52, co52, eo52⟩ := Kd.R_slice HO506.out
            (first | subst eo52 | (injection eo52 with f1_ f2_ f3_; have f4_ := f1_.symm; have f5_ := f3_.symm; clear f1_ f2_ f3_; subst f4_; subst f5_))
            refine hK.out _ _ ⟨(blk_cell BK490.out 0).trans rfl, (blk_cell BK490.out 1).trans rfl, (blk_cell BK490.out 2).trans rfl, (blk_cell BK490.out 3).trans rfl, (blk_cell BK490.out 4).trans rfl, (blk_cell BK490.out 5).trans rfl⟩ (fun hHeld => ?_)
            clear hK K
            refine norm_ (a' := ?_) ?_ ?_
            rotate_left
            · show Act.put _ (some 54) _ = _
              simp only [Act.put, List.setIfInBounds_toArray, List.set_cons_zero, List.set_cons_succ, i64_w, i32_w]
              rfl
            refine one_ (i := 15) (N := some 57) #[true, true, true, true, true, true, true, true, true, true, true, true, true, true, true, true, false] rfl rfl (one_of HT_.out (by kernel_rfl)) (by decide) (fun K hK => ?_)
            refine goes_ Tryd.func42 (by kernel_rfl) rfl #[.slice Ao52 t504.length co52, .int .i64 42, .int .i64 a1_4] (by rfl) rfl rfl (by (try simp only [List.map_toArray, List.map_cons, List.map_nil]); first | done | rfl | (simp only [List.length_drop, List.length_take]; rfl)) ?_
            with_reducible refine (calamusref05_lay.calls kj4 _ _ t504 42 a1_4 t507 _ ?side1 ?side2 A27.out).mono ?_
            (case side1 => repeat (first | exact (Kd.R_reads' HO506.out).2.2 | (with_reducible refine Kd.C_alloc ?_ _) | (with_reducible refine Kd.C_drewN ?_ _) | (with_reducible refine Kd.C_drew ?_)))
            (case side2 => exact (Kd.R_reads' HO506.out).2.1)
            rintro e w53 ⟨v508, rfl, ho0, hb⟩
            refine ⟨_, rfl, ?_⟩
            have n0_ := Aside0.mk (Kd.R_elder' (by (with_reducible repeat (first | apply Kd.R_alloc | apply Kd.R_drewN | apply Kd.R_drew)); exact HO497.out) (Kd.R_base ho0) hb)
            have n1_ := Aside0.mk (Kd.R_elder' (by (with_reducible repeat (first | apply Kd.R_alloc | apply Kd.R_drewN | apply Kd.R_drew)); exact HO500.out) (Kd.R_base ho0) hb)
            have n2_ := Aside0.mk (Kd.R_elder' (by (with_reducible repeat (first | apply Kd.R_alloc | apply Kd.R_drewN | apply Kd.R_drew)); exact HO503.out) (Kd.R_base ho0) hb)
            have n3_ := Aside0.mk (Kd.R_elder' (by (with_reducible repeat (first | apply Kd.R_alloc | apply Kd.R_drewN | apply Kd.R_drew)); exact HO506.out) (Kd.R_base ho0) hb)
            have n4_ := Aside0.mk (Kd.R_lower (Kd.R_new' (Kd.R_new' (Kd.R_new' (Kd.R_new' ho0 (Kd.R_lt (by (with_reducible repeat (first | apply Kd.R_alloc | apply Kd.R_drewN | apply Kd.R_drew)); exact HO497.out))) (Kd.R_lt (by (with_reducible repeat (first | apply Kd.R_alloc | apply Kd.R_drewN | apply Kd.R_drew)); exact HO500.out))) (Kd.R_lt (by (with_reducible repeat (first | apply Kd.R_alloc | apply Kd.R_drewN | apply Kd.R_drew)); exact HO503.out))) (Kd.R_lt (by (with_reducible repeat (first | apply Kd.R_alloc | apply Kd.R_drewN | apply Kd.R_drew)); exact HO506.out))) (below_size (by repeat (first | (with_reducible first | exact HB.out | apply below_alloc | apply pw_below_drewN | apply below_drew1 | refine below_set ?_ GE490.out) | exact HB.out))))
            have n5_ := Aside0.mk (blk_below (g := gb490) (o := .cells #[.int .i64 a1_0, .int .i64 a1_1, .int .i64 a1_2, .int .i64 a1_3, .int .i64 a1_4, .bool false] 37 (0, 0)) (by (with_reducible repeat (first | refine blk_drewN ?_ _ | refine blk_drew ?_ | refine blk_alloc ?_ _)); exact BK490.out) hb)
            have n6_ := Aside0.mk (below_step (by repeat (first | (with_reducible first | exact HB.out | apply below_alloc | apply pw_below_drewN | apply below_drew1 | refine below_set ?_ GE490.out) | exact HB.out)) hb)
            clear HO497
            clear HO500
            clear HO503
            clear HO506
            clear BK490
            clear HB
            have HO497 := n0_
            have HO500 := n1_
            have HO503 := n2_
            have HO506 := n3_
            have HO509 := n4_
            have BK490 := n5_
            have HB := n6_
            clear n0_ n1_ n2_ n3_ n4_ n5_ n6_
            (try clear hb)
            (try clear hb2)
            (try clear hk)
            (try clear hi)
            (try clear ho0)
            refine hK.out _ _ ⟨(blk_cell BK490.out 0).trans rfl, (blk_cell BK490.out 1).trans rfl, (blk_cell BK490.out 2).trans rfl, (blk_cell BK490.out 3).trans rfl, (blk_cell BK490.out 4).trans rfl, (blk_cell BK490.out 5).trans rfl⟩ (fun hHeld => ?_)
            clear hK K
            refine norm_ (a' := ?_) ?_ ?_
            rotate_left
            · show Act.put _ (some 57) _ = _
              simp only [Act.put, List.setIfInBounds_toArray, List.set_cons_zero, List.set_cons_succ, i64_w, i32_w]
              rfl
            refine pure_ (i := 16) (N := some 6) (v := ?_) (a' := ?_) #[true, true, true, true, true, true, true, true, true, true, true, true, true, true, true, true, true] rfl rfl (any_of HT_.out (by kernel_rfl)) (fun _ _ _ h => h) (Or.inl ⟨by rfl, ?_⟩) ?_ ?_
            rotate_left
            · intro w'
              go_simp
              with_reducible rfl
            rotate_left
            · simp only [Act.put, List.setIfInBounds_toArray, List.set_cons_zero, List.set_cons_succ, i64_w, i32_w]
              rfl
            refine done_ (done_of HT_.out (by kernel_rfl)) ?_
            have hcz54_0 : w53.cell? ⟨gb490, 0, none⟩ = some (.int .i64 a1_0) := (blk_cell BK490.out 0).trans rfl
            have hcz54_1 : w53.cell? ⟨gb490, 1, none⟩ = some (.int .i64 a1_1) := (blk_cell BK490.out 1).trans rfl
            have hcz54_2 : w53.cell? ⟨gb490, 2, none⟩ = some (.int .i64 a1_2) := (blk_cell BK490.out 2).trans rfl
            have hcz54_3 : w53.cell? ⟨gb490, 3, none⟩ = some (.int .i64 a1_3) := (blk_cell BK490.out 3).trans rfl
            have hcz54_4 : w53.cell? ⟨gb490, 4, none⟩ = some (.int .i64 a1_4) := (blk_cell BK490.out 4).trans rfl
            have hcz54_5 : w53.cell? ⟨gb490, 5, none⟩ = some (.bool false) := (blk_cell BK490.out 5).trans rfl
            have hfz54_0 := blk_frozen BK490.out 0
            have hfz54_1 := blk_frozen BK490.out 1
            have hfz54_2 := blk_frozen BK490.out 2
            have hfz54_3 := blk_frozen BK490.out 3
            have hfz54_4 := blk_frozen BK490.out 4
            have hfz54_5 := blk_frozen BK490.out 5
            obtain ⟨Ao55, co55, eo55⟩ := Kd.R_slice HO509.out
            subst eo55
            try go_wp2_with (first | ((with_reducible refine gate_callee (f := 42) rfl ?_); refine goesL_ (some 63) rfl rfl Tryd.func42 (by kernel_rfl) rfl #[.slice Ao55 t507.length co55, .int .i64 50, .int .i64 0] rfl (by (try simp only [List.map_toArray, List.map_cons, List.map_nil]); first | done | rfl | (simp only [List.length_drop, List.length_take]; rfl)) ?_; (with_reducible refine (calamusref05_lay.calls kj4 _ _ t507 50 0 t513 _ ?side1 ?side2 A43.out).mono ?_); (case side1 => repeat (first | exact (Kd.R_reads' HO509.out).2.2 | (with_reducible refine Kd.C_alloc ?_ _) | (with_reducible refine Kd.C_drewN ?_ _) | (with_reducible refine Kd.C_drew ?_))); (case side2 => exact (Kd.R_reads' HO509.out).2.1); rintro e w56 ⟨v514, rfl, ho0, hb⟩; refine ⟨_, rfl, ?_⟩; have n0_ := Aside0.mk (Kd.R_elder' (by (with_reducible repeat (first | apply Kd.R_alloc | apply Kd.R_drewN | apply Kd.R_drew)); exact HO497.out) (Kd.R_base ho0) hb); have n1_ := Aside0.mk (Kd.R_elder' (by (with_reducible repeat (first | apply Kd.R_alloc | apply Kd.R_drewN | apply Kd.R_drew)); exact HO500.out) (Kd.R_base ho0) hb); have n2_ := Aside0.mk (Kd.R_elder' (by (with_reducible repeat (first | apply Kd.R_alloc | apply Kd.R_drewN | apply Kd.R_drew)); exact HO503.out) (Kd.R_base ho0) hb); have n3_ := Aside0.mk (Kd.R_elder' (by (with_reducible repeat (first | apply Kd.R_alloc | apply Kd.R_drewN | apply Kd.R_drew)); exact HO506.out) (Kd.R_base ho0) hb); have n4_ := Aside0.mk (Kd.R_elder' (by (with_reducible repeat (first | apply Kd.R_alloc | apply Kd.R_drewN | apply Kd.R_drew)); exact HO509.out) (Kd.R_base ho0) hb); have n5_ := Aside0.mk (Kd.R_lower (Kd.R_new' (Kd.R_new' (Kd.R_new' (Kd.R_new' (Kd.R_new' ho0 (Kd.R_lt (by (with_reducible repeat (first | apply Kd.R_alloc | apply Kd.R_drewN | apply Kd.R_drew)); exact HO497.out))) (Kd.R_lt (by (with_reducible repeat (first | apply Kd.R_alloc | apply Kd.R_drewN | apply Kd.R_drew)); exact HO500.out))) (Kd.R_lt (by (with_reducible repeat (first | apply Kd.R_alloc | apply Kd.R_drewN | apply Kd.R_drew)); exact HO503.out))) (Kd.R_lt (by (with_reducible repeat (first | apply Kd.R_alloc | apply Kd.R_drewN | apply Kd.R_drew)); exact HO506.out))) (Kd.R_lt (by (with_reducible repeat (first | apply Kd.R_alloc | apply Kd.R_drewN | apply Kd.R_drew)); exact HO509.out))) (below_size (by repeat (first | (with_reducible first | exact HB.out | apply below_alloc | apply pw_below_drewN | apply below_drew1 | refine below_set ?_ GE490.out) | exact HB.out)))); have n6_ := Aside0.mk (blk_below (g := gb490) (o := .cells #[.int .i64 a1_0, .int .i64 a1_1, .int .i64 a1_2, .int .i64 a1_3, .int .i64 a1_4, .bool false] 37 (0, 0)) (by (with_reducible repeat (first | refine blk_drewN ?_ _ | refine blk_drew ?_ | refine blk_alloc ?_ _)); exact BK490.out) hb); have n7_ := Aside0.mk (below_step (by repeat (first | (with_reducible first | exact HB.out | apply below_alloc | apply pw_below_drewN | apply below_drew1 | refine below_set ?_ GE490.out) | exact HB.out)) hb); clear HO497; clear HO500; clear HO503; clear HO506; clear HO509; clear BK490; clear HB; have HO497 := n0_; have HO500 := n1_; have HO503 := n2_; have HO506 := n3_; have HO509 := n4_; have HO515 := n5_; have BK490 := n6_; have HB := n7_; clear n0_ n1_ n2_ n3_ n4_ n5_ n6_ n7_; (try clear hb); (try clear hb2); (try clear hk); (try clear hi); (try clear ho0)))
            go_ret2
            exact ⟨_, by first | rfl | (simp [errW_none, errW_some] <;> rfl) | (simp [*, errW_none, errW_some] <;> rfl), by (with_reducible repeat (first | apply Kd.R_alloc | apply Kd.R_drewN | apply Kd.R_drew)); exact Kd.R_mono HO515.out (fun _ hk => trivial), by repeat (first | (with_reducible first | exact HB.out | apply below_alloc | apply pw_below_drewN | apply below_drew1 | refine below_set ?_ GE490.out) | exact HB.out)⟩

end Go.Proofs.YtcclmaicdmogjaaDoor.P

-- Written by wip/pr.py over the kit's print
namespace Go.Proofs.YtcclmaicdmogjaaDoor.P
open Go.RowKit Go.Proofs.YtcclmaicdmogjaaDoorW.PrintWords Go.Proofs.YtcclmaicdmogjaaDoorW.PrintLast Go.Proofs.YtcclmaicdmogjaaDoorW.PrintMore
attribute [local go_sem] max2_int min2_int max_two min_two max_three min_three max_four min_four   -- for this text's walks alone
set_option linter.unusedVariables false
set_option linter.unusedSimpArgs false

/-! ### calamusref02_U: function 69 -/
mutual
def calamusref02_U.j0 : Nat → List Int → Int → Int → Bool → Option (Int × Int)
  | 0, _, _, _, _ => none
  | k + 1, x0, x1, x2, x15 => if x15 = true then (some (0, 2)) else ((calamusref02_There.f x0 x1 x2).bind fun t180 => (if t180 = true then (calamusref02_U.l0 k x0 x1 x2 0 x1) else (some (0, 3))))
def calamusref02_U.l0 : Nat → List Int → Int → Int → Int → Int → Option (Int × Int)
  | 0, _, _, _, _, _ => none
  | k + 1, x0, x1, x2, x8, x9 => if x9 < (wrap64 (x1 + x2)) then (if 0 ≤ x9 then (if x9 < (x0.length : Int) then (calamusref02_U.l0 k x0 x1 x2 (wrap64 ((wrap64 (256 * x8)) + (wrap64 (rd x0 x9)))) (wrap64 (x9 + 1))) else (none)) else (none)) else (some (x8, 0))
end
def calamusref02_U.f (k : Nat) (l0 : List Int) (a1 : Int) (a2 : Int) : Option (Int × Int) := if a2 < 1 then (calamusref02_U.j0 k l0 a1 a2 true) else (calamusref02_U.j0 k l0 a1 a2 (decide (a2 > 4)))
theorem calamusref02_U.mono_l : ∀ k, (∀ y0 y1 y2 y3, LeO (calamusref02_U.j0 k y0 y1 y2 y3) (calamusref02_U.j0 (k + 1) y0 y1 y2 y3)) ∧ (∀ y0 y1 y2 y3 y4, LeO (calamusref02_U.l0 k y0 y1 y2 y3 y4) (calamusref02_U.l0 (k + 1) y0 y1 y2 y3 y4))
  | 0 => ⟨fun _ _ _ _ r h => by simp [calamusref02_U.j0] at h, fun _ _ _ _ _ r h => by simp [calamusref02_U.l0] at h⟩
  | k + 1 => by
    obtain ⟨ih0, ih1⟩ := calamusref02_U.mono_l k
    refine ⟨?_, ?_⟩
    · intro y0 y1 y2 y3
      unfold calamusref02_U.j0
      repeat' first
      | (with_reducible exact ih0 _ _ _ _)
      | (with_reducible exact ih1 _ _ _ _ _)
      | (with_reducible exact LeO.refl _)
      | (with_reducible exact LeO.none _)
      | (with_reducible refine LeO.ite ?_ ?_)
      | (with_reducible refine LeO.bind ?_ (fun _ => ?_))
      | exact ih0 _ _ _ _
      | exact ih1 _ _ _ _ _
      | exact LeO.none _
      | refine LeO.ite ?_ ?_
      | refine LeO.bind ?_ (fun _ => ?_)
    · intro y0 y1 y2 y3 y4
      unfold calamusref02_U.l0
      repeat' first
      | (with_reducible exact ih0 _ _ _ _)
      | (with_reducible exact ih1 _ _ _ _ _)
      | (with_reducible exact LeO.refl _)
      | (with_reducible exact LeO.none _)
      | (with_reducible refine LeO.ite ?_ ?_)
      | (with_reducible refine LeO.bind ?_ (fun _ => ?_))
      | exact ih0 _ _ _ _
      | exact ih1 _ _ _ _ _
      | exact LeO.none _
      | refine LeO.ite ?_ ?_
      | refine LeO.bind ?_ (fun _ => ?_)
theorem calamusref02_U.mono : ∀ a0 a1 a2 k, LeO (calamusref02_U.f k a0 a1 a2) (calamusref02_U.f (k + 1) a0 a1 a2) := by
  intro a0 a1 a2 k
  obtain ⟨ih0, ih1⟩ := calamusref02_U.mono_l k
  unfold calamusref02_U.f
  repeat' first
      | (with_reducible exact ih0 _ _ _ _)
      | (with_reducible exact ih1 _ _ _ _ _)
      | (with_reducible exact LeO.refl _)
      | (with_reducible exact LeO.none _)
      | (with_reducible refine LeO.ite ?_ ?_)
      | (with_reducible refine LeO.bind ?_ (fun _ => ?_))
      | exact ih0 _ _ _ _
      | exact ih1 _ _ _ _ _
      | exact LeO.none _
      | refine LeO.ite ?_ ?_
      | refine LeO.bind ?_ (fun _ => ?_)
set_option maxHeartbeats 8000000 in
set_option maxRecDepth 100000 in
theorem calamusref02_U.calls (k : Nat) (A0 : Option Addr) (c0 : Nat) (l0 : List Int) (a1 : Int) (a2 : Int) (r1 : Int) (r2 : Int) (w : World) (hr0 : Kd.C (Kd.int .u8) w A0 l0.length l0) (hc0 : l0.length ≤ c0) (h : calamusref02_U.f k l0 a1 a2 = some (r1, r2)) :
    Calls Tryd.prog 69 #[.slice A0 l0.length c0, .int .i64 a1, .int .i64 a2] w fun e w' => e = .returned (.tuple #[.int .i64 r1, .int .i64 r2]) ∧ Drawn0 w w' := by
  have HR0 := Aside0.mk hr0
  have HC0 := Aside0.mk hc0
  clear hr0 hc0
  have H : (if a2 < 1 then (calamusref02_U.j0 k l0 a1 a2 true) else (calamusref02_U.j0 k l0 a1 a2 (decide (a2 > 4)))) = some (r1, r2) := h
  clear h
  have HC4 := Aside0.mk H
  clear H
  go_enter Tryd.func69, Tryd.ntmps69
  go_upto_region 1 with (fail)
  go_cut [15] (fun v15 wc => ∃ (kq : Nat) (x15_3 : Bool), v15 = .bool x15_3 ∧ Aside0 (calamusref02_U.j0 kq l0 a1 a2 x15_3 = some (r1, r2)) ∧ Aside0 (kq ≤ k) ∧ Drawn0 w wc)
  case first =>
    have H := HC4.out
    clear HC4
    by_cases c5 : a2 < 1
    · rw [if_pos c5] at H
      have c5b0 : decide (a2 < 1) = true := decide_eq_true c5
      clear c5
      (first | rw [c5b0] | (simp only [i64_w, i32_w]; rw [c5b0]) | skip)
      have H' := Aside0.mk H
      clear H
      go_wp2
      go_meet
      case rel => exact ⟨_, (true), (by first | rfl | (simp; done) | (simp [*]; done)), H', ⟨by first | omega | exact Nat.le_refl _⟩, by repeat (first | exact Drawn0.refl _ | apply Drawn0.step)⟩
    · rw [if_neg c5] at H
      have c5b0 : decide (a2 < 1) = false := decide_eq_false c5
      clear c5
      (first | rw [c5b0] | (simp only [i64_w, i32_w]; rw [c5b0]) | skip)
      have H' := Aside0.mk H
      clear H
      go_wp2
      go_meet
      case rel => exact ⟨_, (decide (a2 > 4)), (by first | rfl | (simp; done) | (simp [*]; done)), H', ⟨by first | omega | exact Nat.le_refl _⟩, by repeat (first | exact Drawn0.refl _ | apply Drawn0.step)⟩
  case rest =>
    clear HC4
    try clear p2
    try clear c5
    try clear c5b0
    obtain ⟨kq, x15_3, rfl, HA, HJ3, ⟨mc3, rfl⟩⟩ := hcut
    cases kq with
    | zero => exact absurd HA.out (by simp [calamusref02_U.j0])
    | succ kj3 =>
      have H := HA.out
      clear HA
      simp only [calamusref02_U.j0] at H
      by_cases c6 : x15_3 = true
      · subst c6
        have H1 : (some (0, 2)) = some (r1, r2) := by rw [if_pos rfl] at H; exact H
        clear H
        have H := H1
        clear H1
        simp only [Option.some.injEq, Prod.mk.injEq] at H
        obtain ⟨rfl, rfl⟩ := H
        go_wp2
        go_ret2
        exact ⟨by first | rfl | (simp; done) | (simp [*]; done), by repeat (first | exact Drawn0.refl _ | apply Drawn0.step)⟩
      · replace c6 := Bool.eq_false_iff.mpr c6
        subst c6
        have H1 : ((calamusref02_There.f l0 a1 a2).bind fun t180 => (if t180 = true then (calamusref02_U.l0 kj3 l0 a1 a2 0 a1) else (some (0, 3)))) = some (r1, r2) := by rw [if_neg (show ¬ (false = true) by decide)] at H; exact H
        clear H
        have H := H1
        clear H1
        replace H := Option.bind_eq_some_iff.mp H
        obtain ⟨t180, A70, H⟩ := H
        replace H : (if t180 = true then (calamusref02_U.l0 kj3 l0 a1 a2 0 a1) else (some (0, 3))) = some (r1, r2) := H
        have A7 := Aside0.mk A70
        clear A70
        by_cases c8 : t180 = true
        · subst c8
          have H1 : (calamusref02_U.l0 kj3 l0 a1 a2 0 a1) = some (r1, r2) := by rw [if_pos rfl] at H; exact H
          clear H
          have H := H1
          clear H1
          have H' := Aside0.mk H
          clear H
          go_wp2_with (first | ((with_reducible refine gate_callee (f := 100) rfl ?_); refine goesL_ (some 19) rfl rfl Tryd.func100 (by kernel_rfl) rfl #[.slice A0 l0.length c0, .int .i64 a1, .int .i64 a2] rfl (by (try simp only [List.map_toArray, List.map_cons, List.map_nil]); first | done | rfl | (simp only [List.length_drop, List.length_take]; rfl)) ?_; (with_reducible refine (calamusref02_There.calls _ _ l0 a1 a2 true _ ?side1 ?side2 A7.out).mono ?_); (case side1 => repeat (first | exact HR0.out | (with_reducible refine Kd.C_alloc ?_ _) | (with_reducible refine Kd.C_drewN ?_ _) | (with_reducible refine Kd.C_drew ?_))); (case side2 => exact HC0.out); rintro e w' ⟨rfl, ⟨nd, rfl⟩⟩; refine ⟨_, rfl, ?_⟩))
          go_loopg [8, 9] kj3 (fun kq v8 v9 w' => ∃ (x8_2 : Int) (x9_2 : Int), v8 = .int .i64 x8_2 ∧ v9 = .int .i64 x9_2 ∧ Aside0 (calamusref02_U.l0 kq l0 a1 a2 x8_2 x9_2 = some (r1, r2)) ∧ Aside0 (kq ≤ kj3) ∧ Drawn0 w w')
          case atStart => exact ⟨(0), (a1), (by first | rfl | (simp; done) | (simp [*]; done)), (by first | rfl | (simp; done) | (simp [*]; done)), H', ⟨Nat.le_refl _⟩, by repeat (first | exact Drawn0.refl _ | apply Drawn0.step)⟩
          case round =>
            clear H'
            try clear c1
            try clear p2
            try clear c3
            try clear c5
            try clear c5b0
            try clear c6
            try clear c8
            try clear p2
            obtain ⟨x8_2, x9_2, rfl, rfl, HA, HK2, ⟨m2, rfl⟩⟩ := hrel
            cases gk with
            | zero => exact absurd HA.out (by simp [calamusref02_U.l0])
            | succ k2 =>
              have H := HA.out
              clear HA
              simp only [calamusref02_U.l0] at H
              by_cases c9 : x9_2 < (wrap64 (a1 + a2))
              · rw [if_pos c9] at H
                have c9b0 : decide (x9_2 < (wrap64 (a1 + a2))) = true := decide_eq_true c9
                clear c9
                by_cases c10 : 0 ≤ x9_2
                · rw [if_pos c10] at H
                  have c10b0 : decide (0 ≤ x9_2) = true := decide_eq_true c10
                  clear c10
                  by_cases c11 : x9_2 < (l0.length : Int)
                  · rw [if_pos c11] at H
                    have c11b0 : decide (x9_2 < (l0.length : Int)) = true := decide_eq_true c11
                    clear c11
                    have H' := Aside0.mk H
                    clear H
                    have p181 : 0 ≤ (x9_2 : Int) := of_decide_eq_true (by first | (with_reducible assumption) | assumption)
                    have q181 : x9_2 < (l0.length : Int) := of_decide_eq_true (by first | (with_reducible assumption) | assumption)
                    obtain ⟨ad181, e181, hx181_0⟩ := Kd.at_int HR0.out x9_2 p181 q181
                    cases e181
                    replace p181 := eq_true p181
                    replace q181 := eq_true q181
                    go_wp2
                    go_roundg k2
                    case measure => have := HJ3.out; have := HK2.out; omega
                    case rel => exact ⟨(wrap64 ((wrap64 (256 * x8_2)) + (wrap64 (rd l0 x9_2)))), (wrap64 (x9_2 + 1)), (by first | rfl | (simp; done) | (simp [*]; done)), (by first | rfl | (simp; done) | (simp [*]; done)), H', ⟨by have := HJ3.out; have := HK2.out; omega⟩, by repeat (first | exact Drawn0.refl _ | apply Drawn0.step)⟩
                  · rw [if_neg c11] at H
                    exact absurd H (by simp)
                · rw [if_neg c10] at H
                  exact absurd H (by simp)
              · rw [if_neg c9] at H
                have c9b0 : decide (x9_2 < (wrap64 (a1 + a2))) = false := decide_eq_false c9
                clear c9
                simp only [Option.some.injEq, Prod.mk.injEq] at H
                obtain ⟨rfl, rfl⟩ := H
                go_wp2
                go_ret2
                exact ⟨by first | rfl | (simp; done) | (simp [*]; done), by repeat (first | exact Drawn0.refl _ | apply Drawn0.step)⟩
        · replace c8 := Bool.eq_false_iff.mpr c8
          subst c8
          have H1 : (some (0, 3)) = some (r1, r2) := by rw [if_neg (show ¬ (false = true) by decide)] at H; exact H
          clear H
          have H := H1
          clear H1
          simp only [Option.some.injEq, Prod.mk.injEq] at H
          obtain ⟨rfl, rfl⟩ := H
          go_wp2_with (first | ((with_reducible refine gate_callee (f := 100) rfl ?_); refine goesL_ (some 19) rfl rfl Tryd.func100 (by kernel_rfl) rfl #[.slice A0 l0.length c0, .int .i64 a1, .int .i64 a2] rfl (by (try simp only [List.map_toArray, List.map_cons, List.map_nil]); first | done | rfl | (simp only [List.length_drop, List.length_take]; rfl)) ?_; (with_reducible refine (calamusref02_There.calls _ _ l0 a1 a2 false _ ?side1 ?side2 A7.out).mono ?_); (case side1 => repeat (first | exact HR0.out | (with_reducible refine Kd.C_alloc ?_ _) | (with_reducible refine Kd.C_drewN ?_ _) | (with_reducible refine Kd.C_drew ?_))); (case side2 => exact HC0.out); rintro e w' ⟨rfl, ⟨nd, rfl⟩⟩; refine ⟨_, rfl, ?_⟩))
          go_ret2
          exact ⟨by first | rfl | (simp; done) | (simp [*]; done), by repeat (first | exact Drawn0.refl _ | apply Drawn0.step)⟩

end Go.Proofs.YtcclmaicdmogjaaDoor.P

-- Written by wip/pr.py over the kit's print
namespace Go.Proofs.YtcclmaicdmogjaaDoor.P
open Go.RowKit Go.Proofs.YtcclmaicdmogjaaDoorW.PrintWords Go.Proofs.YtcclmaicdmogjaaDoorW.PrintLast Go.Proofs.YtcclmaicdmogjaaDoorW.PrintMore
attribute [local go_sem] max2_int min2_int max_two min_two max_three min_three max_four min_four   -- for this text's walks alone
set_option linter.unusedVariables false
set_option linter.unusedSimpArgs false

/-! ### calamusref02_S: function 78 -/
def calamusref02_S.l0 : Nat → Int → Int → Int → Int → Option (Int × Int)
  | 0, _, _, _, _ => none
  | k + 1, x2, x8, x10, x11 => if x11 < x2 then (calamusref02_S.l0 k x2 x8 (wrap64 (x10 * 256)) (wrap64 (x11 + 1))) else (if (wrap64 (2 * x8)) ≥ x10 then (some (wrap64 (x8 - x10), 0)) else (some (x8, 0)))
def calamusref02_S.f (k : Nat) (l0 : List Int) (a1 : Int) (a2 : Int) : Option (Int × Int) := (calamusref02_U.f k l0 a1 a2).bind fun bt184 => (if bt184.2 = 0 then (calamusref02_S.l0 k a2 bt184.1 1 0) else (some (0, bt184.2)))
theorem calamusref02_S.mono_l : ∀ k, (∀ y0 y1 y2 y3, LeO (calamusref02_S.l0 k y0 y1 y2 y3) (calamusref02_S.l0 (k + 1) y0 y1 y2 y3))
  | 0 => fun _ _ _ _ r h => by simp [calamusref02_S.l0] at h
  | k + 1 => by
    have ih0 := calamusref02_S.mono_l k
    · intro y0 y1 y2 y3
      unfold calamusref02_S.l0
      repeat' first
      | (with_reducible exact ih0 _ _ _ _)
      | (with_reducible exact calamusref02_U.mono _ _ _ _)
      | (with_reducible exact LeO.refl _)
      | (with_reducible exact LeO.none _)
      | (with_reducible refine LeO.ite ?_ ?_)
      | (with_reducible refine LeO.bind ?_ (fun _ => ?_))
      | exact ih0 _ _ _ _
      | exact calamusref02_U.mono _ _ _ _
      | exact LeO.none _
      | refine LeO.ite ?_ ?_
      | refine LeO.bind ?_ (fun _ => ?_)
theorem calamusref02_S.mono : ∀ a0 a1 a2 k, LeO (calamusref02_S.f k a0 a1 a2) (calamusref02_S.f (k + 1) a0 a1 a2) := by
  intro a0 a1 a2 k
  have ih0 := calamusref02_S.mono_l k
  unfold calamusref02_S.f
  repeat' first
      | (with_reducible exact ih0 _ _ _ _)
      | (with_reducible exact calamusref02_U.mono _ _ _ _)
      | (with_reducible exact LeO.refl _)
      | (with_reducible exact LeO.none _)
      | (with_reducible refine LeO.ite ?_ ?_)
      | (with_reducible refine LeO.bind ?_ (fun _ => ?_))
      | exact ih0 _ _ _ _
      | exact calamusref02_U.mono _ _ _ _
      | exact LeO.none _
      | refine LeO.ite ?_ ?_
      | refine LeO.bind ?_ (fun _ => ?_)
set_option maxHeartbeats 8000000 in
set_option maxRecDepth 100000 in
theorem calamusref02_S.calls (k : Nat) (A0 : Option Addr) (c0 : Nat) (l0 : List Int) (a1 : Int) (a2 : Int) (r1 : Int) (r2 : Int) (w : World) (hr0 : Kd.C (Kd.int .u8) w A0 l0.length l0) (hc0 : l0.length ≤ c0) (h : calamusref02_S.f k l0 a1 a2 = some (r1, r2)) :
    Calls Tryd.prog 78 #[.slice A0 l0.length c0, .int .i64 a1, .int .i64 a2] w fun e w' => e = .returned (.tuple #[.int .i64 r1, .int .i64 r2]) ∧ Drawn0 w w' := by
  have HR0 := Aside0.mk hr0
  have HC0 := Aside0.mk hc0
  clear hr0 hc0
  have H : ((calamusref02_U.f k l0 a1 a2).bind fun bt184 => (if bt184.2 = 0 then (calamusref02_S.l0 k a2 bt184.1 1 0) else (some (0, bt184.2)))) = some (r1, r2) := h
  clear h
  replace H := Option.bind_eq_some_iff.mp H
  obtain ⟨⟨t184, t185⟩, A40, H⟩ := H
  replace H : (if t185 = 0 then (calamusref02_S.l0 k a2 t184 1 0) else (some (0, t185))) = some (r1, r2) := H
  have A4 := Aside0.mk A40
  clear A40
  by_cases c5 : t185 = 0
  · rw [if_pos c5] at H
    have c5b0 : (t185 == 0) = true := beq_iff_eq.mpr c5
    have c5b1 : (t185 != 0) = false := bne_eq_false_iff_eq.mpr c5
    clear c5
    have H' := Aside0.mk H
    clear H
    go_enter Tryd.func78, Tryd.ntmps78
    go_wp2_with (first | ((with_reducible refine gate_callee (f := 69) rfl ?_); refine goesL_ (some 16) rfl rfl Tryd.func69 (by kernel_rfl) rfl #[.slice A0 l0.length c0, .int .i64 a1, .int .i64 a2] rfl (by (try simp only [List.map_toArray, List.map_cons, List.map_nil]); first | done | rfl | (simp only [List.length_drop, List.length_take]; rfl)) ?_; (with_reducible refine (calamusref02_U.calls k _ _ l0 a1 a2 t184 t185 _ ?side1 ?side2 A4.out).mono ?_); (case side1 => repeat (first | exact HR0.out | (with_reducible refine Kd.C_alloc ?_ _) | (with_reducible refine Kd.C_drewN ?_ _) | (with_reducible refine Kd.C_drew ?_))); (case side2 => exact HC0.out); rintro e w' ⟨rfl, ⟨nd, rfl⟩⟩; refine ⟨_, rfl, ?_⟩))
    go_loopg [10, 11] k (fun kq v10 v11 w' => ∃ (x10_1 : Int) (x11_1 : Int), v10 = .int .i64 x10_1 ∧ v11 = .int .i64 x11_1 ∧ Aside0 (calamusref02_S.l0 kq a2 t184 x10_1 x11_1 = some (r1, r2)) ∧ Aside0 (kq ≤ k) ∧ Drawn0 w w')
    case atStart => exact ⟨(1), (0), (by first | rfl | (simp; done) | (simp [*]; done)), (by first | rfl | (simp; done) | (simp [*]; done)), H', ⟨Nat.le_refl _⟩, by repeat (first | exact Drawn0.refl _ | apply Drawn0.step)⟩
    case round =>
      clear H'
      try clear p2
      try clear c5
      try clear c5b0
      try clear c5b1
      obtain ⟨x10_1, x11_1, rfl, rfl, HA, HK1, ⟨m1, rfl⟩⟩ := hrel
      cases gk with
      | zero => exact absurd HA.out (by simp [calamusref02_S.l0])
      | succ k1 =>
        have H := HA.out
        clear HA
        simp only [calamusref02_S.l0] at H
        by_cases c6 : x11_1 < a2
        · rw [if_pos c6] at H
          have c6b0 : decide (x11_1 < a2) = true := decide_eq_true c6
          clear c6
          have H' := Aside0.mk H
          clear H
          go_wp2
          go_roundg k1
          case measure => have := HK1.out; omega
          case rel => exact ⟨(wrap64 (x10_1 * 256)), (wrap64 (x11_1 + 1)), (by first | rfl | (simp; done) | (simp [*]; done)), (by first | rfl | (simp; done) | (simp [*]; done)), H', ⟨by have := HK1.out; omega⟩, by repeat (first | exact Drawn0.refl _ | apply Drawn0.step)⟩
        · rw [if_neg c6] at H
          have c6b0 : decide (x11_1 < a2) = false := decide_eq_false c6
          clear c6
          by_cases c7 : (wrap64 (2 * t184)) ≥ x10_1
          · rw [if_pos c7] at H
            have c7b0 : decide (x10_1 ≤ (wrap64 (2 * t184))) = true := decide_eq_true c7
            clear c7
            simp only [Option.some.injEq, Prod.mk.injEq] at H
            obtain ⟨rfl, rfl⟩ := H
            go_wp2
            go_ret2
            exact ⟨by first | rfl | (simp; done) | (simp [*]; done), by repeat (first | exact Drawn0.refl _ | apply Drawn0.step)⟩
          · rw [if_neg c7] at H
            have c7b0 : decide (x10_1 ≤ (wrap64 (2 * t184))) = false := decide_eq_false c7
            clear c7
            simp only [Option.some.injEq, Prod.mk.injEq] at H
            obtain ⟨rfl, rfl⟩ := H
            go_wp2
            go_ret2
            exact ⟨by first | rfl | (simp; done) | (simp [*]; done), by repeat (first | exact Drawn0.refl _ | apply Drawn0.step)⟩
  · rw [if_neg c5] at H
    have c5b0 : (t185 == 0) = false := beq_eq_false_iff_ne.mpr c5
    have c5b1 : (t185 != 0) = true := bne_iff_ne.mpr c5
    simp only [Option.some.injEq, Prod.mk.injEq] at H
    obtain ⟨rfl, rfl⟩ := H
    go_enter Tryd.func78, Tryd.ntmps78
    go_wp2_with (first | ((with_reducible refine gate_callee (f := 69) rfl ?_); refine goesL_ (some 16) rfl rfl Tryd.func69 (by kernel_rfl) rfl #[.slice A0 l0.length c0, .int .i64 a1, .int .i64 a2] rfl (by (try simp only [List.map_toArray, List.map_cons, List.map_nil]); first | done | rfl | (simp only [List.length_drop, List.length_take]; rfl)) ?_; (with_reducible refine (calamusref02_U.calls k _ _ l0 a1 a2 t184 t185 _ ?side1 ?side2 A4.out).mono ?_); (case side1 => repeat (first | exact HR0.out | (with_reducible refine Kd.C_alloc ?_ _) | (with_reducible refine Kd.C_drewN ?_ _) | (with_reducible refine Kd.C_drew ?_))); (case side2 => exact HC0.out); rintro e w' ⟨rfl, ⟨nd, rfl⟩⟩; refine ⟨_, rfl, ?_⟩))
    go_ret2
    exact ⟨by first | rfl | (simp; done) | (simp [*]; done), by repeat (first | exact Drawn0.refl _ | apply Drawn0.step)⟩

end Go.Proofs.YtcclmaicdmogjaaDoor.P

-- Written by wip/pr.py over the kit's print
namespace Go.Proofs.YtcclmaicdmogjaaDoor.P
open Go.RowKit Go.Proofs.YtcclmaicdmogjaaDoorW.PrintWords Go.Proofs.YtcclmaicdmogjaaDoorW.PrintLast Go.Proofs.YtcclmaicdmogjaaDoorW.PrintMore
attribute [local go_sem] max2_int min2_int max_two min_two max_three min_three max_four min_four   -- for this text's walks alone
set_option linter.unusedVariables false
set_option linter.unusedSimpArgs false

/-! ### calamusref02_Same: function 18 -/
def calamusref02_Same.f (l0 : List Int) (l1 : List Int) : Option (Bool) := some ((strOfNums l0).toList == (strOfNums l1).toList)
set_option maxHeartbeats 8000000 in
set_option maxRecDepth 100000 in
theorem calamusref02_Same.calls (A0 : Option Addr) (c0 : Nat) (l0 : List Int) (A1 : Option Addr) (c1 : Nat) (l1 : List Int) (r : Bool) (w : World) (hr0 : Kd.C (Kd.int .u8) w A0 l0.length l0) (hc0 : l0.length ≤ c0) (hr1 : Kd.C (Kd.int .u8) w A1 l1.length l1) (hc1 : l1.length ≤ c1) (h : calamusref02_Same.f l0 l1 = some r) :
    Calls Tryd.prog 18 #[.slice A0 l0.length c0, .slice A1 l1.length c1] w fun e w' => e = .returned (.bool r) ∧ Drawn0 w w' := by
  have HR0 := Aside0.mk hr0
  have HC0 := Aside0.mk hc0
  clear hr0 hc0
  have HR1 := Aside0.mk hr1
  have HC1 := Aside0.mk hc1
  clear hr1 hc1
  have H : (some ((strOfNums l0).toList == (strOfNums l1).toList)) = some r := h
  clear h
  obtain rfl := Option.some.inj H
  have hcv3 := Kd.C_string (P := Tryd.prog) (A := A0) (c := c0) Tryd.underlying22 Tryd.underlying5 Tryd.underlying9 HR0.out
  have hcv4 := Kd.C_string (P := Tryd.prog) (A := A1) (c := c1) Tryd.underlying22 Tryd.underlying5 Tryd.underlying9 HR1.out
  go_enter Tryd.func18, Tryd.ntmps18
  go_wp2
  go_ret
  exact ⟨by first | rfl | (simp; done) | (simp [*]; done), by repeat (first | exact Drawn0.refl _ | apply Drawn0.step)⟩

end Go.Proofs.YtcclmaicdmogjaaDoor.P

namespace Go.Proofs.YtcclmaicdmogjaaDoor.P
open Go.RowKit Go.Proofs.YtcclmaicdmogjaaDoorW.PrintWords Go.Proofs.YtcclmaicdmogjaaDoorW.PrintLast Go.Proofs.YtcclmaicdmogjaaDoorW.PrintMore
set_option linter.unusedVariables false
set_option linter.unusedSimpArgs false

-- USES calamusref02_Copy calamusref02_Same
theorem copy_eq (l : List Int) (h : l.length < 140737488355328) : calamusref02_Copy.f l = some l := by
  unfold calamusref02_Copy.f; simp [h]
theorem same_refl (l : List Int) : calamusref02_Same.f l l = some true := by
  unfold calamusref02_Same.f; simp
theorem bytes_of_wf {l : List Int} (h : ∀ x ∈ l, (Lit.int .u8 x).wf = true) : isBytes l := fun x hx => by
  have := h x hx
  simp [Lit.wf, IntKind.min, IntKind.max, IntKind.bits, IntKind.signed] at this
  omega
theorem isBytes_zeros (n : Nat) : isBytes (List.replicate n 0) := fun x hx => by rw [List.mem_replicate] at hx; omega
theorem isBytes_set {l : List Int} (h : isBytes l) (i : Nat) (v : Int) (hv : 0 ≤ v ∧ v ≤ 255) : isBytes (l.set i v) := fun x hx => by
  rcases List.mem_or_eq_of_mem_set hx with h' | h'
  · exact h x h'
  · omega
theorem wf_u8_out {n : Int} (h : (Lit.int .u8 n).wf = true) : 0 ≤ n ∧ n ≤ 255 := by
  simp [Lit.wf, IntKind.min, IntKind.max, IntKind.bits, IntKind.signed] at h; omega
theorem wf_u16_out {n : Int} (h : (Lit.int .u16 n).wf = true) : 0 ≤ n ∧ n ≤ 65535 := by
  simp [Lit.wf, IntKind.min, IntKind.max, IntKind.bits, IntKind.signed] at h; omega
theorem wf_u32_out {n : Int} (h : (Lit.int .u32 n).wf = true) : 0 ≤ n ∧ n ≤ 4294967295 := by
  simp [Lit.wf, IntKind.min, IntKind.max, IntKind.bits, IntKind.signed] at h; omega
theorem wf_i32_out {n : Int} (h : (Lit.int .i32 n).wf = true) : -2147483648 ≤ n ∧ n ≤ 2147483647 := by
  simp [Lit.wf, IntKind.min, IntKind.max, IntKind.bits, IntKind.signed] at h; omega
theorem wf_i64_out {n : Int} (h : (Lit.int .i64 n).wf = true) : -9223372036854775808 ≤ n ∧ n ≤ 9223372036854775807 := by
  simp [Lit.wf, IntKind.min, IntKind.max, IntKind.bits, IntKind.signed] at h; omega

end Go.Proofs.YtcclmaicdmogjaaDoor.P

namespace Go.Proofs.YtcclmaicdmogjaaDoor.P
open Go.RowKit Go.Proofs.YtcclmaicdmogjaaDoorW.PrintWords Go.Proofs.YtcclmaicdmogjaaDoorW.PrintLast Go.Proofs.YtcclmaicdmogjaaDoorW.PrintMore
set_option linter.unusedVariables false
set_option linter.unusedSimpArgs false

-- USES be_U be_S be_Put be_there calamusref02_U calamusref02_S calamusref02_There calamusref02_Put
-- NEEDS gen
theorem there_eq (l0 : List Int) (a1 a2 : Int) (hm : l0.length ≤ 9223372036854775807) (h1 : inI a1) (h2 : inI a2) : be_there.f l0 a1 a2 = some (decide (0 ≤ a1 ∧ 0 ≤ a2 ∧ a1 + a2 ≤ l0.length)) := by
  unfold inI at h1 h2
  unfold be_there.f
  by_cases c1 : a1 ≥ 0
  · rw [if_pos c1]
    by_cases c2 : a2 ≥ 0
    · rw [if_pos c2]
      by_cases c3 : a1 ≤ (l0.length : Int)
      · rw [if_pos c3, IntWalk.wrap64_in _ ⟨by omega, by omega⟩]
        congr 1
        rw [decide_eq_decide]; omega
      · rw [if_neg c3]; simp; omega
    · rw [if_neg c2]; simp; omega
  · rw [if_neg c1]; simp; omega
theorem refthere_eq (l0 : List Int) (a1 a2 : Int) (hm : l0.length ≤ 9223372036854775807) (h1 : inI a1) (h2 : inI a2) : calamusref02_There.f l0 a1 a2 = some (decide (0 ≤ a1 ∧ 0 ≤ a2 ∧ a1 + a2 ≤ l0.length)) := there_eq l0 a1 a2 hm h1 h2
theorem rd_nat (l : List Int) (i : Nat) : rd l (i : Int) = l.getD i 0 := rfl
theorem getD_drop (l : List Int) (a j : Nat) : (l.drop a).getD j 0 = l.getD (a + j) 0 := by simp [List.getD_eq_getElem?_getD, List.getElem?_drop]
theorem refU_loop (l : List Int) (hb : isBytes l) (hm : l.length ≤ 4611686018427387904) (a w : Nat) (hw : w ≤ 4) (hf : a + w ≤ l.length) (d : Nat) : ∀ (j k : Nat), j + d = w → d < k →
    calamusref02_U.l0 k l (a : Int) (w : Int) (pre (l.drop a) j) (((a + j : Nat)) : Int) = some (pre (l.drop a) w, 0) := by
  induction d with
  | zero =>
    intro j k hj hk
    obtain ⟨k, rfl⟩ : ∃ m, k = m + 1 := ⟨k - 1, by omega⟩
    obtain rfl : j = w := by omega
    simp only [calamusref02_U.l0]
    rw [IntWalk.wrap64_in _ ⟨by omega, by omega⟩, if_neg (by omega)]
  | succ d ih =>
    intro j k hj hk
    obtain ⟨k, rfl⟩ : ∃ m, k = m + 1 := ⟨k - 1, by omega⟩
    simp only [calamusref02_U.l0]
    have hp := pre_bd (l.drop a) (hb.drop a) j (by rw [List.length_drop]; omega)
    have h256 : (256 : Int) ^ j ≤ 256 ^ 3 := by
      have : j = 0 ∨ j = 1 ∨ j = 2 ∨ j = 3 := by omega
      rcases this with rfl | rfl | rfl | rfl <;> decide
    have hg := hb.get (a + j)
    rw [IntWalk.wrap64_in ((a : Int) + w) ⟨by omega, by omega⟩, if_pos (by omega), if_pos (by omega), if_pos (by omega), rd_nat]
    rw [IntWalk.wrap64_in (256 * _) ⟨by omega, by omega⟩, IntWalk.wrap64_in (l.getD (a + j) 0) ⟨by omega, by omega⟩, IntWalk.wrap64_in _ ⟨by omega, by omega⟩, IntWalk.wrap64_in _ ⟨by omega, by omega⟩]
    have := ih (j + 1) k (by omega) (by omega)
    rw [← this, pre_succ _ _ (by rw [List.length_drop]; omega), getD_drop, show ((a + (j + 1) : Nat) : Int) = ((a + j : Nat) : Int) + 1 by omega, Int.mul_comm 256]
theorem refU_eq (l : List Int) (hb : isBytes l) (hm : l.length ≤ 4611686018427387904) (a1 a2 : Int) (h1 : inI a1) (h2 : inI a2) (k : Nat) (hk : 8 ≤ k) : calamusref02_U.f k l a1 a2 = be_U.f l a1 a2 := by
  unfold be_U.f calamusref02_U.f
  rw [if_pos (show isBytes l ∧ inI a1 ∧ inI a2 from ⟨hb, h1, h2⟩)]
  obtain ⟨k, rfl⟩ : ∃ m, k = m + 1 := ⟨k - 1, by omega⟩
  simp only [calamusref02_U.j0]
  by_cases c1 : a2 < 1
  · rw [if_pos c1, if_pos (show a2 < 1 ∨ a2 > 4 from .inl c1)]; rfl
  · rw [if_neg c1]
    by_cases c2 : a2 > 4
    · rw [if_pos (show decide (a2 > 4) = true by simpa using c2), if_pos (show a2 < 1 ∨ a2 > 4 from .inr c2)]
    · rw [if_neg (show ¬ decide (a2 > 4) = true by simpa using c2), if_neg (show ¬ (a2 < 1 ∨ a2 > 4) by omega), refthere_eq l a1 a2 (by omega) h1 h2]
      simp only [Option.bind_some]
      by_cases c3 : 0 ≤ a1 ∧ a1 + a2 ≤ l.length
      · rw [if_pos (decide_eq_true (show 0 ≤ a1 ∧ 0 ≤ a2 ∧ a1 + a2 ≤ (l.length : Int) by omega)), if_pos c3]
        obtain ⟨a, rfl⟩ := Int.eq_ofNat_of_zero_le c3.1
        obtain ⟨w, rfl⟩ := Int.eq_ofNat_of_zero_le (show 0 ≤ a2 by omega)
        have := refU_loop l hb hm a w (by omega) (by omega) w 0 k (by omega) (by omega)
        rw [pre_zero, Nat.add_zero] at this
        exact this
      · rw [if_neg (show ¬ decide (0 ≤ a1 ∧ 0 ≤ a2 ∧ a1 + a2 ≤ (l.length : Int)) = true by simp; omega), if_neg c3]
/-- A number of w bytes, with its sign. -/
def sgnB (n : Int) (w : Nat) : Int := if 2 * n ≥ 256 ^ w then n - 256 ^ w else n
theorem shifts_eq (n w : Int) (hw : w = 1 ∨ w = 2 ∨ w = 3 ∨ w = 4) (h0 : 0 ≤ n) (h1 : n < 256 ^ w.toNat) : shr .i64 (shl .i64 n (wrap64 (64 - (wrap64 (8 * w))))) (wrap64 (64 - (wrap64 (8 * w)))) = sgnB n w.toNat := by
  have hW : ∀ x : Int, -100 ≤ x → x ≤ 100 → wrap64 x = x := fun x h1 h2 => IntWalk.wrap64_in x ⟨by omega, by omega⟩
  rcases hw with rfl | rfl | rfl | rfl <;> (rw [hW (8 * _) (by omega) (by omega), hW (64 - 8 * _) (by omega) (by omega)]; unfold shr shl sgnB; rw [IntKind.wrap_i64]; simp [IntKind.bits] at *; (repeat' split) <;> omega)
theorem beU_eq (l : List Int) (hb : isBytes l) (a1 a2 : Int) (h1 : inI a1) (h2 : inI a2) : be_U.f l a1 a2 = (if a2 < 1 ∨ a2 > 4 then some (0, 2) else if 0 ≤ a1 ∧ a1 + a2 ≤ l.length then some (pre (l.drop a1.toNat) a2.toNat, 0) else some (0, 3)) := by
  unfold be_U.f; rw [if_pos (show isBytes l ∧ inI a1 ∧ inI a2 from ⟨hb, h1, h2⟩)]
theorem pre_range (l : List Int) (hb : isBytes l) (a w : Int) (h0 : 0 ≤ a) (hw : 1 ≤ w) (hf : a + w ≤ l.length) : 0 ≤ pre (l.drop a.toNat) w.toNat ∧ pre (l.drop a.toNat) w.toNat < 256 ^ w.toNat :=
  pre_bd _ (hb.drop _) _ (by rw [List.length_drop]; omega)
theorem beS_eq (l : List Int) (hb : isBytes l) (a1 a2 : Int) (h1 : inI a1) (h2 : inI a2) : be_S.f l a1 a2 = (if a2 < 1 ∨ a2 > 4 then some (0, 2) else if 0 ≤ a1 ∧ a1 + a2 ≤ l.length then some (sgnB (pre (l.drop a1.toNat) a2.toNat) a2.toNat, 0) else some (0, 3)) := by
  unfold be_S.f
  rw [beU_eq l hb a1 a2 h1 h2]
  by_cases c1 : a2 < 1 ∨ a2 > 4
  · rw [if_pos c1, if_pos c1]; simp
  · rw [if_neg c1, if_neg c1]
    by_cases c2 : 0 ≤ a1 ∧ a1 + a2 ≤ l.length
    · rw [if_pos c2, if_pos c2]
      have hp := pre_range l hb a1 a2 c2.1 (by omega) c2.2
      have hw : a2 = 1 ∨ a2 = 2 ∨ a2 = 3 ∨ a2 = 4 := by omega
      simp only [Option.bind_some, if_true]
      rw [shifts_eq _ a2 hw hp.1 hp.2, IntWalk.wrap64_in (8 * a2) ⟨by omega, by omega⟩, IntWalk.wrap64_in _ ⟨by omega, by omega⟩, if_pos (by omega)]
    · rw [if_neg c2, if_neg c2]; simp
theorem refS_loop (w : Nat) (n : Int) (hw : w ≤ 4) (h0 : 0 ≤ n) (h1 : n < 256 ^ w) (d : Nat) : ∀ (i k : Nat), i + d = w → d < k → calamusref02_S.l0 k (w : Int) n (256 ^ i) (i : Int) = some (sgnB n w, 0) := by
  have hb4 : ∀ i : Nat, i ≤ 4 → (256 : Int) ^ i ≤ 4294967296 ∧ (1 : Int) ≤ 256 ^ i := by
    intro i hi
    have : i = 0 ∨ i = 1 ∨ i = 2 ∨ i = 3 ∨ i = 4 := by omega
    rcases this with rfl | rfl | rfl | rfl | rfl <;> decide
  induction d with
  | zero =>
    intro i k hi hk
    obtain ⟨k, rfl⟩ : ∃ m, k = m + 1 := ⟨k - 1, by omega⟩
    obtain rfl : i = w := by omega
    have := hb4 i hw
    simp only [calamusref02_S.l0]
    rw [if_neg (by omega), IntWalk.wrap64_in (2 * n) ⟨by omega, by omega⟩, IntWalk.wrap64_in (n - _) ⟨by omega, by omega⟩]
    unfold sgnB
    split <;> rfl
  | succ d ih =>
    intro i k hi hk
    obtain ⟨k, rfl⟩ : ∃ m, k = m + 1 := ⟨k - 1, by omega⟩
    have := hb4 i (by omega)
    simp only [calamusref02_S.l0]
    rw [if_pos (by omega), IntWalk.wrap64_in (_ * 256) ⟨by omega, by omega⟩, IntWalk.wrap64_in _ ⟨by omega, by omega⟩]
    exact ih (i + 1) k (by omega) (by omega)
theorem refS_eq (l : List Int) (hb : isBytes l) (hm : l.length ≤ 4611686018427387904) (a1 a2 : Int) (h1 : inI a1) (h2 : inI a2) (k : Nat) (hk : 8 ≤ k) : calamusref02_S.f k l a1 a2 = be_S.f l a1 a2 := by
  unfold calamusref02_S.f
  rw [refU_eq l hb hm a1 a2 h1 h2 k hk, beU_eq l hb a1 a2 h1 h2, beS_eq l hb a1 a2 h1 h2]
  by_cases c1 : a2 < 1 ∨ a2 > 4
  · rw [if_pos c1, if_pos c1]; simp
  · rw [if_neg c1, if_neg c1]
    by_cases c2 : 0 ≤ a1 ∧ a1 + a2 ≤ l.length
    · rw [if_pos c2, if_pos c2]
      have hp := pre_range l hb a1 a2 c2.1 (by omega) c2.2
      obtain ⟨w, rfl⟩ := Int.eq_ofNat_of_zero_le (show 0 ≤ a2 by omega)
      simp only [Option.bind_some, if_true]
      exact refS_loop w _ (by omega) hp.1 hp.2 w 0 k (by omega) (by omega)
    · rw [if_neg c2, if_neg c2]; simp
theorem widthB_mx (a : Int) : mx 0 (mn a 8) = (widthB a : Int) ∧ widthB a ≤ 8 := by
  unfold mx mn widthB
  (repeat' split) <;> omega
theorem bePut_eq (n a : Int) (h : inI n) (h2 : inI a) : be_Put.f n a = some (putB n (widthB a)) := by
  unfold be_Put.f; rw [if_pos (show inI n ∧ inI a from ⟨h, h2⟩)]
theorem emod_pow (n : Int) (k : Nat) : (n % 18446744073709551616) / 256 ^ k % 256 = n / 256 ^ k % 256 ∨ 8 ≤ k := by
  have : k = 0 ∨ k = 1 ∨ k = 2 ∨ k = 3 ∨ k = 4 ∨ k = 5 ∨ k = 6 ∨ k = 7 ∨ 8 ≤ k := by omega
  rcases this with rfl | rfl | rfl | rfl | rfl | rfl | rfl | rfl | h
  all_goals first | exact .inr h | (refine .inl ?_; simp; try omega)
theorem refPut_loop (n : Int) (W : Nat) (hW : W ≤ 8) (d : Nat) : ∀ (k m : Nat), d + m = W → d < k →
    calamusref02_Put.l0 k (List.replicate d 0 ++ putB n m) (n % 18446744073709551616 / 256 ^ m) ((d : Int) - 1) = some (putB n W) := by
  induction d with
  | zero =>
    intro k m hm hk
    obtain ⟨k, rfl⟩ : ∃ j, k = j + 1 := ⟨k - 1, by omega⟩
    obtain rfl : m = W := by omega
    simp only [calamusref02_Put.l0]
    rw [if_neg (by omega)]
    simp
  | succ d ih =>
    intro k m hm hk
    obtain ⟨k, rfl⟩ : ∃ j, k = j + 1 := ⟨k - 1, by omega⟩
    have hx0 : 0 ≤ n % 18446744073709551616 / 256 ^ m := Int.ediv_nonneg (by omega) (Int.pow_nonneg (by decide))
    have hx1 : n % 18446744073709551616 / 256 ^ m ≤ n % 18446744073709551616 := Int.ediv_le_self _ (by omega)
    simp only [calamusref02_Put.l0]
    rw [if_pos (by omega), if_pos (by omega), if_pos (by simp [putB_length]; omega), Int.tmod_eq_emod_of_nonneg hx0, Int.tdiv_eq_ediv_of_nonneg hx0, IntWalk.u64_in _ ⟨by omega, by omega⟩, IntWalk.wrap64_in _ ⟨by omega, by omega⟩]
    have e1 : n % 18446744073709551616 / 256 ^ m / 256 = n % 18446744073709551616 / 256 ^ (m + 1) := by rw [Int.pow_succ, Int.ediv_ediv_of_nonneg (Int.pow_nonneg (by decide))]
    have e2 : n % 18446744073709551616 / 256 ^ m % 256 % 256 = n / 256 ^ m % 256 := by
      rcases emod_pow n m with h | h
      · omega
      · omega
    have e3 := put_step n (d + 1 + m) m (by omega)
    rw [show d + 1 + m - m = d + 1 by omega, show d + 1 + m - 1 - m = d by omega, show d + 1 + m - (m + 1) = d by omega] at e3
    rw [e1, e2, show (((d + 1 : Nat) : Int) - 1).toNat = d by omega, e3, show ((d + 1 : Nat) : Int) - 1 - 1 = (d : Int) - 1 by omega]
    exact ih k (m + 1) (by omega) (by omega)
theorem refPut_eq (n a : Int) (h : inI n) (k : Nat) (hk : 9 ≤ k) : calamusref02_Put.f k n a = some (putB n (widthB a)) := by
  obtain ⟨h1, h2⟩ := widthB_mx a
  unfold calamusref02_Put.f
  rw [h1, if_pos (by omega), if_pos (by omega)]
  have := refPut_loop n (widthB a) h2 (widthB a) k 0 (by omega) (by omega)
  rw [show IntKind.u64.wrap n = n % 18446744073709551616 by simp [IntKind.wrap, IntKind.bits, IntKind.signed]]
  simpa [putB] using this

end Go.Proofs.YtcclmaicdmogjaaDoor.P

namespace Go.Proofs.YtcclmaicdmogjaaDoor.P
open Go.RowKit Go.Proofs.YtcclmaicdmogjaaDoorW.PrintWords Go.Proofs.YtcclmaicdmogjaaDoorW.PrintLast Go.Proofs.YtcclmaicdmogjaaDoorW.PrintMore
set_option linter.unusedVariables false
set_option linter.unusedSimpArgs false

-- USES calamusref02_Lay calamusref02_Copy
-- NEEDS be gen
theorem refLay_loop (l o : List Int) (a : Nat) (hm : l.length < 140737488355328) (h : a + o.length ≤ l.length) (d : Nat) : ∀ (i k : Nat), i + d = o.length → d < k →
    calamusref02_Lay.l0 k (a : Int) o (l.take a ++ o.take i ++ l.drop (a + i)) (o.length : Int) (i : Int) = some (l.take a ++ o ++ l.drop (a + o.length), 0) := by
  induction d with
  | zero =>
    intro i k hi hk
    obtain ⟨k, rfl⟩ : ∃ m, k = m + 1 := ⟨k - 1, by omega⟩
    obtain rfl : i = o.length := by omega
    rw [calamusref02_Lay.l0, if_neg (by omega), List.take_length]
  | succ d ih =>
    intro i k hi hk
    obtain ⟨k, rfl⟩ : ∃ m, k = m + 1 := ⟨k - 1, by omega⟩
    have hlt : i < o.length := by omega
    have hlen : (l.take a ++ o.take i).length = a + i := by simp only [List.length_append, List.length_take]; omega
    rw [calamusref02_Lay.l0, if_pos (by omega), if_pos (by omega), if_pos (by omega), IntWalk.wrap64_in ((a : Int) + (i : Int)) ⟨by omega, by omega⟩, if_pos (by omega), if_pos (by simp only [List.length_append, List.length_take, List.length_drop]; omega), IntWalk.wrap64_in ((i : Int) + 1) ⟨by omega, by omega⟩]
    have e : (l.take a ++ o.take i ++ l.drop (a + i)).set ((a : Int) + (i : Int)).toNat (rd o (i : Int)) = l.take a ++ o.take (i + 1) ++ l.drop (a + (i + 1)) := by
      rw [show ((a : Int) + (i : Int)).toNat = a + i by omega, List.set_append_right _ _ (by omega), hlen, Nat.sub_self, List.drop_eq_getElem_cons (show a + i < l.length by omega), List.set_cons_zero, List.take_succ_eq_append_getElem hlt]
      rw [rd_nat, List.getD_eq_getElem?_getD, List.getElem?_eq_getElem hlt, List.append_assoc, List.append_assoc, List.append_assoc]
      rfl
    rw [e]
    exact ih (i + 1) k (by omega) (by omega)
/-- Bytes with others laid over them. -/
def layR (l : List Int) (a : Int) (o : List Int) : List Int × Int := if 0 ≤ a ∧ a + o.length ≤ l.length then (l.take a.toNat ++ o ++ l.drop (a.toNat + o.length), 0) else ([], 3)
theorem reflay_val (l : List Int) (hm : l.length < 140737488355328) (a : Int) (ha : inI a) (o : List Int) (k : Nat) (hk : o.length < k) (ho : o.length ≤ 9223372036854775807) : calamusref02_Lay.f k l a o = some (layR l a o) := by
  unfold calamusref02_Lay.f layR
  rw [refthere_eq l a o.length (by omega) ha ⟨by omega, by omega⟩, Option.bind_some]
  by_cases h : 0 ≤ a ∧ a + o.length ≤ l.length
  · rw [if_pos h, if_pos (decide_eq_true ⟨h.1, by omega, h.2⟩), copy_eq l hm, Option.bind_some]
    obtain ⟨n, rfl⟩ := Int.eq_ofNat_of_zero_le h.1
    have := refLay_loop l o n hm (by omega) o.length 0 k (by omega) hk
    rw [List.take_zero, List.append_nil, Nat.add_zero, List.take_append_drop] at this
    exact this
  · rw [if_neg h, if_neg]
    rw [decide_eq_true_eq]
    exact fun hc => h ⟨hc.1, hc.2.2⟩

end Go.Proofs.YtcclmaicdmogjaaDoor.P

namespace Go.Proofs.YtcclmaicdmogjaaDoor.P
open Go.RowKit Go.Proofs.YtcclmaicdmogjaaDoorW.PrintWords Go.Proofs.YtcclmaicdmogjaaDoorW.PrintLast Go.Proofs.YtcclmaicdmogjaaDoorW.PrintMore
set_option linter.unusedVariables false
set_option linter.unusedSimpArgs false

-- USES calamusref05_PutHead calamusref05_lay calamusref05_short head_PutHead
-- NEEDS belay
theorem ref05lay_eq (l : List Int) (a : Nat) (n : Int) (hn : inI n) (hm : l.length < 140737488355328) (h : a + 2 ≤ l.length) (k : Nat) (hk : 9 ≤ k) (x : Int) (hx : x = a) : calamusref05_lay.f k l x n = some (lay2 l a n) := by
  subst hx
  unfold calamusref05_lay.f
  rw [refPut_eq n 2 hn k hk, Option.bind_some, show widthB 2 = 2 by decide, reflay_val l hm (a : Int) ⟨by omega, by omega⟩ (putB n 2) k (by rw [putB_length]; omega) (by rw [putB_length]; omega)]
  rw [Option.bind_some]
  unfold layR
  rw [if_pos (by rw [putB_length]; omega), putB_length]
  rfl
theorem ref05short_eq (n : Int) : calamusref05_short.f n = some (decide (okS n)) := by
  unfold calamusref05_short.f
  by_cases h : n ≥ -32768
  · rw [if_pos h, show decide (okS n) = decide (n ≤ 32767) from decide_eq_decide.2 ⟨fun hc => hc.2, fun hc => ⟨h, hc⟩⟩]
  · rw [if_neg h, decide_eq_false (show ¬ okS n from fun hc => h hc.1)]
theorem refPutHead_eq (l : List Int) (b0 b1 b2 b3 b4 : Int) (b5 : Bool) (hm : l.length < 140737488355328) (h0 : inI b0) (h1 : inI b1) (h2 : inI b2) (h3 : inI b3) (h4 : inI b4) (k : Nat) (hk : 20 ≤ k) :
    calamusref05_PutHead.f k l b0 b1 b2 b3 b4 b5 = some (putHeadR l b0 b1 b2 b3 b4 b5) := by
  obtain ⟨k, rfl⟩ : ∃ m, k = m + 1 := ⟨k - 1, by omega⟩
  unfold calamusref05_PutHead.f putHeadR
  have jt : calamusref05_PutHead.j0 (k + 1) l true b0 b1 b2 b3 b4 b5 = some ([], 6) := by rw [calamusref05_PutHead.j0, if_pos (Eq.refl _)]
  by_cases c : l.length < 54
  · rw [if_pos c, if_pos (by omega)]
  rw [if_neg c, if_neg (by omega)]
  by_cases e0 : b0 < 16
  · rw [if_pos e0, if_pos (.inl e0), jt]
  rw [if_neg e0]
  by_cases e1 : b0 > 16384
  · rw [if_pos e1, if_pos (.inr e1), jt]
  rw [if_neg e1, if_neg (show ¬ (b0 < 16 ∨ b0 > 16384) by omega), ref05short_eq, ref05short_eq, ref05short_eq, ref05short_eq, Option.bind_some]
  by_cases s1 : ¬ okS b1
  · rw [if_neg (by simpa using s1), jt, if_neg (fun hc => s1 hc.1)]
  rw [if_pos (decide_eq_true (Classical.not_not.1 s1)), Option.bind_some]
  by_cases s2 : ¬ okS b2
  · rw [if_neg (by simpa using s2), jt, if_neg (fun hc => s2 hc.2.1)]
  rw [if_pos (decide_eq_true (Classical.not_not.1 s2)), Option.bind_some]
  by_cases s3 : ¬ okS b3
  · rw [if_neg (by simpa using s3), jt, if_neg (fun hc => s3 hc.2.2.1)]
  rw [if_pos (decide_eq_true (Classical.not_not.1 s3)), Option.bind_some]
  by_cases s4 : ¬ okS b4
  · rw [decide_eq_false s4]
    show calamusref05_PutHead.j0 (k + 1) l true b0 b1 b2 b3 b4 b5 = _
    rw [jt, if_neg (fun hc => s4 hc.2.2.2)]
  rw [decide_eq_true (Classical.not_not.1 s4), if_pos ⟨Classical.not_not.1 s1, Classical.not_not.1 s2, Classical.not_not.1 s3, Classical.not_not.1 s4⟩]
  show calamusref05_PutHead.j0 (k + 1) l false b0 b1 b2 b3 b4 b5 = _
  rw [calamusref05_PutHead.j0, if_neg (by decide)]
  have L : ∀ (x : List Int) (a : Nat) (n : Int), x.length = l.length → a + 2 ≤ 54 → (lay2 x a n).length = l.length := fun x a n hx ha => by rw [lay2_length _ _ _ (by omega)]; exact hx
  have l1 := L l 18 b0 rfl (by omega)
  have l2 := L _ 36 b1 l1 (by omega)
  have l3 := L _ 38 b2 l2 (by omega)
  have l4 := L _ 40 b3 l3 (by omega)
  have l5 := L _ 42 b4 l4 (by omega)
  rw [ref05lay_eq l 18 b0 h0 hm (by omega) k (by omega) 18 rfl, Option.bind_some, ref05lay_eq _ 36 b1 h1 (by omega) (by omega) k (by omega) 36 rfl, Option.bind_some, ref05lay_eq _ 38 b2 h2 (by omega) (by omega) k (by omega) 38 rfl, Option.bind_some, ref05lay_eq _ 40 b3 h3 (by omega) (by omega) k (by omega) 40 rfl, Option.bind_some, ref05lay_eq _ 42 b4 h4 (by omega) (by omega) k (by omega) 42 rfl, Option.bind_some]
  cases b5 with
  | true => rw [if_pos (Eq.refl _), ref05lay_eq _ 50 1 ⟨by decide, by decide⟩ (by omega) (by omega) k (by omega) 50 rfl]; rfl
  | false => rw [if_neg (by decide), ref05lay_eq _ 50 0 ⟨by decide, by decide⟩ (by omega) (by omega) k (by omega) 50 rfl]; rfl
theorem putHeadR_length (l : List Int) (b0 b1 b2 b3 b4 : Int) (b5 : Bool) : (putHeadR l b0 b1 b2 b3 b4 b5).1.length ≤ l.length := by
  unfold putHeadR
  split
  · simp
  · split
    · simp
    · split
      · rename_i h _ _
        have h1 := lay2_length l 18 b0 (by omega)
        have h2 := layN_length (lay2 l 18 b0) [b1, b2, b3, b4] (by omega) 4 (by omega)
        show (lay2 (layN (lay2 l 18 b0) [b1, b2, b3, b4] 4) 50 _).length ≤ _
        rw [lay2_length _ _ _ (by omega)]
        omega
      · simp

end Go.Proofs.YtcclmaicdmogjaaDoor.P

-- Written by wip/pr.py over the kit's print
namespace Go.Proofs.YtcclmaicdmogjaaDoor.P
open Go.RowKit Go.Proofs.YtcclmaicdmogjaaDoorW.PrintWords Go.Proofs.YtcclmaicdmogjaaDoorW.PrintLast Go.Proofs.YtcclmaicdmogjaaDoorW.PrintMore
attribute [local go_sem] max2_int min2_int max_two min_two max_three min_three max_four min_four   -- for this text's walks alone
set_option linter.unusedVariables false
set_option linter.unusedSimpArgs false

/-! ### calamusref05_PutMaxp: function 15 (by hand) -/
-- FUNC calamus/calamusref05.PutMaxp
-- ROUNDS yes
-- MAKES yes
-- INFO uint8
-- NEEDS boxlaw refhead
def calamusref05_PutMaxp.f (k_ : Nat) (l0 : List Int) (b0 b1 b2 b3 b4 b5 b6 : Int) : Option (List Int × Int) :=
  if 9 ≤ k_ ∧ l0.length < 140737488355328 ∧ inI b0 ∧ inI b1 ∧ inI b2 ∧ inI b3 ∧ inI b4 ∧ inI b5 ∧ inI b6 then some (putMaxpR l0 b0 b1 b2 b3 b4 b5 b6) else none
theorem calamusref05_PutMaxp.mono (l0 : List Int) (b0 b1 b2 b3 b4 b5 b6 : Int) (k : Nat) : LeO (calamusref05_PutMaxp.f k l0 b0 b1 b2 b3 b4 b5 b6) (calamusref05_PutMaxp.f (k + 1) l0 b0 b1 b2 b3 b4 b5 b6) := by
  intro r h
  unfold calamusref05_PutMaxp.f at h ⊢
  split at h
  · rename_i hg
    rw [if_pos ⟨by omega, hg.2⟩]; exact h
  · cases h
set_option maxRecDepth 100000 in
theorem idxp (k : Nat) (hk : k < 7) : ∀ W : World, (Instr.index 75 (.agg #[.int .i64 4, .int .i64 6, .int .i64 8, .int .i64 10, .int .i64 12, .int .i64 28, .int .i64 30]) (.int .i64 (k : Int))).run Tryd.prog W = .ok (.int .i64 (placesL.getD k 0)) W := by
  match k, hk with
  | 0, _ => exact fun W => by kernel_rfl
  | 1, _ => exact fun W => by kernel_rfl
  | 2, _ => exact fun W => by kernel_rfl
  | 3, _ => exact fun W => by kernel_rfl
  | 4, _ => exact fun W => by kernel_rfl
  | 5, _ => exact fun W => by kernel_rfl
  | 6, _ => exact fun W => by kernel_rfl
set_option maxHeartbeats 4000000 in
set_option maxRecDepth 100000 in
theorem refPutMaxp_short (A0 : Option Addr) (c0 : Nat) (l0 : List Int) (b0 b1 b2 b3 b4 b5 b6 : Int) (w : World) (h : l0.length < 32) :
    Calls Tryd.prog 15 #[.slice A0 l0.length c0, .agg #[.int .i64 b0, .int .i64 b1, .int .i64 b2, .int .i64 b3, .int .i64 b4, .int .i64 b5, .int .i64 b6]] w fun e w' => ∃ v0_ : Value, e = .returned (.tuple #[v0_, .int .i64 3]) ∧ Kd.R (Kd.int .u8) 5 w' w.heap.size (fun _ => True) v0_ [] ∧ Below w.heap.size w w' := by
  have HB := Aside0.mk (Below.refl w.heap.size w)
  go_enter Tryd.func15, Tryd.ntmps15
  go_wp2
  go_ret2
  exact ⟨_, rfl, Kd.R_nil _ _ _ _ _, below_alloc HB.out _⟩
set_option maxHeartbeats 8000000 in
set_option maxRecDepth 100000 in
theorem refPutMaxp_ok (kr : Nat) (hkr : 9 ≤ kr) (A0 : Option Addr) (c0 : Nat) (l0 : List Int) (b0 b1 b2 b3 b4 b5 b6 : Int) (w : World) (HC : Aside0 (Kd.C (Kd.int .u8) w A0 l0.length l0)) (HL : Aside0 (l0.length ≤ c0)) (hmax : l0.length < 140737488355328) (h : ¬ l0.length < 32)
    (HI : Aside0 (inI b0 ∧ inI b1 ∧ inI b2 ∧ inI b3 ∧ inI b4 ∧ inI b5 ∧ inI b6)) (r1 : List Int) (r2 : Int) (HRY : Aside0 (okM b0 ∧ okM b1 ∧ okM b2 ∧ okM b3 ∧ okM b4 ∧ okM b5 ∧ okM b6 → r1 = layM l0 [b0, b1, b2, b3, b4, b5, b6] 7 ∧ r2 = 0)) (HRN : Aside0 (¬ (okM b0 ∧ okM b1 ∧ okM b2 ∧ okM b3 ∧ okM b4 ∧ okM b5 ∧ okM b6) → r1 = [] ∧ r2 = 6)) :
    Calls Tryd.prog 15 #[.slice A0 l0.length c0, .agg #[.int .i64 b0, .int .i64 b1, .int .i64 b2, .int .i64 b3, .int .i64 b4, .int .i64 b5, .int .i64 b6]] w fun e w' => ∃ v0_ : Value, e = .returned (.tuple #[v0_, .int .i64 r2]) ∧ Kd.R (Kd.int .u8) 5 w' w.heap.size (fun _ => True) v0_ r1 ∧ Below w.heap.size w w' := by
  have H54 := Aside0.mk h
  have HB := Aside0.mk (Below.refl w.heap.size w)
  have HCP := Aside0.mk (show calamusref02_Copy.f l0 = some l0 by unfold calamusref02_Copy.f; simp [hmax])
  have hlt32 : decide ((l0.length : Int) < 32) = false := decide_eq_false (by omega)
  have HKR := Aside0.mk hkr
  have HMX := Aside0.mk hmax
  clear h hkr hmax
  go_enter Tryd.func15, Tryd.ntmps15
  go_wp2_with (first
    | ((with_reducible refine gate_dst (N := 3) rfl ?_); refine box_event rfl (N := 3) rfl (cs := #[.int .i64 b0, .int .i64 b1, .int .i64 b2, .int .i64 b3, .int .i64 b4, .int .i64 b5, .int .i64 b6]) (t := 24) ?hr ?_; (case hr => first | (go_simp; done) | (go_simp; rfl)); intro gb hgb w1 hbx hb1; have HBX1 := Aside0.mk (show w1.heap[gb]? = some (mbox b0 b1 b2 b3 b4 b5 b6) from hbx); have HB1 := Aside0.mk hb1; obtain ⟨hc0, hc1, hc2, hc3, hc4, hc5, hc6⟩ := cell_m HBX1.out; clear hgb hbx hb1)
    | ((with_reducible refine gate_dst (N := 6) rfl ?_); refine box_event rfl (N := 6) rfl (cs := #[.int .i64 0, .int .i64 0, .int .i64 0, .int .i64 0, .int .i64 0, .int .i64 0, .int .i64 0]) (t := 75) ?hr ?_; (case hr => first | (go_simp; done) | (go_simp; rfl)); intro ga hga w2 hbx hb1; have HX2 := Aside0.mk hbx; have HGA := Aside0.mk (show w.heap.size ≤ ga from (by rw [hga]; exact below_size HB1.out)); have HB2 := Aside0.mk (below_step HB1.out hb1); clear hga hbx hb1 hc0 hc1 hc2 hc3 hc4 hc5 hc6)
    | ((with_reducible refine gate_store (t := 75) (p := 6) rfl ?_); refine store_seg rfl 75 (.tmp 6) _ rfl rfl (g := ga) (off := 0) [.int .i64 b0, .int .i64 b1, .int .i64 b2, .int .i64 b3, .int .i64 b4, .int .i64 b5, .int .i64 b6] (.agg #[.int .i64 b0, .int .i64 b1, .int .i64 b2, .int .i64 b3, .int .i64 b4, .int .i64 b5, .int .i64 b6]) rfl rfl rfl (by kernel_rfl) (one_all rfl) HX2.out (Nat.le_refl 7) #[.int .i64 b0, .int .i64 b1, .int .i64 b2, .int .i64 b3, .int .i64 b4, .int .i64 b5, .int .i64 b6] rfl ?_; intro w3 hx3 hg3; have HX3 := Aside0.mk hx3; have HB3 := Aside0.mk (grown_below HB2.out hg3 HGA.out); clear hx3 hg3)
    | (go_at_call 13; (with_reducible refine (calamusref02_Copy.calls _ _ l0 l0 _ (Kd.C_below HC.out HB3.out) HL.out HCP.out).mono ?_); rintro e w4 ⟨v4, rfl, ho4, hb4⟩; have HO4 := Aside0.mk (Kd.R_lower ho4 (below_size HB3.out)); have HX4 := Aside0.mk (blk_below HX3.out hb4); have HB4 := Aside0.mk (below_step HB3.out hb4); have hc0 : w4.cell? ⟨ga, 0, none⟩ = some (.int .i64 b0) := (blk_cell HX4.out 0).trans rfl; have hc1 : w4.cell? ⟨ga, 1, none⟩ = some (.int .i64 b1) := (blk_cell HX4.out 1).trans rfl; have hc2 : w4.cell? ⟨ga, 2, none⟩ = some (.int .i64 b2) := (blk_cell HX4.out 2).trans rfl; have hc3 : w4.cell? ⟨ga, 3, none⟩ = some (.int .i64 b3) := (blk_cell HX4.out 3).trans rfl; have hc4 : w4.cell? ⟨ga, 4, none⟩ = some (.int .i64 b4) := (blk_cell HX4.out 4).trans rfl; have hc5 : w4.cell? ⟨ga, 5, none⟩ = some (.int .i64 b5) := (blk_cell HX4.out 5).trans rfl; have hc6 : w4.cell? ⟨ga, 6, none⟩ = some (.int .i64 b6) := (blk_cell HX4.out 6).trans rfl; clear ho4 hb4))
  go_loopg [7, 31] 7 (fun kq v7 v31 w' => ∃ (k : Nat), v31 = .int .i64 (k : Int) ∧ k ≤ 7 ∧ Aside0 (7 - k = kq) ∧ Aside0 (∀ j, j < k → okM ([b0, b1, b2, b3, b4, b5, b6].getD j 0)) ∧ Aside0 (Kd.R (Kd.int .u8) 5 w' w.heap.size (fun _ => True) v7 (layM l0 [b0, b1, b2, b3, b4, b5, b6] k)) ∧ Aside0 (Below w.heap.size w w'))
  case atStart => exact ⟨0, rfl, by omega, ⟨rfl⟩, ⟨fun j hj => absurd hj (by omega)⟩, HO4, HB4⟩
  case round =>
    clear hc0 hc1 hc2 hc3 hc4 hc5 hc6
    obtain ⟨k, rfl, hk, HK, HA8, HO8, HB8⟩ := hrel
    by_cases hlt : k < 7
    · obtain ⟨v, hv⟩ : ∃ v, [b0, b1, b2, b3, b4, b5, b6].getD k 0 = v := ⟨_, rfl⟩
      have hix := idx7 b0 b1 b2 b3 b4 b5 b6 k hlt
      rw [hv] at hix
      have HV := Aside0.mk hv
      have HIv := Aside0.mk (show inI v from hv ▸ all7 inI b0 b1 b2 b3 b4 b5 b6 HI.out k hlt)
      clear hv
      obtain ⟨p, hp⟩ : ∃ p, placesL.getD k 0 = p := ⟨_, rfl⟩
      have hixp := idxp k hlt
      obtain ⟨hp1, hp2⟩ := places_bd k hlt
      rw [hp] at hixp hp1 hp2
      have HP := Aside0.mk hp
      clear hp
      obtain ⟨xs, hxs⟩ : ∃ xs, layM l0 [b0, b1, b2, b3, b4, b5, b6] k = xs := ⟨_, rfl⟩
      have HXL := Aside0.mk (show xs.length = l0.length by rw [← hxs, layM_length _ _ (by have := H54.out; omega) k (by omega)])
      have HNX := Aside0.mk (show layM l0 [b0, b1, b2, b3, b4, b5, b6] (k + 1) = lay2 xs p.toNat v by rw [layM, hxs, HV.out, HP.out])
      rw [hxs] at HO8
      obtain ⟨A8, c8, hv8, hl8, hC8⟩ := Kd.R_reads HO8.out
      subst hv8
      have HC8 := Aside0.mk hC8
      have HL8 := Aside0.mk hl8
      clear hxs hC8 hl8
      by_cases hok : okM v
      · have HOK := Aside0.mk hok
        obtain ⟨hv1, hv2⟩ := hok
        have HRL := Aside0.mk (ref05lay_eq xs p.toNat v HIv.out (by have := HXL.out; have := HMX.out; omega) (by have := HXL.out; have := H54.out; omega) kr HKR.out p (by omega))
        go_wp2_with (go_at_call 42; (with_reducible refine (calamusref05_lay.calls kr _ _ xs p v (lay2 xs p.toNat v) _ HC8.out HL8.out HRL.out).mono ?_); rintro e w10 ⟨v10, rfl, ho10, hb10⟩; have HO10 := Aside0.mk (Kd.R_lower ho10 (below_size HB8.out)); have HB10 := Aside0.mk (below_step HB8.out hb10); clear ho10 hb10)
        go_roundg (7 - (k + 1))
        case measure => have := HK.out; omega
        case rel => exact ⟨k + 1, by go_num, by omega, ⟨rfl⟩, ⟨fun j hj => by
          rcases Nat.lt_or_ge j k with h | h
          · exact HA8.out j h
          · obtain rfl : j = k := by omega
            rw [HV.out]; exact HOK.out⟩, ⟨by rw [HNX.out]; exact HO10.out⟩, HB10⟩
      · have hbad : v < 0 ∨ 65535 < v := by unfold okM at hok; omega
        have HF := Aside0.mk (show ¬ (okM b0 ∧ okM b1 ∧ okM b2 ∧ okM b3 ∧ okM b4 ∧ okM b5 ∧ okM b6) from fun hc => hok (HV.out ▸ all7 okM b0 b1 b2 b3 b4 b5 b6 hc k hlt))
        clear hok
        rcases hbad with hbad | hbad
        all_goals
          go_wp2
          go_ret2
          obtain ⟨rfl, rfl⟩ := HRN.out HF.out
          exact ⟨_, rfl, Kd.R_nil _ _ _ _ _, HB8.out⟩
    · obtain rfl : k = 7 := by omega
      have HT := Aside0.mk (show okM b0 ∧ okM b1 ∧ okM b2 ∧ okM b3 ∧ okM b4 ∧ okM b5 ∧ okM b6 from ⟨HA8.out 0 (by omega), HA8.out 1 (by omega), HA8.out 2 (by omega), HA8.out 3 (by omega), HA8.out 4 (by omega), HA8.out 5 (by omega), HA8.out 6 (by omega)⟩)
      go_wp2
      go_ret2
      obtain ⟨rfl, rfl⟩ := HRY.out HT.out
      exact ⟨_, rfl, HO8.out, HB8.out⟩
theorem calamusref05_PutMaxp.calls (k : Nat) (A0 : Option Addr) (c0 : Nat) (l0 : List Int) (b0 b1 b2 b3 b4 b5 b6 : Int) (r1 : List Int) (r2 : Int) (w : World) (hr0 : Kd.C (Kd.int .u8) w A0 l0.length l0) (hc0 : l0.length ≤ c0) (h : calamusref05_PutMaxp.f k l0 b0 b1 b2 b3 b4 b5 b6 = some (r1, r2)) :
    Calls Tryd.prog 15 #[.slice A0 l0.length c0, .agg #[.int .i64 b0, .int .i64 b1, .int .i64 b2, .int .i64 b3, .int .i64 b4, .int .i64 b5, .int .i64 b6]] w fun e w' => ∃ v0_ : Value, e = .returned (.tuple #[v0_, .int .i64 r2]) ∧ Kd.R (Kd.int .u8) 5 w' w.heap.size (fun _ => True) v0_ r1 ∧ Below w.heap.size w w' := by
  unfold calamusref05_PutMaxp.f at h
  split at h
  case isFalse => cases h
  rename_i hg
  obtain ⟨hk, hmax, hi⟩ := hg
  have h := Option.some.inj h
  unfold putMaxpR at h
  by_cases h1 : l0.length < 32
  · rw [if_pos h1] at h
    obtain ⟨rfl, rfl⟩ := Prod.mk.inj h
    exact refPutMaxp_short A0 c0 l0 b0 b1 b2 b3 b4 b5 b6 w h1
  rw [if_neg h1] at h
  refine refPutMaxp_ok k hk A0 c0 l0 b0 b1 b2 b3 b4 b5 b6 w ⟨hr0⟩ ⟨hc0⟩ hmax h1 ⟨hi⟩ r1 r2 ⟨fun hc => ?_⟩ ⟨fun hc => ?_⟩
  · rw [if_pos hc] at h
    obtain ⟨rfl, rfl⟩ := Prod.mk.inj h
    exact ⟨rfl, rfl⟩
  · rw [if_neg hc] at h
    obtain ⟨rfl, rfl⟩ := Prod.mk.inj h
    exact ⟨rfl, rfl⟩


end Go.Proofs.YtcclmaicdmogjaaDoor.P

-- Written by wip/pr.py over the kit's print
namespace Go.Proofs.YtcclmaicdmogjaaDoor.P
open Go.RowKit Go.Proofs.YtcclmaicdmogjaaDoorW.PrintWords Go.Proofs.YtcclmaicdmogjaaDoorW.PrintLast Go.Proofs.YtcclmaicdmogjaaDoorW.PrintMore
attribute [local go_sem] max2_int min2_int max_two min_two max_three min_three max_four min_four   -- for this text's walks alone
set_option linter.unusedVariables false
set_option linter.unusedSimpArgs false

/-! ### head_Maxp: function 21 (by hand) -/
-- FUNC calamus/head.Maxp
-- ROUNDS no
-- MAKES yes
-- INFO uint8
-- GLOBAL yes
-- NEEDS boxlaw
-- USESF calamusref05_PutMaxp
def head_Maxp.f (l0 : List Int) : Option (Int × Int × Int × Int × Int × Int × Int × Int) :=
  if (l0.length : Int) < 32 then some (0, 0, 0, 0, 0, 0, 0, 3) else (head_u.f l0 0 4).bind fun ver => if ver ≠ 65536 then some (0, 0, 0, 0, 0, 0, 0, 4) else
    (head_u.f l0 4 2).bind fun m0 => (head_u.f l0 6 2).bind fun m1 => (head_u.f l0 8 2).bind fun m2 => (head_u.f l0 10 2).bind fun m3 => (head_u.f l0 12 2).bind fun m4 => (head_u.f l0 28 2).bind fun m5 => (head_u.f l0 30 2).bind fun m6 =>  some (m0, m1, m2, m3, m4, m5, m6, 0)
/-- The array of what was read, after k rounds. -/
def mk7 (ms : List Int) (k : Nat) : List Value := (ms.take k).map (Value.int .i64) ++ List.replicate (7 - k) (.int .i64 0)
theorem mk7_length (ms : List Int) (h : ms.length = 7) (k : Nat) (hk : k ≤ 7) : (mk7 ms k).length = 7 := by
  unfold mk7; simp only [List.length_append, List.length_map, List.length_take, List.length_replicate]; omega
theorem mk7_step (ms : List Int) (h : ms.length = 7) (k : Nat) (hk : k < 7) : mk7 ms (k + 1) = (mk7 ms k).take k ++ [.int .i64 (ms.getD k 0)] ++ (mk7 ms k).drop (k + 1) := by
  have hl : ((ms.take k).map (Value.int .i64)).length = k := by simp only [List.length_map, List.length_take]; omega
  unfold mk7
  have e1 : ((ms.take k).map (Value.int .i64) ++ List.replicate (7 - k) (Value.int .i64 0)).take k = (ms.take k).map (Value.int .i64) := by
    rw [List.take_append_of_le_length (by omega), List.take_of_length_le (by omega)]
  have e2 : ((ms.take k).map (Value.int .i64) ++ List.replicate (7 - k) (Value.int .i64 0)).drop (k + 1) = List.replicate (7 - (k + 1)) (.int .i64 0) := by
    rw [List.drop_append, hl, List.drop_of_length_le (by omega), List.nil_append, List.drop_replicate, show 7 - k - (k + 1 - k) = 7 - (k + 1) by omega]
  have e3 : (ms.take (k + 1)).map (Value.int .i64) = (ms.take k).map (Value.int .i64) ++ [.int .i64 (ms.getD k 0)] := by
    rw [List.take_succ_eq_append_getElem (by omega), List.map_append, List.getD_eq_getElem?_getD, List.getElem?_eq_getElem (by omega)]
    rfl
  rw [e1, e2, e3]
set_option maxHeartbeats 2000000 in
set_option maxRecDepth 100000 in
theorem head_Maxp_short (A0 : Option Addr) (c0 : Nat) (l0 : List Int) (w : World) (HC : Aside0 (Kd.C (Kd.int .u8) w A0 l0.length l0)) (HL : Aside0 (l0.length ≤ c0)) (HA : Aside0 (head_ask.f l0 32 = some 3)) :
    Calls Tryd.prog 21 #[.slice A0 l0.length c0] w fun e w' => e = .returned (.tuple #[.agg #[.int .i64 0, .int .i64 0, .int .i64 0, .int .i64 0, .int .i64 0, .int .i64 0, .int .i64 0], .int .i64 3]) ∧ Below w.heap.size w w' := by
  have HB := Aside0.mk (Below.refl w.heap.size w)
  go_enter Tryd.func21, Tryd.ntmps21
  go_wp2_with (first
    | ((with_reducible refine gate_dst (N := 2) rfl ?_); refine box_event rfl (N := 2) rfl (cs := #[.int .i64 0, .int .i64 0, .int .i64 0, .int .i64 0, .int .i64 0, .int .i64 0, .int .i64 0]) (t := 24) ?hr ?_; (case hr => first | (go_simp; done) | (go_simp; rfl)); intro gb2 hgb w1 hbx hb1; have HX2 := Aside0.mk hbx; have GE2 := Aside0.mk (show w.heap.size ≤ gb2 from Nat.le_of_eq hgb.symm); clear HB; have HB := Aside0.mk hb1; clear hgb hbx hb1)
    | (go_at_call 40; (with_reducible refine (head_ask.calls _ _ l0 32 3 _ ?sc HL.out HA.out).mono ?_); (case sc => repeat (first | exact Kd.C_below HC.out HB.out | (with_reducible refine Kd.C_drewN ?_ _) | (with_reducible refine Kd.C_drew ?_))); rintro e w' ⟨rfl, ⟨nd, rfl⟩⟩)
    | ((with_reducible refine gate_store (t := 24) (p := 2) rfl ?_); refine store_seg rfl 24 (.tmp 2) _ rfl rfl (g := gb2) (off := 0) [.int .i64 0, .int .i64 0, .int .i64 0, .int .i64 0, .int .i64 0, .int .i64 0, .int .i64 0] (.agg #[.int .i64 0, .int .i64 0, .int .i64 0, .int .i64 0, .int .i64 0, .int .i64 0, .int .i64 0]) rfl rfl rfl (by kernel_rfl) (one_all rfl) HX2.out (Nat.le_refl 7) #[.int .i64 0, .int .i64 0, .int .i64 0, .int .i64 0, .int .i64 0, .int .i64 0, .int .i64 0] rfl ?_; intro w8 hx6 hg6; have n1 : Aside0 (Below w.heap.size w w8) := ⟨by first | exact grown_below HB.out hg6 GE2.out | exact grown_below (pw_below_drewN HB.out _) hg6 GE2.out⟩; clear HX2 HB; have HB := n1; have HX2 := Aside0.mk hx6; clear n1 hx6 hg6))
  refine bodyPost_ret (results_ct rfl _ _ gb2 24 #[.int .i64 0, .int .i64 0, .int .i64 0, .int .i64 0, .int .i64 0, .int .i64 0, .int .i64 0] (0, 0) _ rfl (by exact HX2.out) Tryd.underlying24 rfl (by kernel_rfl)) rfl ?_
  exact ⟨rfl, by first | exact HB.out | exact pw_below_drewN HB.out _⟩
set_option maxHeartbeats 2000000 in
set_option maxRecDepth 100000 in
theorem head_Maxp_ver (A0 : Option Addr) (c0 : Nat) (l0 : List Int) (ver : Int) (hv : ver ≠ 65536) (w : World) (HC : Aside0 (Kd.C (Kd.int .u8) w A0 l0.length l0)) (HL : Aside0 (l0.length ≤ c0)) (HA : Aside0 (head_ask.f l0 32 = some 0)) (AV : Aside0 (head_u.f l0 0 4 = some ver)) :
    Calls Tryd.prog 21 #[.slice A0 l0.length c0] w fun e w' => e = .returned (.tuple #[.agg #[.int .i64 0, .int .i64 0, .int .i64 0, .int .i64 0, .int .i64 0, .int .i64 0, .int .i64 0], .int .i64 4]) ∧ Below w.heap.size w w' := by
  have HB := Aside0.mk (Below.refl w.heap.size w)
  have hv' : (ver != 65536) = true := by rw [bne_iff_ne]; exact hv
  clear hv
  go_enter Tryd.func21, Tryd.ntmps21
  go_wp2_with (first
    | ((with_reducible refine gate_dst (N := 2) rfl ?_); refine box_event rfl (N := 2) rfl (cs := #[.int .i64 0, .int .i64 0, .int .i64 0, .int .i64 0, .int .i64 0, .int .i64 0, .int .i64 0]) (t := 24) ?hr ?_; (case hr => first | (go_simp; done) | (go_simp; rfl)); intro gb2 hgb w1 hbx hb1; have HX2 := Aside0.mk hbx; have GE2 := Aside0.mk (show w.heap.size ≤ gb2 from Nat.le_of_eq hgb.symm); clear HB; have HB := Aside0.mk hb1; clear hgb hbx hb1)
    | (go_at_call 40; (with_reducible refine (head_ask.calls _ _ l0 32 0 _ ?sc HL.out HA.out).mono ?_); (case sc => repeat (first | exact Kd.C_below HC.out HB.out | (with_reducible refine Kd.C_drewN ?_ _) | (with_reducible refine Kd.C_drew ?_))); rintro e w' ⟨rfl, ⟨nd, rfl⟩⟩)
    | (go_at_call 43; (with_reducible refine (head_u.calls _ _ l0 0 4 ver _ ?sc HL.out AV.out).mono ?_); (case sc => repeat (first | exact Kd.C_below HC.out HB.out | (with_reducible refine Kd.C_drewN ?_ _) | (with_reducible refine Kd.C_drew ?_))); rintro e w' ⟨rfl, ⟨nd, rfl⟩⟩)
    | ((with_reducible refine gate_store (t := 24) (p := 2) rfl ?_); refine store_seg rfl 24 (.tmp 2) _ rfl rfl (g := gb2) (off := 0) [.int .i64 0, .int .i64 0, .int .i64 0, .int .i64 0, .int .i64 0, .int .i64 0, .int .i64 0] (.agg #[.int .i64 0, .int .i64 0, .int .i64 0, .int .i64 0, .int .i64 0, .int .i64 0, .int .i64 0]) rfl rfl rfl (by kernel_rfl) (one_all rfl) HX2.out (Nat.le_refl 7) #[.int .i64 0, .int .i64 0, .int .i64 0, .int .i64 0, .int .i64 0, .int .i64 0, .int .i64 0] rfl ?_; intro w8 hx6 hg6; have n1 : Aside0 (Below w.heap.size w w8) := ⟨by first | exact grown_below HB.out hg6 GE2.out | exact grown_below (pw_below_drewN HB.out _) hg6 GE2.out⟩; clear HX2 HB; have HB := n1; have HX2 := Aside0.mk hx6; clear n1 hx6 hg6))
  refine bodyPost_ret (results_ct rfl _ _ gb2 24 #[.int .i64 0, .int .i64 0, .int .i64 0, .int .i64 0, .int .i64 0, .int .i64 0, .int .i64 0] (0, 0) _ rfl (by exact HX2.out) Tryd.underlying24 rfl (by kernel_rfl)) rfl ?_
  exact ⟨rfl, by first | exact HB.out | exact pw_below_drewN HB.out _⟩
set_option maxHeartbeats 8000000 in
set_option maxRecDepth 100000 in
theorem head_Maxp_ok (A0 : Option Addr) (c0 : Nat) (l0 : List Int) (m0 m1 m2 m3 m4 m5 m6 : Int) (w : World) (HG : Aside0 (PL w)) (HC : Aside0 (Kd.C (Kd.int .u8) w A0 l0.length l0)) (HL : Aside0 (l0.length ≤ c0)) (HA : Aside0 (head_ask.f l0 32 = some 0)) (AV : Aside0 (head_u.f l0 0 4 = some 65536)) (AU : Aside0 (∀ k, k < 7 → head_u.f l0 (placesL.getD k 0) 2 = some ([m0, m1, m2, m3, m4, m5, m6].getD k 0))) :
    Calls Tryd.prog 21 #[.slice A0 l0.length c0] w fun e w' => e = .returned (.tuple #[.agg #[.int .i64 m0, .int .i64 m1, .int .i64 m2, .int .i64 m3, .int .i64 m4, .int .i64 m5, .int .i64 m6], .int .i64 0]) ∧ Below w.heap.size w w' := by
  have HB := Aside0.mk (Below.refl w.heap.size w)
  go_enter Tryd.func21, Tryd.ntmps21
  go_wp2_with (first
    | ((with_reducible refine gate_dst (N := 2) rfl ?_); refine box_event rfl (N := 2) rfl (cs := #[.int .i64 0, .int .i64 0, .int .i64 0, .int .i64 0, .int .i64 0, .int .i64 0, .int .i64 0]) (t := 24) ?hr ?_; (case hr => first | (go_simp; done) | (go_simp; rfl)); intro gb2 hgb w1 hbx hb1; have HX2 := Aside0.mk hbx; have GE2 := Aside0.mk (show w.heap.size ≤ gb2 from Nat.le_of_eq hgb.symm); clear HB; have HB := Aside0.mk hb1; clear hgb hbx hb1)
    | (go_at_call 40; (with_reducible refine (head_ask.calls _ _ l0 32 0 _ ?sc HL.out HA.out).mono ?_); (case sc => repeat (first | exact Kd.C_below HC.out HB.out | (with_reducible refine Kd.C_drewN ?_ _) | (with_reducible refine Kd.C_drew ?_))); rintro e w' ⟨rfl, ⟨nd, rfl⟩⟩)
    | (go_at_call 43; (with_reducible refine (head_u.calls _ _ l0 0 4 65536 _ ?sc HL.out AV.out).mono ?_); (case sc => repeat (first | exact Kd.C_below HC.out HB.out | (with_reducible refine Kd.C_drewN ?_ _) | (with_reducible refine Kd.C_drew ?_))); rintro e w' ⟨rfl, ⟨nd, rfl⟩⟩)
    | ((with_reducible refine gate_dst (N := 5) rfl ?_); refine box_event rfl (N := 5) rfl (cs := #[.int .i64 0, .int .i64 0, .int .i64 0, .int .i64 0, .int .i64 0, .int .i64 0, .int .i64 0]) (t := 75) ?hr ?_; (case hr => first | (go_simp; done) | (go_simp; rfl)); intro gb5 hgb w5 hbx hb1; have HX5 := Aside0.mk hbx; have n0 := Aside0.mk (blk_below (blk_drewN HX2.out _) hb1); have n1 := Aside0.mk (show w.heap.size ≤ gb5 from (by have h2 : gb5 = w1.heap.size := hgb; rw [h2]; exact below_size HB.out)); have n2 := Aside0.mk (below_step (pw_below_drewN HB.out _) hb1); have n3 := Aside0.mk (show some gb2 ≠ some gb5 from fun he => by have h1 := blk_lt HX2.out; have h2 : gb5 = w1.heap.size := hgb; injection he with he; omega); clear HX2 HB; have HX2 := n0; have GE5 := n1; have HB := n2; have NE25 := n3; clear n0 n1 n2 n3 hgb hbx hb1; have hp0 : w5.cell? ⟨0, 0, none⟩ = some (.int .i64 4) := (PL_below HG.out HB.out).1; have hp1 : w5.cell? ⟨0, 1, none⟩ = some (.int .i64 6) := (PL_below HG.out HB.out).2.1; have hp2 : w5.cell? ⟨0, 2, none⟩ = some (.int .i64 8) := (PL_below HG.out HB.out).2.2.1; have hp3 : w5.cell? ⟨0, 3, none⟩ = some (.int .i64 10) := (PL_below HG.out HB.out).2.2.2.1; have hp4 : w5.cell? ⟨0, 4, none⟩ = some (.int .i64 12) := (PL_below HG.out HB.out).2.2.2.2.1; have hp5 : w5.cell? ⟨0, 5, none⟩ = some (.int .i64 28) := (PL_below HG.out HB.out).2.2.2.2.2.1; have hp6 : w5.cell? ⟨0, 6, none⟩ = some (.int .i64 30) := (PL_below HG.out HB.out).2.2.2.2.2.2))
  go_loopg [19] 7 (fun kq v19 w' => ∃ (k : Nat), v19 = .int .i64 (k : Int) ∧ k ≤ 7 ∧ Aside0 (7 - k = kq) ∧ Aside0 (w'.heap[gb2]? = some (.cells #[.int .i64 0, .int .i64 0, .int .i64 0, .int .i64 0, .int .i64 0, .int .i64 0, .int .i64 0] 24 (0, 0))) ∧ Aside0 (w'.heap[gb5]? = some (.cells (mk7 [m0, m1, m2, m3, m4, m5, m6] k).toArray 75 (0, 0))) ∧ Aside0 (Below w.heap.size w w'))
  case atStart => exact ⟨0, rfl, by omega, ⟨rfl⟩, HX2, HX5, HB⟩
  case round =>
    clear hp0 hp1 hp2 hp3 hp4 hp5 hp6
    clear HX2 HX5 HB
    obtain ⟨k, rfl, hk, HK, HX2, HX5, HB⟩ := hrel
    by_cases hlt : k < 7
    · obtain ⟨v, hv⟩ : ∃ v, [m0, m1, m2, m3, m4, m5, m6].getD k 0 = v := ⟨_, rfl⟩
      obtain ⟨p, hp⟩ : ∃ p, placesL.getD k 0 = p := ⟨_, rfl⟩
      have hixp := idxp k hlt
      have hu := AU.out k hlt
      have hst := mk7_step [m0, m1, m2, m3, m4, m5, m6] rfl k hlt
      rw [hp] at hixp hu
      rw [hv] at hu hst
      have HU := Aside0.mk hu
      have HS := Aside0.mk hst
      have HLN := Aside0.mk (mk7_length [m0, m1, m2, m3, m4, m5, m6] rfl k (by omega))
      clear hv hp hu hst
      go_wp2_with (first
        | (go_at_call 43; (with_reducible refine (head_u.calls _ _ l0 p 2 v _ ?sc HL.out HU.out).mono ?_); (case sc => repeat (first | exact Kd.C_below HC.out HB.out | (with_reducible refine Kd.C_drewN ?_ _) | (with_reducible refine Kd.C_drew ?_))); rintro e w' ⟨rfl, ⟨nd, rfl⟩⟩)
        | ((with_reducible refine gate_store (t := 3) (p := 27) rfl ?_); refine store_seg rfl 3 (.tmp 27) _ rfl rfl (g := gb5) (off := k) [.int .i64 v] (.int .i64 v) ?sp rfl rfl (by kernel_rfl) (one_all rfl) HX5.out ?sf (mk7 [m0, m1, m2, m3, m4, m5, m6] (k + 1)).toArray ?se ?_; (case sp => first | rfl | (simp [Act.eval, Act.put])); (case sf => (have h1 := HLN.out; simp only [List.size_toArray, h1, List.length_cons, List.length_nil]; omega)); (case se => exact HS.out); intro w9 hx9 hg9; have HX9 := Aside0.mk hx9; have HY9 := Aside0.mk (blk_grown (w := World.drewN wr _) HX2.out hg9 NE25.out); have HB9 : Aside0 (Below w.heap.size w w9) := ⟨by first | exact grown_below HB.out hg9 GE5.out | exact grown_below (pw_below_drewN HB.out _) hg9 GE5.out⟩; clear hx9 hg9))
      go_roundg (7 - (k + 1))
      case measure => have := HK.out; omega
      case rel => exact ⟨k + 1, by go_num, by omega, ⟨rfl⟩, HY9, HX9, HB9⟩
    · obtain rfl : k = 7 := by omega
      have HX7 : Aside0 (wr.heap[gb5]? = some (.cells #[.int .i64 m0, .int .i64 m1, .int .i64 m2, .int .i64 m3, .int .i64 m4, .int .i64 m5, .int .i64 m6] 75 (0, 0))) := ⟨HX5.out⟩
      have hm0 : wr.cell? ⟨gb5, 0, none⟩ = some (.int .i64 m0) := (blk_cell HX7.out 0).trans rfl
      have hm1 : wr.cell? ⟨gb5, 1, none⟩ = some (.int .i64 m1) := (blk_cell HX7.out 1).trans rfl
      have hm2 : wr.cell? ⟨gb5, 2, none⟩ = some (.int .i64 m2) := (blk_cell HX7.out 2).trans rfl
      have hm3 : wr.cell? ⟨gb5, 3, none⟩ = some (.int .i64 m3) := (blk_cell HX7.out 3).trans rfl
      have hm4 : wr.cell? ⟨gb5, 4, none⟩ = some (.int .i64 m4) := (blk_cell HX7.out 4).trans rfl
      have hm5 : wr.cell? ⟨gb5, 5, none⟩ = some (.int .i64 m5) := (blk_cell HX7.out 5).trans rfl
      have hm6 : wr.cell? ⟨gb5, 6, none⟩ = some (.int .i64 m6) := (blk_cell HX7.out 6).trans rfl
      go_wp2_with (((with_reducible refine gate_store (t := 24) (p := 2) rfl ?_); refine store_seg rfl 24 (.tmp 2) _ rfl rfl (g := gb2) (off := 0) [.int .i64 m0, .int .i64 m1, .int .i64 m2, .int .i64 m3, .int .i64 m4, .int .i64 m5, .int .i64 m6] (.agg #[.int .i64 m0, .int .i64 m1, .int .i64 m2, .int .i64 m3, .int .i64 m4, .int .i64 m5, .int .i64 m6]) rfl rfl rfl (by kernel_rfl) (one_all rfl) HX2.out (Nat.le_refl 7) #[.int .i64 m0, .int .i64 m1, .int .i64 m2, .int .i64 m3, .int .i64 m4, .int .i64 m5, .int .i64 m6] rfl ?_; intro w8 hx6 hg6; have n1 : Aside0 (Below w.heap.size w w8) := ⟨by first | exact grown_below HB.out hg6 GE2.out | exact grown_below (pw_below_drewN HB.out _) hg6 GE2.out⟩; clear HX2 HB; have HB := n1; have HX2 := Aside0.mk hx6; clear n1 hx6 hg6))
      refine bodyPost_ret (results_ct rfl _ _ gb2 24 #[.int .i64 m0, .int .i64 m1, .int .i64 m2, .int .i64 m3, .int .i64 m4, .int .i64 m5, .int .i64 m6] (0, 0) _ rfl (by exact HX2.out) Tryd.underlying24 rfl (by kernel_rfl)) rfl ?_
      exact ⟨rfl, by first | exact HB.out | exact pw_below_drewN HB.out _⟩

theorem head_Maxp.calls (A0 : Option Addr) (c0 : Nat) (l0 : List Int) (r1 r2 r3 r4 r5 r6 r7 r8 : Int) (w : World) (hG_ : PL w) (hr0 : Kd.C (Kd.int .u8) w A0 l0.length l0) (hc0 : l0.length ≤ c0) (h : head_Maxp.f l0 = some (r1, r2, r3, r4, r5, r6, r7, r8)) :
    Calls Tryd.prog 21 #[.slice A0 l0.length c0] w fun e w' => e = .returned (.tuple #[.agg #[.int .i64 r1, .int .i64 r2, .int .i64 r3, .int .i64 r4, .int .i64 r5, .int .i64 r6, .int .i64 r7], .int .i64 r8]) ∧ Below w.heap.size w w' := by
  unfold head_Maxp.f at h
  by_cases h1 : (l0.length : Int) < 32
  · rw [if_pos h1] at h
    simp only [Option.some.injEq, Prod.mk.injEq] at h
    obtain ⟨rfl, rfl, rfl, rfl, rfl, rfl, rfl, rfl⟩ := h
    exact head_Maxp_short A0 c0 l0 w ⟨hr0⟩ ⟨hc0⟩ ⟨by unfold head_ask.f; rw [if_pos h1]⟩
  rw [if_neg h1] at h
  have HA := Aside0.mk (show head_ask.f l0 32 = some 0 by unfold head_ask.f; rw [if_neg h1])
  obtain ⟨ver, AV, h⟩ := Option.bind_eq_some_iff.mp h
  by_cases hv : ver ≠ 65536
  · rw [if_pos hv] at h
    simp only [Option.some.injEq, Prod.mk.injEq] at h
    obtain ⟨rfl, rfl, rfl, rfl, rfl, rfl, rfl, rfl⟩ := h
    exact head_Maxp_ver A0 c0 l0 ver hv w ⟨hr0⟩ ⟨hc0⟩ HA ⟨AV⟩
  obtain rfl : ver = 65536 := by omega
  rw [if_neg hv] at h
  obtain ⟨m0, B0, h⟩ := Option.bind_eq_some_iff.mp h
  obtain ⟨m1, B1, h⟩ := Option.bind_eq_some_iff.mp h
  obtain ⟨m2, B2, h⟩ := Option.bind_eq_some_iff.mp h
  obtain ⟨m3, B3, h⟩ := Option.bind_eq_some_iff.mp h
  obtain ⟨m4, B4, h⟩ := Option.bind_eq_some_iff.mp h
  obtain ⟨m5, B5, h⟩ := Option.bind_eq_some_iff.mp h
  obtain ⟨m6, B6, h⟩ := Option.bind_eq_some_iff.mp h
  simp only [Option.some.injEq, Prod.mk.injEq] at h
  obtain ⟨rfl, rfl, rfl, rfl, rfl, rfl, rfl, rfl⟩ := h
  refine head_Maxp_ok A0 c0 l0 _ _ _ _ _ _ _ w ⟨hG_⟩ ⟨hr0⟩ ⟨hc0⟩ HA ⟨AV⟩ ⟨fun k hk => ?_⟩
  match k, hk with
  | 0, _ => exact B0
  | 1, _ => exact B1
  | 2, _ => exact B2
  | 3, _ => exact B3
  | 4, _ => exact B4
  | 5, _ => exact B5
  | 6, _ => exact B6


end Go.Proofs.YtcclmaicdmogjaaDoor.P

-- Written by wip/pr.py over the kit's print
namespace Go.Proofs.YtcclmaicdmogjaaDoor.P
open Go.RowKit Go.Proofs.YtcclmaicdmogjaaDoorW.PrintWords Go.Proofs.YtcclmaicdmogjaaDoorW.PrintLast Go.Proofs.YtcclmaicdmogjaaDoorW.PrintMore
attribute [local go_sem] max2_int min2_int max_two min_two max_three min_three max_four min_four   -- for this text's walks alone
set_option linter.unusedVariables false
set_option linter.unusedSimpArgs false

/-! ### head_Count: function 22 -/
def head_Count.f (l0 : List Int) : Option (Int × Int) := (head_ask.f l0 36).bind fun t178 => (if t178 = 0 then ((head_u.f l0 34 2).bind fun t179 => (if t179 = 0 then (some (0, 4)) else (some (t179, 0)))) else (some (0, t178)))
set_option maxHeartbeats 8000000 in
set_option maxRecDepth 100000 in
theorem head_Count.calls (A0 : Option Addr) (c0 : Nat) (l0 : List Int) (r1 : Int) (r2 : Int) (w : World) (hr0 : Kd.C (Kd.int .u8) w A0 l0.length l0) (hc0 : l0.length ≤ c0) (h : head_Count.f l0 = some (r1, r2)) :
    Calls Tryd.prog 22 #[.slice A0 l0.length c0] w fun e w' => e = .returned (.tuple #[.int .i64 r1, .int .i64 r2]) ∧ Drawn0 w w' := by
  have HR0 := Aside0.mk hr0
  have HC0 := Aside0.mk hc0
  clear hr0 hc0
  have H : ((head_ask.f l0 36).bind fun t178 => (if t178 = 0 then ((head_u.f l0 34 2).bind fun t179 => (if t179 = 0 then (some (0, 4)) else (some (t179, 0)))) else (some (0, t178)))) = some (r1, r2) := h
  clear h
  replace H := Option.bind_eq_some_iff.mp H
  obtain ⟨t178, A20, H⟩ := H
  replace H : (if t178 = 0 then ((head_u.f l0 34 2).bind fun t179 => (if t179 = 0 then (some (0, 4)) else (some (t179, 0)))) else (some (0, t178))) = some (r1, r2) := H
  have A2 := Aside0.mk A20
  clear A20
  by_cases c3 : t178 = 0
  · rw [if_pos c3] at H
    have c3b0 : (t178 == 0) = true := beq_iff_eq.mpr c3
    have c3b1 : (t178 != 0) = false := bne_eq_false_iff_eq.mpr c3
    clear c3
    replace H := Option.bind_eq_some_iff.mp H
    obtain ⟨t179, A40, H⟩ := H
    replace H : (if t179 = 0 then (some (0, 4)) else (some (t179, 0))) = some (r1, r2) := H
    have A4 := Aside0.mk A40
    clear A40
    by_cases c5 : t179 = 0
    · rw [if_pos c5] at H
      have c5b0 : (t179 == 0) = true := beq_iff_eq.mpr c5
      have c5b1 : (t179 != 0) = false := bne_eq_false_iff_eq.mpr c5
      clear c5
      simp only [Option.some.injEq, Prod.mk.injEq] at H
      obtain ⟨rfl, rfl⟩ := H
      go_enter Tryd.func22, Tryd.ntmps22
      go_wp2_with (first | ((with_reducible refine gate_callee (f := 40) rfl ?_); refine goesL_ (some 7) rfl rfl Tryd.func40 (by kernel_rfl) rfl #[.slice A0 l0.length c0, .int .i64 36] rfl (by (try simp only [List.map_toArray, List.map_cons, List.map_nil]); first | done | rfl | (simp only [List.length_drop, List.length_take]; rfl)) ?_; (with_reducible refine (head_ask.calls _ _ l0 36 t178 _ ?side1 ?side2 A2.out).mono ?_); (case side1 => repeat (first | exact HR0.out | (with_reducible refine Kd.C_alloc ?_ _) | (with_reducible refine Kd.C_drewN ?_ _) | (with_reducible refine Kd.C_drew ?_))); (case side2 => exact HC0.out); rintro e w' ⟨rfl, ⟨nd, rfl⟩⟩; refine ⟨_, rfl, ?_⟩) | ((with_reducible refine gate_callee (f := 43) rfl ?_); refine goesL_ (some 12) rfl rfl Tryd.func43 (by kernel_rfl) rfl #[.slice A0 l0.length c0, .int .i64 34, .int .i64 2] rfl (by (try simp only [List.map_toArray, List.map_cons, List.map_nil]); first | done | rfl | (simp only [List.length_drop, List.length_take]; rfl)) ?_; (with_reducible refine (head_u.calls _ _ l0 34 2 t179 _ ?side1 ?side2 A4.out).mono ?_); (case side1 => repeat (first | exact HR0.out | (with_reducible refine Kd.C_alloc ?_ _) | (with_reducible refine Kd.C_drewN ?_ _) | (with_reducible refine Kd.C_drew ?_))); (case side2 => exact HC0.out); rintro e w' ⟨rfl, ⟨nd, rfl⟩⟩; refine ⟨_, rfl, ?_⟩))
      go_ret2
      exact ⟨by first | rfl | (simp; done) | (simp [*]; done), by repeat (first | exact Drawn0.refl _ | apply Drawn0.step)⟩
    · rw [if_neg c5] at H
      have c5b0 : (t179 == 0) = false := beq_eq_false_iff_ne.mpr c5
      have c5b1 : (t179 != 0) = true := bne_iff_ne.mpr c5
      simp only [Option.some.injEq, Prod.mk.injEq] at H
      obtain ⟨rfl, rfl⟩ := H
      go_enter Tryd.func22, Tryd.ntmps22
      go_wp2_with (first | ((with_reducible refine gate_callee (f := 40) rfl ?_); refine goesL_ (some 7) rfl rfl Tryd.func40 (by kernel_rfl) rfl #[.slice A0 l0.length c0, .int .i64 36] rfl (by (try simp only [List.map_toArray, List.map_cons, List.map_nil]); first | done | rfl | (simp only [List.length_drop, List.length_take]; rfl)) ?_; (with_reducible refine (head_ask.calls _ _ l0 36 t178 _ ?side1 ?side2 A2.out).mono ?_); (case side1 => repeat (first | exact HR0.out | (with_reducible refine Kd.C_alloc ?_ _) | (with_reducible refine Kd.C_drewN ?_ _) | (with_reducible refine Kd.C_drew ?_))); (case side2 => exact HC0.out); rintro e w' ⟨rfl, ⟨nd, rfl⟩⟩; refine ⟨_, rfl, ?_⟩) | ((with_reducible refine gate_callee (f := 43) rfl ?_); refine goesL_ (some 12) rfl rfl Tryd.func43 (by kernel_rfl) rfl #[.slice A0 l0.length c0, .int .i64 34, .int .i64 2] rfl (by (try simp only [List.map_toArray, List.map_cons, List.map_nil]); first | done | rfl | (simp only [List.length_drop, List.length_take]; rfl)) ?_; (with_reducible refine (head_u.calls _ _ l0 34 2 t179 _ ?side1 ?side2 A4.out).mono ?_); (case side1 => repeat (first | exact HR0.out | (with_reducible refine Kd.C_alloc ?_ _) | (with_reducible refine Kd.C_drewN ?_ _) | (with_reducible refine Kd.C_drew ?_))); (case side2 => exact HC0.out); rintro e w' ⟨rfl, ⟨nd, rfl⟩⟩; refine ⟨_, rfl, ?_⟩))
      go_ret2
      exact ⟨by first | rfl | (simp; done) | (simp [*]; done), by repeat (first | exact Drawn0.refl _ | apply Drawn0.step)⟩
  · rw [if_neg c3] at H
    have c3b0 : (t178 == 0) = false := beq_eq_false_iff_ne.mpr c3
    have c3b1 : (t178 != 0) = true := bne_iff_ne.mpr c3
    simp only [Option.some.injEq, Prod.mk.injEq] at H
    obtain ⟨rfl, rfl⟩ := H
    go_enter Tryd.func22, Tryd.ntmps22
    go_wp2_with (first | ((with_reducible refine gate_callee (f := 40) rfl ?_); refine goesL_ (some 7) rfl rfl Tryd.func40 (by kernel_rfl) rfl #[.slice A0 l0.length c0, .int .i64 36] rfl (by (try simp only [List.map_toArray, List.map_cons, List.map_nil]); first | done | rfl | (simp only [List.length_drop, List.length_take]; rfl)) ?_; (with_reducible refine (head_ask.calls _ _ l0 36 t178 _ ?side1 ?side2 A2.out).mono ?_); (case side1 => repeat (first | exact HR0.out | (with_reducible refine Kd.C_alloc ?_ _) | (with_reducible refine Kd.C_drewN ?_ _) | (with_reducible refine Kd.C_drew ?_))); (case side2 => exact HC0.out); rintro e w' ⟨rfl, ⟨nd, rfl⟩⟩; refine ⟨_, rfl, ?_⟩))
    go_ret2
    exact ⟨by first | rfl | (simp; done) | (simp [*]; done), by repeat (first | exact Drawn0.refl _ | apply Drawn0.step)⟩

end Go.Proofs.YtcclmaicdmogjaaDoor.P

-- Written by wip/pr.py over the kit's print
namespace Go.Proofs.YtcclmaicdmogjaaDoor.P
open Go.RowKit Go.Proofs.YtcclmaicdmogjaaDoorW.PrintWords Go.Proofs.YtcclmaicdmogjaaDoorW.PrintLast Go.Proofs.YtcclmaicdmogjaaDoorW.PrintMore
attribute [local go_sem] max2_int min2_int max_two min_two max_three min_three max_four min_four   -- for this text's walks alone
set_option linter.unusedVariables false
set_option linter.unusedSimpArgs false

/-! ### calamusref05_at: function 45 -/
def calamusref05_at.f (k : Nat) (l0 : List Int) (a1 : Int) : Option (Int) := (calamusref02_U.f k l0 a1 2).bind fun bt182 => (some bt182.1)
theorem calamusref05_at.mono : ∀ a0 a1 k, LeO (calamusref05_at.f k a0 a1) (calamusref05_at.f (k + 1) a0 a1) := by
  intro a0 a1 k
  unfold calamusref05_at.f
  repeat' first
      | (with_reducible exact calamusref02_U.mono _ _ _ _)
      | (with_reducible exact LeO.refl _)
      | (with_reducible exact LeO.none _)
      | (with_reducible refine LeO.ite ?_ ?_)
      | (with_reducible refine LeO.bind ?_ (fun _ => ?_))
      | exact calamusref02_U.mono _ _ _ _
      | exact LeO.none _
      | refine LeO.ite ?_ ?_
      | refine LeO.bind ?_ (fun _ => ?_)
set_option maxHeartbeats 8000000 in
set_option maxRecDepth 100000 in
theorem calamusref05_at.calls (k : Nat) (A0 : Option Addr) (c0 : Nat) (l0 : List Int) (a1 : Int) (r : Int) (w : World) (hr0 : Kd.C (Kd.int .u8) w A0 l0.length l0) (hc0 : l0.length ≤ c0) (h : calamusref05_at.f k l0 a1 = some r) :
    Calls Tryd.prog 45 #[.slice A0 l0.length c0, .int .i64 a1] w fun e w' => e = .returned (.int .i64 r) ∧ Drawn0 w w' := by
  have HR0 := Aside0.mk hr0
  have HC0 := Aside0.mk hc0
  clear hr0 hc0
  have H : ((calamusref02_U.f k l0 a1 2).bind fun bt182 => (some bt182.1)) = some r := h
  clear h
  replace H := Option.bind_eq_some_iff.mp H
  obtain ⟨⟨t182, t183⟩, A30, H⟩ := H
  replace H : (some t182) = some r := H
  have A3 := Aside0.mk A30
  clear A30
  obtain rfl := Option.some.inj H
  go_enter Tryd.func45, Tryd.ntmps45
  go_wp2_with (first | ((with_reducible refine gate_callee (f := 69) rfl ?_); refine goesL_ (some 10) rfl rfl Tryd.func69 (by kernel_rfl) rfl #[.slice A0 l0.length c0, .int .i64 a1, .int .i64 2] rfl (by (try simp only [List.map_toArray, List.map_cons, List.map_nil]); first | done | rfl | (simp only [List.length_drop, List.length_take]; rfl)) ?_; (with_reducible refine (calamusref02_U.calls k _ _ l0 a1 2 t182 t183 _ ?side1 ?side2 A3.out).mono ?_); (case side1 => repeat (first | exact HR0.out | (with_reducible refine Kd.C_alloc ?_ _) | (with_reducible refine Kd.C_drewN ?_ _) | (with_reducible refine Kd.C_drew ?_))); (case side2 => exact HC0.out); rintro e w' ⟨rfl, ⟨nd, rfl⟩⟩; refine ⟨_, rfl, ?_⟩))
  go_ret
  exact ⟨by first | rfl | (simp; done) | (simp [*]; done), by repeat (first | exact Drawn0.refl _ | apply Drawn0.step)⟩

end Go.Proofs.YtcclmaicdmogjaaDoor.P

-- Written by wip/pr.py over the kit's print
namespace Go.Proofs.YtcclmaicdmogjaaDoor.P
open Go.RowKit Go.Proofs.YtcclmaicdmogjaaDoorW.PrintWords Go.Proofs.YtcclmaicdmogjaaDoorW.PrintLast Go.Proofs.YtcclmaicdmogjaaDoorW.PrintMore
attribute [local go_sem] max2_int min2_int max_two min_two max_three min_three max_four min_four   -- for this text's walks alone
set_option linter.unusedVariables false
set_option linter.unusedSimpArgs false

/-! ### calamusref05_signed: function 46 -/
def calamusref05_signed.f (k : Nat) (l0 : List Int) (a1 : Int) : Option (Int) := (calamusref02_S.f k l0 a1 2).bind fun bt186 => (some bt186.1)
theorem calamusref05_signed.mono : ∀ a0 a1 k, LeO (calamusref05_signed.f k a0 a1) (calamusref05_signed.f (k + 1) a0 a1) := by
  intro a0 a1 k
  unfold calamusref05_signed.f
  repeat' first
      | (with_reducible exact calamusref02_S.mono _ _ _ _)
      | (with_reducible exact LeO.refl _)
      | (with_reducible exact LeO.none _)
      | (with_reducible refine LeO.ite ?_ ?_)
      | (with_reducible refine LeO.bind ?_ (fun _ => ?_))
      | exact calamusref02_S.mono _ _ _ _
      | exact LeO.none _
      | refine LeO.ite ?_ ?_
      | refine LeO.bind ?_ (fun _ => ?_)
set_option maxHeartbeats 8000000 in
set_option maxRecDepth 100000 in
theorem calamusref05_signed.calls (k : Nat) (A0 : Option Addr) (c0 : Nat) (l0 : List Int) (a1 : Int) (r : Int) (w : World) (hr0 : Kd.C (Kd.int .u8) w A0 l0.length l0) (hc0 : l0.length ≤ c0) (h : calamusref05_signed.f k l0 a1 = some r) :
    Calls Tryd.prog 46 #[.slice A0 l0.length c0, .int .i64 a1] w fun e w' => e = .returned (.int .i64 r) ∧ Drawn0 w w' := by
  have HR0 := Aside0.mk hr0
  have HC0 := Aside0.mk hc0
  clear hr0 hc0
  have H : ((calamusref02_S.f k l0 a1 2).bind fun bt186 => (some bt186.1)) = some r := h
  clear h
  replace H := Option.bind_eq_some_iff.mp H
  obtain ⟨⟨t186, t187⟩, A30, H⟩ := H
  replace H : (some t186) = some r := H
  have A3 := Aside0.mk A30
  clear A30
  obtain rfl := Option.some.inj H
  go_enter Tryd.func46, Tryd.ntmps46
  go_wp2_with (first | ((with_reducible refine gate_callee (f := 78) rfl ?_); refine goesL_ (some 10) rfl rfl Tryd.func78 (by kernel_rfl) rfl #[.slice A0 l0.length c0, .int .i64 a1, .int .i64 2] rfl (by (try simp only [List.map_toArray, List.map_cons, List.map_nil]); first | done | rfl | (simp only [List.length_drop, List.length_take]; rfl)) ?_; (with_reducible refine (calamusref02_S.calls k _ _ l0 a1 2 t186 t187 _ ?side1 ?side2 A3.out).mono ?_); (case side1 => repeat (first | exact HR0.out | (with_reducible refine Kd.C_alloc ?_ _) | (with_reducible refine Kd.C_drewN ?_ _) | (with_reducible refine Kd.C_drew ?_))); (case side2 => exact HC0.out); rintro e w' ⟨rfl, ⟨nd, rfl⟩⟩; refine ⟨_, rfl, ?_⟩))
  go_ret
  exact ⟨by first | rfl | (simp; done) | (simp [*]; done), by repeat (first | exact Drawn0.refl _ | apply Drawn0.step)⟩

end Go.Proofs.YtcclmaicdmogjaaDoor.P
