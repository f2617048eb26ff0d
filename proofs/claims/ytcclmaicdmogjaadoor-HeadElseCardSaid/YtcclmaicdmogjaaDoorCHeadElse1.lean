/- Part 2 of the proof of the law HeadElse: where head.PutHead and head.PutMaxp lay nothing each byte stays, and what is refused has no bytes, at any bytes of at most 5000 (beyond, the law answers true), any head and any maxp. The row lists the variable head.places, tied to the program's text. -/
import Derived.Test.YtcclmaicdmogjaaDoorCHeadElse0
import Derived.Deep.SlicePairs
import Derived.Deep.Slices
import Derived.Lib.SmallJoins
import Derived.Test.YtcclmaicdmogjaaDoorRows
-- Written by wip/pr.py over the kit's print
namespace Go.Proofs.YtcclmaicdmogjaaDoor.P
open Go.RowKit Go.Proofs.YtcclmaicdmogjaaDoorW.PrintWords Go.Proofs.YtcclmaicdmogjaaDoorW.PrintLast Go.Proofs.YtcclmaicdmogjaaDoorW.PrintMore
attribute [local go_sem] max2_int min2_int max_two min_two max_three min_three max_four min_four   -- for this text's walks alone
set_option linter.unusedVariables false
set_option linter.unusedSimpArgs false

/-! ### calamuslaw05_HeadElse: function 4 -/
mutual
def calamuslaw05_HeadElse.l0 : Nat → List Int → List Int → Int → List Int → Int → Int → Int → Option (Bool)
  | 0, _, _, _, _, _, _, _ => none
  | k + 1, x0, x7, x8, x9, x10, x31, x32 => if x32 < x31 then (if x32 = 18 then (calamuslaw05_HeadElse.j1 k x0 x7 x8 x9 x10 x32 true x31 x32) else (if x32 = 19 then (calamuslaw05_HeadElse.j1 k x0 x7 x8 x9 x10 x32 true x31 x32) else (if x32 ≥ 36 then (if x32 < 44 then (calamuslaw05_HeadElse.j1 k x0 x7 x8 x9 x10 x32 true x31 x32) else (if x32 = 50 then (calamuslaw05_HeadElse.j1 k x0 x7 x8 x9 x10 x32 true x31 x32) else (calamuslaw05_HeadElse.j1 k x0 x7 x8 x9 x10 x32 (x32 == 51) x31 x32))) else (if x32 = 50 then (calamuslaw05_HeadElse.j1 k x0 x7 x8 x9 x10 x32 true x31 x32) else (calamuslaw05_HeadElse.j1 k x0 x7 x8 x9 x10 x32 (x32 == 51) x31 x32))))) else (if x8 = 0 then (if x10 = 0 then (some true) else (some ((x9.length : Int) == 0))) else (if (x7.length : Int) = 0 then (if x10 = 0 then (some true) else (some ((x9.length : Int) == 0))) else (some false)))
def calamuslaw05_HeadElse.j1 : Nat → List Int → List Int → Int → List Int → Int → Int → Bool → Int → Int → Option (Bool)
  | 0, _, _, _, _, _, _, _, _, _ => none
  | k + 1, x0, x7, x8, x9, x10, x11, x12, x31, x32 => if x8 = 0 then (if (x7.length : Int) = (x0.length : Int) then (if x12 = true then (calamuslaw05_HeadElse.j2 k x0 x7 x8 x9 x10 x11 x31 x32 false) else (if 0 ≤ x11 then (if x11 < (x7.length : Int) then (if x11 < (x0.length : Int) then (calamuslaw05_HeadElse.j2 k x0 x7 x8 x9 x10 x11 x31 x32 ((rd x7 x11) != (rd x0 x11))) else (none)) else (none)) else (none))) else (calamuslaw05_HeadElse.j2 k x0 x7 x8 x9 x10 x11 x31 x32 true)) else (calamuslaw05_HeadElse.j2 k x0 x7 x8 x9 x10 x11 x31 x32 false)
def calamuslaw05_HeadElse.j2 : Nat → List Int → List Int → Int → List Int → Int → Int → Int → Int → Bool → Option (Bool)
  | 0, _, _, _, _, _, _, _, _, _ => none
  | k + 1, x0, x7, x8, x9, x10, x11, x31, x32, x80 => if x80 = true then (some false) else (if x11 ≥ 4 then (if x11 < 14 then (if x10 = 0 then (if (x9.length : Int) = (x0.length : Int) then (calamuslaw05_HeadElse.l0 k x0 x7 x8 x9 x10 x31 (wrap64 (x32 + 1))) else (some false)) else (calamuslaw05_HeadElse.l0 k x0 x7 x8 x9 x10 x31 (wrap64 (x32 + 1)))) else (if x11 ≥ 28 then (if x10 = 0 then (if (x9.length : Int) = (x0.length : Int) then (if x11 < 32 then (calamuslaw05_HeadElse.l0 k x0 x7 x8 x9 x10 x31 (wrap64 (x32 + 1))) else (if 0 ≤ x11 then (if x11 < (x9.length : Int) then (if x11 < (x0.length : Int) then (if (rd x9 x11) = (rd x0 x11) then (calamuslaw05_HeadElse.l0 k x0 x7 x8 x9 x10 x31 (wrap64 (x32 + 1))) else (some false)) else (none)) else (none)) else (none))) else (some false)) else (calamuslaw05_HeadElse.l0 k x0 x7 x8 x9 x10 x31 (wrap64 (x32 + 1)))) else (if x10 = 0 then (if (x9.length : Int) = (x0.length : Int) then (if 0 ≤ x11 then (if x11 < (x9.length : Int) then (if x11 < (x0.length : Int) then (if (rd x9 x11) = (rd x0 x11) then (calamuslaw05_HeadElse.l0 k x0 x7 x8 x9 x10 x31 (wrap64 (x32 + 1))) else (some false)) else (none)) else (none)) else (none)) else (some false)) else (calamuslaw05_HeadElse.l0 k x0 x7 x8 x9 x10 x31 (wrap64 (x32 + 1)))))) else (if x11 ≥ 28 then (if x10 = 0 then (if (x9.length : Int) = (x0.length : Int) then (if x11 < 32 then (calamuslaw05_HeadElse.l0 k x0 x7 x8 x9 x10 x31 (wrap64 (x32 + 1))) else (if 0 ≤ x11 then (if x11 < (x9.length : Int) then (if x11 < (x0.length : Int) then (if (rd x9 x11) = (rd x0 x11) then (calamuslaw05_HeadElse.l0 k x0 x7 x8 x9 x10 x31 (wrap64 (x32 + 1))) else (some false)) else (none)) else (none)) else (none))) else (some false)) else (calamuslaw05_HeadElse.l0 k x0 x7 x8 x9 x10 x31 (wrap64 (x32 + 1)))) else (if x10 = 0 then (if (x9.length : Int) = (x0.length : Int) then (if 0 ≤ x11 then (if x11 < (x9.length : Int) then (if x11 < (x0.length : Int) then (if (rd x9 x11) = (rd x0 x11) then (calamuslaw05_HeadElse.l0 k x0 x7 x8 x9 x10 x31 (wrap64 (x32 + 1))) else (some false)) else (none)) else (none)) else (none)) else (some false)) else (calamuslaw05_HeadElse.l0 k x0 x7 x8 x9 x10 x31 (wrap64 (x32 + 1))))))
end
def calamuslaw05_HeadElse.f (k : Nat) (l0 : List Int) (a1_0 : Int) (a1_1 : Int) (a1_2 : Int) (a1_3 : Int) (a1_4 : Int) (a1_5 : Bool) (a2_0 : Int) (a2_1 : Int) (a2_2 : Int) (a2_3 : Int) (a2_4 : Int) (a2_5 : Int) (a2_6 : Int) : Option (Bool) := (calamuslaw05_alive.f).bind fun t159 => (if t159 = true then (if (l0.length : Int) > 5000 then (some true) else ((head_PutHead.f l0 a1_0 a1_1 a1_2 a1_3 a1_4 a1_5).bind fun bt160 => ((head_PutMaxp.f l0 a2_0 a2_1 a2_2 a2_3 a2_4 a2_5 a2_6).bind fun bt164 => (calamuslaw05_HeadElse.l0 k l0 bt160.1 bt160.2 bt164.1 bt164.2 (l0.length : Int) 0)))) else (some false))
theorem calamuslaw05_HeadElse.mono_l : ∀ k, (∀ y0 y1 y2 y3 y4 y5 y6, LeO (calamuslaw05_HeadElse.l0 k y0 y1 y2 y3 y4 y5 y6) (calamuslaw05_HeadElse.l0 (k + 1) y0 y1 y2 y3 y4 y5 y6)) ∧ (∀ y0 y1 y2 y3 y4 y5 y6 y7 y8, LeO (calamuslaw05_HeadElse.j1 k y0 y1 y2 y3 y4 y5 y6 y7 y8) (calamuslaw05_HeadElse.j1 (k + 1) y0 y1 y2 y3 y4 y5 y6 y7 y8)) ∧ (∀ y0 y1 y2 y3 y4 y5 y6 y7 y8, LeO (calamuslaw05_HeadElse.j2 k y0 y1 y2 y3 y4 y5 y6 y7 y8) (calamuslaw05_HeadElse.j2 (k + 1) y0 y1 y2 y3 y4 y5 y6 y7 y8))
  | 0 => ⟨fun _ _ _ _ _ _ _ r h => by simp [calamuslaw05_HeadElse.l0] at h, fun _ _ _ _ _ _ _ _ _ r h => by simp [calamuslaw05_HeadElse.j1] at h, fun _ _ _ _ _ _ _ _ _ r h => by simp [calamuslaw05_HeadElse.j2] at h⟩
  | k + 1 => by
    obtain ⟨ih0, ih1, ih2⟩ := calamuslaw05_HeadElse.mono_l k
    refine ⟨?_, ?_, ?_⟩
    · intro y0 y1 y2 y3 y4 y5 y6
      unfold calamuslaw05_HeadElse.l0
      repeat' first
      | (with_reducible exact ih0 _ _ _ _ _ _ _)
      | (with_reducible exact ih1 _ _ _ _ _ _ _ _ _)
      | (with_reducible exact ih2 _ _ _ _ _ _ _ _ _)
      | (with_reducible exact LeO.refl _)
      | (with_reducible exact LeO.none _)
      | (with_reducible refine LeO.ite ?_ ?_)
      | (with_reducible refine LeO.bind ?_ (fun _ => ?_))
      | exact ih0 _ _ _ _ _ _ _
      | exact ih1 _ _ _ _ _ _ _ _ _
      | exact ih2 _ _ _ _ _ _ _ _ _
      | exact LeO.none _
      | refine LeO.ite ?_ ?_
      | refine LeO.bind ?_ (fun _ => ?_)
    · intro y0 y1 y2 y3 y4 y5 y6 y7 y8
      unfold calamuslaw05_HeadElse.j1
      repeat' first
      | (with_reducible exact ih0 _ _ _ _ _ _ _)
      | (with_reducible exact ih1 _ _ _ _ _ _ _ _ _)
      | (with_reducible exact ih2 _ _ _ _ _ _ _ _ _)
      | (with_reducible exact LeO.refl _)
      | (with_reducible exact LeO.none _)
      | (with_reducible refine LeO.ite ?_ ?_)
      | (with_reducible refine LeO.bind ?_ (fun _ => ?_))
      | exact ih0 _ _ _ _ _ _ _
      | exact ih1 _ _ _ _ _ _ _ _ _
      | exact ih2 _ _ _ _ _ _ _ _ _
      | exact LeO.none _
      | refine LeO.ite ?_ ?_
      | refine LeO.bind ?_ (fun _ => ?_)
    · intro y0 y1 y2 y3 y4 y5 y6 y7 y8
      unfold calamuslaw05_HeadElse.j2
      repeat' first
      | (with_reducible exact ih0 _ _ _ _ _ _ _)
      | (with_reducible exact ih1 _ _ _ _ _ _ _ _ _)
      | (with_reducible exact ih2 _ _ _ _ _ _ _ _ _)
      | (with_reducible exact LeO.refl _)
      | (with_reducible exact LeO.none _)
      | (with_reducible refine LeO.ite ?_ ?_)
      | (with_reducible refine LeO.bind ?_ (fun _ => ?_))
      | exact ih0 _ _ _ _ _ _ _
      | exact ih1 _ _ _ _ _ _ _ _ _
      | exact ih2 _ _ _ _ _ _ _ _ _
      | exact LeO.none _
      | refine LeO.ite ?_ ?_
      | refine LeO.bind ?_ (fun _ => ?_)
theorem calamuslaw05_HeadElse.mono : ∀ a0 a1 a2 a3 a4 a5 a6 a7 a8 a9 a10 a11 a12 a13 k, LeO (calamuslaw05_HeadElse.f k a0 a1 a2 a3 a4 a5 a6 a7 a8 a9 a10 a11 a12 a13) (calamuslaw05_HeadElse.f (k + 1) a0 a1 a2 a3 a4 a5 a6 a7 a8 a9 a10 a11 a12 a13) := by
  intro a0 a1 a2 a3 a4 a5 a6 a7 a8 a9 a10 a11 a12 a13 k
  obtain ⟨ih0, ih1, ih2⟩ := calamuslaw05_HeadElse.mono_l k
  unfold calamuslaw05_HeadElse.f
  repeat' first
      | (with_reducible exact ih0 _ _ _ _ _ _ _)
      | (with_reducible exact ih1 _ _ _ _ _ _ _ _ _)
      | (with_reducible exact ih2 _ _ _ _ _ _ _ _ _)
      | (with_reducible exact LeO.refl _)
      | (with_reducible exact LeO.none _)
      | (with_reducible refine LeO.ite ?_ ?_)
      | (with_reducible refine LeO.bind ?_ (fun _ => ?_))
      | exact ih0 _ _ _ _ _ _ _
      | exact ih1 _ _ _ _ _ _ _ _ _
      | exact ih2 _ _ _ _ _ _ _ _ _
      | exact LeO.none _
      | refine LeO.ite ?_ ?_
      | refine LeO.bind ?_ (fun _ => ?_)
set_option maxHeartbeats 8000000 in
set_option maxRecDepth 100000 in
theorem calamuslaw05_HeadElse.calls (k : Nat) (A0 : Option Addr) (c0 : Nat) (l0 : List Int) (a1_0 : Int) (a1_1 : Int) (a1_2 : Int) (a1_3 : Int) (a1_4 : Int) (a1_5 : Bool) (a2_0 : Int) (a2_1 : Int) (a2_2 : Int) (a2_3 : Int) (a2_4 : Int) (a2_5 : Int) (a2_6 : Int) (r : Bool) (w : World) (hG_ : PL w) (hr0 : Kd.C (Kd.int .u8) w A0 l0.length l0) (hc0 : l0.length ≤ c0) (h : calamuslaw05_HeadElse.f k l0 a1_0 a1_1 a1_2 a1_3 a1_4 a1_5 a2_0 a2_1 a2_2 a2_3 a2_4 a2_5 a2_6 = some r) :
    Calls Tryd.prog 4 #[.slice A0 l0.length c0, .agg #[.int .i64 a1_0, .int .i64 a1_1, .int .i64 a1_2, .int .i64 a1_3, .int .i64 a1_4, .bool a1_5], .agg #[.int .i64 a2_0, .int .i64 a2_1, .int .i64 a2_2, .int .i64 a2_3, .int .i64 a2_4, .int .i64 a2_5, .int .i64 a2_6]] w fun e w' => e = .returned (.bool r) ∧ Below w.heap.size w w' := by
  have HGL := Aside0.mk hG_
  clear hG_
  have hu37 := Tryd.underlying37
  have hu24 := Tryd.underlying24
  have HR0 := Aside0.mk hr0
  have HC0 := Aside0.mk hc0
  clear hr0 hc0
  have HB := Aside0.mk (Below.refl w.heap.size w)
  have H : ((calamuslaw05_alive.f).bind fun t159 => (if t159 = true then (if (l0.length : Int) > 5000 then (some true) else ((head_PutHead.f l0 a1_0 a1_1 a1_2 a1_3 a1_4 a1_5).bind fun bt160 => ((head_PutMaxp.f l0 a2_0 a2_1 a2_2 a2_3 a2_4 a2_5 a2_6).bind fun bt164 => (calamuslaw05_HeadElse.l0 k l0 bt160.1 bt160.2 bt164.1 bt164.2 (l0.length : Int) 0)))) else (some false))) = some r := h
  clear h
  replace H := Option.bind_eq_some_iff.mp H
  obtain ⟨t159, A40, H⟩ := H
  replace H : (if t159 = true then (if (l0.length : Int) > 5000 then (some true) else ((head_PutHead.f l0 a1_0 a1_1 a1_2 a1_3 a1_4 a1_5).bind fun bt160 => ((head_PutMaxp.f l0 a2_0 a2_1 a2_2 a2_3 a2_4 a2_5 a2_6).bind fun bt164 => (calamuslaw05_HeadElse.l0 k l0 bt160.1 bt160.2 bt164.1 bt164.2 (l0.length : Int) 0)))) else (some false)) = some r := H
  have A4 := Aside0.mk A40
  clear A40
  by_cases c5 : t159 = true
  · subst c5
    have H1 : (if (l0.length : Int) > 5000 then (some true) else ((head_PutHead.f l0 a1_0 a1_1 a1_2 a1_3 a1_4 a1_5).bind fun bt160 => ((head_PutMaxp.f l0 a2_0 a2_1 a2_2 a2_3 a2_4 a2_5 a2_6).bind fun bt164 => (calamuslaw05_HeadElse.l0 k l0 bt160.1 bt160.2 bt164.1 bt164.2 (l0.length : Int) 0)))) = some r := by rw [if_pos rfl] at H; exact H
    clear H
    have H := H1
    clear H1
    by_cases c6 : (l0.length : Int) > 5000
    · rw [if_pos c6] at H
      have c6b0 : decide (5000 < (l0.length : Int)) = true := decide_eq_true c6
      have c6b1 : decide (5000 < l0.length) = true := decide_eq_true (by omega)
      clear c6
      obtain rfl := Option.some.inj H
      go_enter Tryd.func4, Tryd.ntmps4
      go_wp2_with (first | ((with_reducible refine gate_dst (N := 4) rfl ?_); (try (refine gate_guard (by rfl) ?_; dsimp only)); refine box_event ?hg (N := 4) ?hd (cs := #[.int .i64 a1_0, .int .i64 a1_1, .int .i64 a1_2, .int .i64 a1_3, .int .i64 a1_4, .bool a1_5]) (t := 37) ?hr ?_; (case hd => rfl); (case hg => rfl); (case hr => first | (go_simp; done) | (go_simp; rfl)); intro gb157 hg w7 hbox hb; have n0_ := Aside0.mk (below_step (by repeat (first | (with_reducible first | exact HB.out | apply below_alloc | apply pw_below_drewN | apply below_drew1) | exact HB.out)) hb); have n1_ := Aside0.mk (hbox); have n2_ := Aside0.mk ((by rw [hg]; exact (below_size (by repeat (first | (with_reducible first | exact HB.out | apply below_alloc | apply pw_below_drewN | apply below_drew1) | exact HB.out))) : w.heap.size ≤ gb157)); have n3_ := Aside0.mk ((by rw [hg]; exact (below_size (by repeat (first | (with_reducible first | exact HB.out | apply below_alloc | apply pw_below_drewN | apply below_drew1) | exact HB.out))) : w.heap.size ≤ gb157)); clear HB; have HB := n0_; have BK157 := n1_; have GW157 := n2_; have GE157 := n3_; clear n0_ n1_ n2_ n3_; clear hb hbox hg) | ((with_reducible refine gate_dst (N := 5) rfl ?_); (try (refine gate_guard (by rfl) ?_; dsimp only)); refine box_event ?hg (N := 5) ?hd (cs := #[.int .i64 a2_0, .int .i64 a2_1, .int .i64 a2_2, .int .i64 a2_3, .int .i64 a2_4, .int .i64 a2_5, .int .i64 a2_6]) (t := 24) ?hr ?_; (case hd => rfl); (case hg => rfl); (case hr => first | (go_simp; done) | (go_simp; rfl)); intro gb158 hg w8 hbox hb; have n0_ := Aside0.mk (blk_below (g := gb157) (o := .cells #[.int .i64 a1_0, .int .i64 a1_1, .int .i64 a1_2, .int .i64 a1_3, .int .i64 a1_4, .bool a1_5] 37 (0, 0)) (by (with_reducible repeat (first | refine blk_drewN ?_ _ | refine blk_drew ?_ | refine blk_alloc ?_ _)); exact BK157.out) hb); have n1_ := Aside0.mk (below_step (by repeat (first | (with_reducible first | exact HB.out | apply below_alloc | apply pw_below_drewN | apply below_drew1 | refine below_set ?_ GE157.out) | exact HB.out)) hb); have n2_ := Aside0.mk (hbox); have n3_ := Aside0.mk ((by rw [hg]; exact (below_size (by repeat (first | (with_reducible first | exact HB.out | apply below_alloc | apply pw_below_drewN | apply below_drew1 | refine below_set ?_ GE157.out) | exact HB.out))) : w.heap.size ≤ gb158)); have n4_ := Aside0.mk ((by rw [hg]; exact (below_size (by repeat (first | (with_reducible first | exact HB.out | apply below_alloc | apply pw_below_drewN | apply below_drew1 | refine below_set ?_ GE157.out) | exact HB.out))) : w.heap.size ≤ gb158)); have n5_ := Aside0.mk ((by rw [hg]; exact Nat.ne_of_lt (blk_lt (g := gb157) (o := .cells #[.int .i64 a1_0, .int .i64 a1_1, .int .i64 a1_2, .int .i64 a1_3, .int .i64 a1_4, .bool a1_5] 37 (0, 0)) (by (with_reducible repeat (first | refine blk_drewN ?_ _ | refine blk_drew ?_ | refine blk_alloc ?_ _)); exact BK157.out)) : gb157 ≠ gb158)); have n6_ := Aside0.mk ((by rw [hg]; exact Nat.ne_of_gt (blk_lt (g := gb157) (o := .cells #[.int .i64 a1_0, .int .i64 a1_1, .int .i64 a1_2, .int .i64 a1_3, .int .i64 a1_4, .bool a1_5] 37 (0, 0)) (by (with_reducible repeat (first | refine blk_drewN ?_ _ | refine blk_drew ?_ | refine blk_alloc ?_ _)); exact BK157.out)) : gb158 ≠ gb157)); clear BK157; clear HB; have BK157 := n0_; have HB := n1_; have BK158 := n2_; have GW158 := n3_; have GE158 := n4_; have NB157_158 := n5_; have NB158_157 := n6_; clear n0_ n1_ n2_ n3_ n4_ n5_ n6_; clear hb hbox hg) | (go_at_call 12; (with_reducible refine (calamuslaw05_alive.calls  true _ A4.out).mono ?_); rintro e w9 ⟨rfl, hb⟩; have n0_ := Aside0.mk (blk_below (g := gb157) (o := .cells #[.int .i64 a1_0, .int .i64 a1_1, .int .i64 a1_2, .int .i64 a1_3, .int .i64 a1_4, .bool a1_5] 37 (0, 0)) (by (with_reducible repeat (first | refine blk_drewN ?_ _ | refine blk_drew ?_ | refine blk_alloc ?_ _)); exact BK157.out) hb); have n1_ := Aside0.mk (blk_below (g := gb158) (o := .cells #[.int .i64 a2_0, .int .i64 a2_1, .int .i64 a2_2, .int .i64 a2_3, .int .i64 a2_4, .int .i64 a2_5, .int .i64 a2_6] 24 (0, 0)) (by (with_reducible repeat (first | refine blk_drewN ?_ _ | refine blk_drew ?_ | refine blk_alloc ?_ _)); exact BK158.out) hb); have n2_ := Aside0.mk (below_step (by repeat (first | (with_reducible first | exact HB.out | apply below_alloc | apply pw_below_drewN | apply below_drew1 | refine below_set ?_ GE157.out | refine below_set ?_ GE158.out) | exact HB.out)) hb); clear BK157; clear BK158; clear HB; have BK157 := n0_; have BK158 := n1_; have HB := n2_; clear n0_ n1_ n2_; (try clear hb); (try clear hb2); (try clear hk); (try clear hi)))
      repeat (go_quiet (first | ((with_reducible refine gate_dst (N := 4) rfl ?_); (try (refine gate_guard (by rfl) ?_; dsimp only)); refine box_event ?hg (N := 4) ?hd (cs := #[.int .i64 a1_0, .int .i64 a1_1, .int .i64 a1_2, .int .i64 a1_3, .int .i64 a1_4, .bool a1_5]) (t := 37) ?hr ?_; (case hd => rfl); (case hg => rfl); (case hr => first | (go_simp; done) | (go_simp; rfl)); intro gb157 hg w7 hbox hb; have n0_ := Aside0.mk (below_step (by repeat (first | (with_reducible first | exact HB.out | apply below_alloc | apply pw_below_drewN | apply below_drew1) | exact HB.out)) hb); have n1_ := Aside0.mk (hbox); have n2_ := Aside0.mk ((by rw [hg]; exact (below_size (by repeat (first | (with_reducible first | exact HB.out | apply below_alloc | apply pw_below_drewN | apply below_drew1) | exact HB.out))) : w.heap.size ≤ gb157)); have n3_ := Aside0.mk ((by rw [hg]; exact (below_size (by repeat (first | (with_reducible first | exact HB.out | apply below_alloc | apply pw_below_drewN | apply below_drew1) | exact HB.out))) : w.heap.size ≤ gb157)); clear HB; have HB := n0_; have BK157 := n1_; have GW157 := n2_; have GE157 := n3_; clear n0_ n1_ n2_ n3_; clear hb hbox hg) | ((with_reducible refine gate_dst (N := 5) rfl ?_); (try (refine gate_guard (by rfl) ?_; dsimp only)); refine box_event ?hg (N := 5) ?hd (cs := #[.int .i64 a2_0, .int .i64 a2_1, .int .i64 a2_2, .int .i64 a2_3, .int .i64 a2_4, .int .i64 a2_5, .int .i64 a2_6]) (t := 24) ?hr ?_; (case hd => rfl); (case hg => rfl); (case hr => first | (go_simp; done) | (go_simp; rfl)); intro gb158 hg w8 hbox hb; have n0_ := Aside0.mk (blk_below (g := gb157) (o := .cells #[.int .i64 a1_0, .int .i64 a1_1, .int .i64 a1_2, .int .i64 a1_3, .int .i64 a1_4, .bool a1_5] 37 (0, 0)) (by (with_reducible repeat (first | refine blk_drewN ?_ _ | refine blk_drew ?_ | refine blk_alloc ?_ _)); exact BK157.out) hb); have n1_ := Aside0.mk (below_step (by repeat (first | (with_reducible first | exact HB.out | apply below_alloc | apply pw_below_drewN | apply below_drew1 | refine below_set ?_ GE157.out) | exact HB.out)) hb); have n2_ := Aside0.mk (hbox); have n3_ := Aside0.mk ((by rw [hg]; exact (below_size (by repeat (first | (with_reducible first | exact HB.out | apply below_alloc | apply pw_below_drewN | apply below_drew1 | refine below_set ?_ GE157.out) | exact HB.out))) : w.heap.size ≤ gb158)); have n4_ := Aside0.mk ((by rw [hg]; exact (below_size (by repeat (first | (with_reducible first | exact HB.out | apply below_alloc | apply pw_below_drewN | apply below_drew1 | refine below_set ?_ GE157.out) | exact HB.out))) : w.heap.size ≤ gb158)); have n5_ := Aside0.mk ((by rw [hg]; exact Nat.ne_of_lt (blk_lt (g := gb157) (o := .cells #[.int .i64 a1_0, .int .i64 a1_1, .int .i64 a1_2, .int .i64 a1_3, .int .i64 a1_4, .bool a1_5] 37 (0, 0)) (by (with_reducible repeat (first | refine blk_drewN ?_ _ | refine blk_drew ?_ | refine blk_alloc ?_ _)); exact BK157.out)) : gb157 ≠ gb158)); have n6_ := Aside0.mk ((by rw [hg]; exact Nat.ne_of_gt (blk_lt (g := gb157) (o := .cells #[.int .i64 a1_0, .int .i64 a1_1, .int .i64 a1_2, .int .i64 a1_3, .int .i64 a1_4, .bool a1_5] 37 (0, 0)) (by (with_reducible repeat (first | refine blk_drewN ?_ _ | refine blk_drew ?_ | refine blk_alloc ?_ _)); exact BK157.out)) : gb158 ≠ gb157)); clear BK157; clear HB; have BK157 := n0_; have HB := n1_; have BK158 := n2_; have GW158 := n3_; have GE158 := n4_; have NB157_158 := n5_; have NB158_157 := n6_; clear n0_ n1_ n2_ n3_ n4_ n5_ n6_; clear hb hbox hg) | (go_at_call 12; (with_reducible refine (calamuslaw05_alive.calls  true _ A4.out).mono ?_); rintro e w9 ⟨rfl, hb⟩; have n0_ := Aside0.mk (blk_below (g := gb157) (o := .cells #[.int .i64 a1_0, .int .i64 a1_1, .int .i64 a1_2, .int .i64 a1_3, .int .i64 a1_4, .bool a1_5] 37 (0, 0)) (by (with_reducible repeat (first | refine blk_drewN ?_ _ | refine blk_drew ?_ | refine blk_alloc ?_ _)); exact BK157.out) hb); have n1_ := Aside0.mk (blk_below (g := gb158) (o := .cells #[.int .i64 a2_0, .int .i64 a2_1, .int .i64 a2_2, .int .i64 a2_3, .int .i64 a2_4, .int .i64 a2_5, .int .i64 a2_6] 24 (0, 0)) (by (with_reducible repeat (first | refine blk_drewN ?_ _ | refine blk_drew ?_ | refine blk_alloc ?_ _)); exact BK158.out) hb); have n2_ := Aside0.mk (below_step (by repeat (first | (with_reducible first | exact HB.out | apply below_alloc | apply pw_below_drewN | apply below_drew1 | refine below_set ?_ GE157.out | refine below_set ?_ GE158.out) | exact HB.out)) hb); clear BK157; clear BK158; clear HB; have BK157 := n0_; have BK158 := n1_; have HB := n2_; clear n0_ n1_ n2_; (try clear hb); (try clear hb2); (try clear hk); (try clear hi))); try go_wp2_with (first | ((with_reducible refine gate_dst (N := 4) rfl ?_); (try (refine gate_guard (by rfl) ?_; dsimp only)); refine box_event ?hg (N := 4) ?hd (cs := #[.int .i64 a1_0, .int .i64 a1_1, .int .i64 a1_2, .int .i64 a1_3, .int .i64 a1_4, .bool a1_5]) (t := 37) ?hr ?_; (case hd => rfl); (case hg => rfl); (case hr => first | (go_simp; done) | (go_simp; rfl)); intro gb157 hg w7 hbox hb; have n0_ := Aside0.mk (below_step (by repeat (first | (with_reducible first | exact HB.out | apply below_alloc | apply pw_below_drewN | apply below_drew1) | exact HB.out)) hb); have n1_ := Aside0.mk (hbox); have n2_ := Aside0.mk ((by rw [hg]; exact (below_size (by repeat (first | (with_reducible first | exact HB.out | apply below_alloc | apply pw_below_drewN | apply below_drew1) | exact HB.out))) : w.heap.size ≤ gb157)); have n3_ := Aside0.mk ((by rw [hg]; exact (below_size (by repeat (first | (with_reducible first | exact HB.out | apply below_alloc | apply pw_below_drewN | apply below_drew1) | exact HB.out))) : w.heap.size ≤ gb157)); clear HB; have HB := n0_; have BK157 := n1_; have GW157 := n2_; have GE157 := n3_; clear n0_ n1_ n2_ n3_; clear hb hbox hg) | ((with_reducible refine gate_dst (N := 5) rfl ?_); (try (refine gate_guard (by rfl) ?_; dsimp only)); refine box_event ?hg (N := 5) ?hd (cs := #[.int .i64 a2_0, .int .i64 a2_1, .int .i64 a2_2, .int .i64 a2_3, .int .i64 a2_4, .int .i64 a2_5, .int .i64 a2_6]) (t := 24) ?hr ?_; (case hd => rfl); (case hg => rfl); (case hr => first | (go_simp; done) | (go_simp; rfl)); intro gb158 hg w8 hbox hb; have n0_ := Aside0.mk (blk_below (g := gb157) (o := .cells #[.int .i64 a1_0, .int .i64 a1_1, .int .i64 a1_2, .int .i64 a1_3, .int .i64 a1_4, .bool a1_5] 37 (0, 0)) (by (with_reducible repeat (first | refine blk_drewN ?_ _ | refine blk_drew ?_ | refine blk_alloc ?_ _)); exact BK157.out) hb); have n1_ := Aside0.mk (below_step (by repeat (first | (with_reducible first | exact HB.out | apply below_alloc | apply pw_below_drewN | apply below_drew1 | refine below_set ?_ GE157.out) | exact HB.out)) hb); have n2_ := Aside0.mk (hbox); have n3_ := Aside0.mk ((by rw [hg]; exact (below_size (by repeat (first | (with_reducible first | exact HB.out | apply below_alloc | apply pw_below_drewN | apply below_drew1 | refine below_set ?_ GE157.out) | exact HB.out))) : w.heap.size ≤ gb158)); have n4_ := Aside0.mk ((by rw [hg]; exact (below_size (by repeat (first | (with_reducible first | exact HB.out | apply below_alloc | apply pw_below_drewN | apply below_drew1 | refine below_set ?_ GE157.out) | exact HB.out))) : w.heap.size ≤ gb158)); have n5_ := Aside0.mk ((by rw [hg]; exact Nat.ne_of_lt (blk_lt (g := gb157) (o := .cells #[.int .i64 a1_0, .int .i64 a1_1, .int .i64 a1_2, .int .i64 a1_3, .int .i64 a1_4, .bool a1_5] 37 (0, 0)) (by (with_reducible repeat (first | refine blk_drewN ?_ _ | refine blk_drew ?_ | refine blk_alloc ?_ _)); exact BK157.out)) : gb157 ≠ gb158)); have n6_ := Aside0.mk ((by rw [hg]; exact Nat.ne_of_gt (blk_lt (g := gb157) (o := .cells #[.int .i64 a1_0, .int .i64 a1_1, .int .i64 a1_2, .int .i64 a1_3, .int .i64 a1_4, .bool a1_5] 37 (0, 0)) (by (with_reducible repeat (first | refine blk_drewN ?_ _ | refine blk_drew ?_ | refine blk_alloc ?_ _)); exact BK157.out)) : gb158 ≠ gb157)); clear BK157; clear HB; have BK157 := n0_; have HB := n1_; have BK158 := n2_; have GW158 := n3_; have GE158 := n4_; have NB157_158 := n5_; have NB158_157 := n6_; clear n0_ n1_ n2_ n3_ n4_ n5_ n6_; clear hb hbox hg) | (go_at_call 12; (with_reducible refine (calamuslaw05_alive.calls  true _ A4.out).mono ?_); rintro e w9 ⟨rfl, hb⟩; have n0_ := Aside0.mk (blk_below (g := gb157) (o := .cells #[.int .i64 a1_0, .int .i64 a1_1, .int .i64 a1_2, .int .i64 a1_3, .int .i64 a1_4, .bool a1_5] 37 (0, 0)) (by (with_reducible repeat (first | refine blk_drewN ?_ _ | refine blk_drew ?_ | refine blk_alloc ?_ _)); exact BK157.out) hb); have n1_ := Aside0.mk (blk_below (g := gb158) (o := .cells #[.int .i64 a2_0, .int .i64 a2_1, .int .i64 a2_2, .int .i64 a2_3, .int .i64 a2_4, .int .i64 a2_5, .int .i64 a2_6] 24 (0, 0)) (by (with_reducible repeat (first | refine blk_drewN ?_ _ | refine blk_drew ?_ | refine blk_alloc ?_ _)); exact BK158.out) hb); have n2_ := Aside0.mk (below_step (by repeat (first | (with_reducible first | exact HB.out | apply below_alloc | apply pw_below_drewN | apply below_drew1 | refine below_set ?_ GE157.out | refine below_set ?_ GE158.out) | exact HB.out)) hb); clear BK157; clear BK158; clear HB; have BK157 := n0_; have BK158 := n1_; have HB := n2_; clear n0_ n1_ n2_; (try clear hb); (try clear hb2); (try clear hk); (try clear hi))))
      go_ret
      exact ⟨by first | rfl | (simp [errW_none, errW_some] <;> rfl) | (simp [*, errW_none, errW_some] <;> rfl), by repeat (first | (with_reducible first | exact HB.out | apply below_alloc | apply pw_below_drewN | apply below_drew1 | refine below_set ?_ GE157.out | refine below_set ?_ GE158.out) | exact HB.out)⟩
    · rw [if_neg c6] at H
      have c6b0 : decide (5000 < (l0.length : Int)) = false := decide_eq_false c6
      have c6b1 : decide (5000 < l0.length) = false := decide_eq_false (by omega)
      clear c6
      replace H := Option.bind_eq_some_iff.mp H
      obtain ⟨⟨t160, t163⟩, A100, H⟩ := H
      replace H : ((head_PutMaxp.f l0 a2_0 a2_1 a2_2 a2_3 a2_4 a2_5 a2_6).bind fun bt164 => (calamuslaw05_HeadElse.l0 k l0 t160 t163 bt164.1 bt164.2 (l0.length : Int) 0)) = some r := H
      have A10 := Aside0.mk A100
      clear A100
      replace H := Option.bind_eq_some_iff.mp H
      obtain ⟨⟨t164, t167⟩, A110, H⟩ := H
      replace H : (calamuslaw05_HeadElse.l0 k l0 t160 t163 t164 t167 (l0.length : Int) 0) = some r := H
      have A11 := Aside0.mk A110
      clear A110
      have H' := Aside0.mk H
      clear H
      go_enter Tryd.func4, Tryd.ntmps4
      go_wp2_with (first | ((with_reducible refine gate_dst (N := 4) rfl ?_); (try (refine gate_guard (by rfl) ?_; dsimp only)); refine box_event ?hg (N := 4) ?hd (cs := #[.int .i64 a1_0, .int .i64 a1_1, .int .i64 a1_2, .int .i64 a1_3, .int .i64 a1_4, .bool a1_5]) (t := 37) ?hr ?_; (case hd => rfl); (case hg => rfl); (case hr => first | (go_simp; done) | (go_simp; rfl)); intro gb157 hg w12 hbox hb; have n0_ := Aside0.mk (below_step (by repeat (first | (with_reducible first | exact HB.out | apply below_alloc | apply pw_below_drewN | apply below_drew1) | exact HB.out)) hb); have n1_ := Aside0.mk (hbox); have n2_ := Aside0.mk ((by rw [hg]; exact (below_size (by repeat (first | (with_reducible first | exact HB.out | apply below_alloc | apply pw_below_drewN | apply below_drew1) | exact HB.out))) : w.heap.size ≤ gb157)); have n3_ := Aside0.mk ((by rw [hg]; exact (below_size (by repeat (first | (with_reducible first | exact HB.out | apply below_alloc | apply pw_below_drewN | apply below_drew1) | exact HB.out))) : w.heap.size ≤ gb157)); clear HB; have HB := n0_; have BK157 := n1_; have GW157 := n2_; have GE157 := n3_; clear n0_ n1_ n2_ n3_; clear hb hbox hg) | ((with_reducible refine gate_dst (N := 5) rfl ?_); (try (refine gate_guard (by rfl) ?_; dsimp only)); refine box_event ?hg (N := 5) ?hd (cs := #[.int .i64 a2_0, .int .i64 a2_1, .int .i64 a2_2, .int .i64 a2_3, .int .i64 a2_4, .int .i64 a2_5, .int .i64 a2_6]) (t := 24) ?hr ?_; (case hd => rfl); (case hg => rfl); (case hr => first | (go_simp; done) | (go_simp; rfl)); intro gb158 hg w13 hbox hb; have n0_ := Aside0.mk (blk_below (g := gb157) (o := .cells #[.int .i64 a1_0, .int .i64 a1_1, .int .i64 a1_2, .int .i64 a1_3, .int .i64 a1_4, .bool a1_5] 37 (0, 0)) (by (with_reducible repeat (first | refine blk_drewN ?_ _ | refine blk_drew ?_ | refine blk_alloc ?_ _)); exact BK157.out) hb); have n1_ := Aside0.mk (below_step (by repeat (first | (with_reducible first | exact HB.out | apply below_alloc | apply pw_below_drewN | apply below_drew1 | refine below_set ?_ GE157.out) | exact HB.out)) hb); have n2_ := Aside0.mk (hbox); have n3_ := Aside0.mk ((by rw [hg]; exact (below_size (by repeat (first | (with_reducible first | exact HB.out | apply below_alloc | apply pw_below_drewN | apply below_drew1 | refine below_set ?_ GE157.out) | exact HB.out))) : w.heap.size ≤ gb158)); have n4_ := Aside0.mk ((by rw [hg]; exact (below_size (by repeat (first | (with_reducible first | exact HB.out | apply below_alloc | apply pw_below_drewN | apply below_drew1 | refine below_set ?_ GE157.out) | exact HB.out))) : w.heap.size ≤ gb158)); have n5_ := Aside0.mk ((by rw [hg]; exact Nat.ne_of_lt (blk_lt (g := gb157) (o := .cells #[.int .i64 a1_0, .int .i64 a1_1, .int .i64 a1_2, .int .i64 a1_3, .int .i64 a1_4, .bool a1_5] 37 (0, 0)) (by (with_reducible repeat (first | refine blk_drewN ?_ _ | refine blk_drew ?_ | refine blk_alloc ?_ _)); exact BK157.out)) : gb157 ≠ gb158)); have n6_ := Aside0.mk ((by rw [hg]; exact Nat.ne_of_gt (blk_lt (g := gb157) (o := .cells #[.int .i64 a1_0, .int .i64 a1_1, .int .i64 a1_2, .int .i64 a1_3, .int .i64 a1_4, .bool a1_5] 37 (0, 0)) (by (with_reducible repeat (first | refine blk_drewN ?_ _ | refine blk_drew ?_ | refine blk_alloc ?_ _)); exact BK157.out)) : gb158 ≠ gb157)); clear BK157; clear HB; have BK157 := n0_; have HB := n1_; have BK158 := n2_; have GW158 := n3_; have GE158 := n4_; have NB157_158 := n5_; have NB158_157 := n6_; clear n0_ n1_ n2_ n3_ n4_ n5_ n6_; clear hb hbox hg) | (go_at_call 12; (with_reducible refine (calamuslaw05_alive.calls  true _ A4.out).mono ?_); rintro e w14 ⟨rfl, hb⟩; have n0_ := Aside0.mk (blk_below (g := gb157) (o := .cells #[.int .i64 a1_0, .int .i64 a1_1, .int .i64 a1_2, .int .i64 a1_3, .int .i64 a1_4, .bool a1_5] 37 (0, 0)) (by (with_reducible repeat (first | refine blk_drewN ?_ _ | refine blk_drew ?_ | refine blk_alloc ?_ _)); exact BK157.out) hb); have n1_ := Aside0.mk (blk_below (g := gb158) (o := .cells #[.int .i64 a2_0, .int .i64 a2_1, .int .i64 a2_2, .int .i64 a2_3, .int .i64 a2_4, .int .i64 a2_5, .int .i64 a2_6] 24 (0, 0)) (by (with_reducible repeat (first | refine blk_drewN ?_ _ | refine blk_drew ?_ | refine blk_alloc ?_ _)); exact BK158.out) hb); have n2_ := Aside0.mk (below_step (by repeat (first | (with_reducible first | exact HB.out | apply below_alloc | apply pw_below_drewN | apply below_drew1 | refine below_set ?_ GE157.out | refine below_set ?_ GE158.out) | exact HB.out)) hb); clear BK157; clear BK158; clear HB; have BK157 := n0_; have BK158 := n1_; have HB := n2_; clear n0_ n1_ n2_; (try clear hb); (try clear hb2); (try clear hk); (try clear hi); have hnb15 := NB157_158.out; have hnc15 := NB158_157.out; have hcz16_0 : w14.cell? ⟨gb157, 0, none⟩ = some (.int .i64 a1_0) := (blk_cell BK157.out 0).trans rfl; have hcz16_1 : w14.cell? ⟨gb157, 1, none⟩ = some (.int .i64 a1_1) := (blk_cell BK157.out 1).trans rfl; have hcz16_2 : w14.cell? ⟨gb157, 2, none⟩ = some (.int .i64 a1_2) := (blk_cell BK157.out 2).trans rfl; have hcz16_3 : w14.cell? ⟨gb157, 3, none⟩ = some (.int .i64 a1_3) := (blk_cell BK157.out 3).trans rfl; have hcz16_4 : w14.cell? ⟨gb157, 4, none⟩ = some (.int .i64 a1_4) := (blk_cell BK157.out 4).trans rfl; have hcz16_5 : w14.cell? ⟨gb157, 5, none⟩ = some (.bool a1_5) := (blk_cell BK157.out 5).trans rfl; have hfz16_0 := blk_frozen BK157.out 0; have hfz16_1 := blk_frozen BK157.out 1; have hfz16_2 := blk_frozen BK157.out 2; have hfz16_3 := blk_frozen BK157.out 3; have hfz16_4 := blk_frozen BK157.out 4; have hfz16_5 := blk_frozen BK157.out 5) | (go_at_call 19; (with_reducible refine (head_PutHead.calls _ _ l0 a1_0 a1_1 a1_2 a1_3 a1_4 a1_5 t160 t163 _ ?side1 ?side2 A10.out).mono ?_); (case side1 => repeat (first | exact (Kd.C_below HR0.out HB.out) | (with_reducible refine Kd.C_alloc ?_ _) | (with_reducible refine Kd.C_drewN ?_ _) | (with_reducible refine Kd.C_drew ?_))); (case side2 => exact HC0.out); rintro e w17 ⟨v161, rfl, ho0, hb⟩; have n0_ := Aside0.mk (Kd.R_lower ho0 (below_size (by repeat (first | (with_reducible first | exact HB.out | apply below_alloc | apply pw_below_drewN | apply below_drew1 | refine below_set ?_ GE157.out | refine below_set ?_ GE158.out) | exact HB.out)))); have n1_ := Aside0.mk (blk_below (g := gb157) (o := .cells #[.int .i64 a1_0, .int .i64 a1_1, .int .i64 a1_2, .int .i64 a1_3, .int .i64 a1_4, .bool a1_5] 37 (0, 0)) (by (with_reducible repeat (first | refine blk_drewN ?_ _ | refine blk_drew ?_ | refine blk_alloc ?_ _)); exact BK157.out) hb); have n2_ := Aside0.mk (blk_below (g := gb158) (o := .cells #[.int .i64 a2_0, .int .i64 a2_1, .int .i64 a2_2, .int .i64 a2_3, .int .i64 a2_4, .int .i64 a2_5, .int .i64 a2_6] 24 (0, 0)) (by (with_reducible repeat (first | refine blk_drewN ?_ _ | refine blk_drew ?_ | refine blk_alloc ?_ _)); exact BK158.out) hb); have n3_ := Aside0.mk (below_step (by repeat (first | (with_reducible first | exact HB.out | apply below_alloc | apply pw_below_drewN | apply below_drew1 | refine below_set ?_ GE157.out | refine below_set ?_ GE158.out) | exact HB.out)) hb); clear BK157; clear BK158; clear HB; have HO162 := n0_; have BK157 := n1_; have BK158 := n2_; have HB := n3_; clear n0_ n1_ n2_ n3_; (try clear hb); (try clear hb2); (try clear hk); (try clear hi); (try clear ho0); have hcz18_0 : w17.cell? ⟨gb158, 0, none⟩ = some (.int .i64 a2_0) := (blk_cell BK158.out 0).trans rfl; have hcz18_1 : w17.cell? ⟨gb158, 1, none⟩ = some (.int .i64 a2_1) := (blk_cell BK158.out 1).trans rfl; have hcz18_2 : w17.cell? ⟨gb158, 2, none⟩ = some (.int .i64 a2_2) := (blk_cell BK158.out 2).trans rfl; have hcz18_3 : w17.cell? ⟨gb158, 3, none⟩ = some (.int .i64 a2_3) := (blk_cell BK158.out 3).trans rfl; have hcz18_4 : w17.cell? ⟨gb158, 4, none⟩ = some (.int .i64 a2_4) := (blk_cell BK158.out 4).trans rfl; have hcz18_5 : w17.cell? ⟨gb158, 5, none⟩ = some (.int .i64 a2_5) := (blk_cell BK158.out 5).trans rfl; have hcz18_6 : w17.cell? ⟨gb158, 6, none⟩ = some (.int .i64 a2_6) := (blk_cell BK158.out 6).trans rfl; have hfz18_0 := blk_frozen BK158.out 0; have hfz18_1 := blk_frozen BK158.out 1; have hfz18_2 := blk_frozen BK158.out 2; have hfz18_3 := blk_frozen BK158.out 3; have hfz18_4 := blk_frozen BK158.out 4; have hfz18_5 := blk_frozen BK158.out 5; have hfz18_6 := blk_frozen BK158.out 6) | (go_at_call 14; (with_reducible refine (head_PutMaxp.calls (hG_ := ?sideG) _ _ l0 a2_0 a2_1 a2_2 a2_3 a2_4 a2_5 a2_6 t164 t167 _ ?side1 ?side2 A11.out).mono ?_); (case sideG => exact PL_below HGL.out (by repeat (first | (with_reducible first | exact HB.out | apply below_alloc | apply pw_below_drewN | apply below_drew1 | refine below_set ?_ GE157.out | refine below_set ?_ GE158.out) | exact HB.out))); (case side1 => repeat (first | exact (Kd.C_below HR0.out HB.out) | (with_reducible refine Kd.C_alloc ?_ _) | (with_reducible refine Kd.C_drewN ?_ _) | (with_reducible refine Kd.C_drew ?_))); (case side2 => exact HC0.out); rintro e w19 ⟨v165, rfl, ho0, hb⟩; have n0_ := Aside0.mk (Kd.R_elder' (by (with_reducible repeat (first | apply Kd.R_alloc | apply Kd.R_drewN | apply Kd.R_drew)); exact HO162.out) (Kd.R_base ho0) hb); have n1_ := Aside0.mk (Kd.R_lower (Kd.R_new' ho0 (Kd.R_lt (by (with_reducible repeat (first | apply Kd.R_alloc | apply Kd.R_drewN | apply Kd.R_drew)); exact HO162.out))) (below_size (by repeat (first | (with_reducible first | exact HB.out | apply below_alloc | apply pw_below_drewN | apply below_drew1 | refine below_set ?_ GE157.out | refine below_set ?_ GE158.out) | exact HB.out)))); have n2_ := Aside0.mk (blk_below (g := gb157) (o := .cells #[.int .i64 a1_0, .int .i64 a1_1, .int .i64 a1_2, .int .i64 a1_3, .int .i64 a1_4, .bool a1_5] 37 (0, 0)) (by (with_reducible repeat (first | refine blk_drewN ?_ _ | refine blk_drew ?_ | refine blk_alloc ?_ _)); exact BK157.out) hb); have n3_ := Aside0.mk (blk_below (g := gb158) (o := .cells #[.int .i64 a2_0, .int .i64 a2_1, .int .i64 a2_2, .int .i64 a2_3, .int .i64 a2_4, .int .i64 a2_5, .int .i64 a2_6] 24 (0, 0)) (by (with_reducible repeat (first | refine blk_drewN ?_ _ | refine blk_drew ?_ | refine blk_alloc ?_ _)); exact BK158.out) hb); have n4_ := Aside0.mk (below_step (by repeat (first | (with_reducible first | exact HB.out | apply below_alloc | apply pw_below_drewN | apply below_drew1 | refine below_set ?_ GE157.out | refine below_set ?_ GE158.out) | exact HB.out)) hb); clear HO162; clear BK157; clear BK158; clear HB; have HO162 := n0_; have HO166 := n1_; have BK157 := n2_; have BK158 := n3_; have HB := n4_; clear n0_ n1_ n2_ n3_ n4_; (try clear hb); (try clear hb2); (try clear hk); (try clear hi); (try clear ho0)))
      repeat (go_quiet (first | ((with_reducible refine gate_dst (N := 4) rfl ?_); (try (refine gate_guard (by rfl) ?_; dsimp only)); refine box_event ?hg (N := 4) ?hd (cs := #[.int .i64 a1_0, .int .i64 a1_1, .int .i64 a1_2, .int .i64 a1_3, .int .i64 a1_4, .bool a1_5]) (t := 37) ?hr ?_; (case hd => rfl); (case hg => rfl); (case hr => first | (go_simp; done) | (go_simp; rfl)); intro gb157 hg w12 hbox hb; have n0_ := Aside0.mk (below_step (by repeat (first | (with_reducible first | exact HB.out | apply below_alloc | apply pw_below_drewN | apply below_drew1) | exact HB.out)) hb); have n1_ := Aside0.mk (hbox); have n2_ := Aside0.mk ((by rw [hg]; exact (below_size (by repeat (first | (with_reducible first | exact HB.out | apply below_alloc | apply pw_below_drewN | apply below_drew1) | exact HB.out))) : w.heap.size ≤ gb157)); have n3_ := Aside0.mk ((by rw [hg]; exact (below_size (by repeat (first | (with_reducible first | exact HB.out | apply below_alloc | apply pw_below_drewN | apply below_drew1) | exact HB.out))) : w.heap.size ≤ gb157)); clear HB; have HB := n0_; have BK157 := n1_; have GW157 := n2_; have GE157 := n3_; clear n0_ n1_ n2_ n3_; clear hb hbox hg) | ((with_reducible refine gate_dst (N := 5) rfl ?_); (try (refine gate_guard (by rfl) ?_; dsimp only)); refine box_event ?hg (N := 5) ?hd (cs := #[.int .i64 a2_0, .int .i64 a2_1, .int .i64 a2_2, .int .i64 a2_3, .int .i64 a2_4, .int .i64 a2_5, .int .i64 a2_6]) (t := 24) ?hr ?_; (case hd => rfl); (case hg => rfl); (case hr => first | (go_simp; done) | (go_simp; rfl)); intro gb158 hg w13 hbox hb; have n0_ := Aside0.mk (blk_below (g := gb157) (o := .cells #[.int .i64 a1_0, .int .i64 a1_1, .int .i64 a1_2, .int .i64 a1_3, .int .i64 a1_4, .bool a1_5] 37 (0, 0)) (by (with_reducible repeat (first | refine blk_drewN ?_ _ | refine blk_drew ?_ | refine blk_alloc ?_ _)); exact BK157.out) hb); have n1_ := Aside0.mk (below_step (by repeat (first | (with_reducible first | exact HB.out | apply below_alloc | apply pw_below_drewN | apply below_drew1 | refine below_set ?_ GE157.out) | exact HB.out)) hb); have n2_ := Aside0.mk (hbox); have n3_ := Aside0.mk ((by rw [hg]; exact (below_size (by repeat (first | (with_reducible first | exact HB.out | apply below_alloc | apply pw_below_drewN | apply below_drew1 | refine below_set ?_ GE157.out) | exact HB.out))) : w.heap.size ≤ gb158)); have n4_ := Aside0.mk ((by rw [hg]; exact (below_size (by repeat (first | (with_reducible first | exact HB.out | apply below_alloc | apply pw_below_drewN | apply below_drew1 | refine below_set ?_ GE157.out) | exact HB.out))) : w.heap.size ≤ gb158)); have n5_ := Aside0.mk ((by rw [hg]; exact Nat.ne_of_lt (blk_lt (g := gb157) (o := .cells #[.int .i64 a1_0, .int .i64 a1_1, .int .i64 a1_2, .int .i64 a1_3, .int .i64 a1_4, .bool a1_5] 37 (0, 0)) (by (with_reducible repeat (first | refine blk_drewN ?_ _ | refine blk_drew ?_ | refine blk_alloc ?_ _)); exact BK157.out)) : gb157 ≠ gb158)); have n6_ := Aside0.mk ((by rw [hg]; exact Nat.ne_of_gt (blk_lt (g := gb157) (o := .cells #[.int .i64 a1_0, .int .i64 a1_1, .int .i64 a1_2, .int .i64 a1_3, .int .i64 a1_4, .bool a1_5] 37 (0, 0)) (by (with_reducible repeat (first | refine blk_drewN ?_ _ | refine blk_drew ?_ | refine blk_alloc ?_ _)); exact BK157.out)) : gb158 ≠ gb157)); clear BK157; clear HB; have BK157 := n0_; have HB := n1_; have BK158 := n2_; have GW158 := n3_; have GE158 := n4_; have NB157_158 := n5_; have NB158_157 := n6_; clear n0_ n1_ n2_ n3_ n4_ n5_ n6_; clear hb hbox hg) | (go_at_call 12; (with_reducible refine (calamuslaw05_alive.calls  true _ A4.out).mono ?_); rintro e w14 ⟨rfl, hb⟩; have n0_ := Aside0.mk (blk_below (g := gb157) (o := .cells #[.int .i64 a1_0, .int .i64 a1_1, .int .i64 a1_2, .int .i64 a1_3, .int .i64 a1_4, .bool a1_5] 37 (0, 0)) (by (with_reducible repeat (first | refine blk_drewN ?_ _ | refine blk_drew ?_ | refine blk_alloc ?_ _)); exact BK157.out) hb); have n1_ := Aside0.mk (blk_below (g := gb158) (o := .cells #[.int .i64 a2_0, .int .i64 a2_1, .int .i64 a2_2, .int .i64 a2_3, .int .i64 a2_4, .int .i64 a2_5, .int .i64 a2_6] 24 (0, 0)) (by (with_reducible repeat (first | refine blk_drewN ?_ _ | refine blk_drew ?_ | refine blk_alloc ?_ _)); exact BK158.out) hb); have n2_ := Aside0.mk (below_step (by repeat (first | (with_reducible first | exact HB.out | apply below_alloc | apply pw_below_drewN | apply below_drew1 | refine below_set ?_ GE157.out | refine below_set ?_ GE158.out) | exact HB.out)) hb); clear BK157; clear BK158; clear HB; have BK157 := n0_; have BK158 := n1_; have HB := n2_; clear n0_ n1_ n2_; (try clear hb); (try clear hb2); (try clear hk); (try clear hi); have hnb15 := NB157_158.out; have hnc15 := NB158_157.out; have hcz16_0 : w14.cell? ⟨gb157, 0, none⟩ = some (.int .i64 a1_0) := (blk_cell BK157.out 0).trans rfl; have hcz16_1 : w14.cell? ⟨gb157, 1, none⟩ = some (.int .i64 a1_1) := (blk_cell BK157.out 1).trans rfl; have hcz16_2 : w14.cell? ⟨gb157, 2, none⟩ = some (.int .i64 a1_2) := (blk_cell BK157.out 2).trans rfl; have hcz16_3 : w14.cell? ⟨gb157, 3, none⟩ = some (.int .i64 a1_3) := (blk_cell BK157.out 3).trans rfl; have hcz16_4 : w14.cell? ⟨gb157, 4, none⟩ = some (.int .i64 a1_4) := (blk_cell BK157.out 4).trans rfl; have hcz16_5 : w14.cell? ⟨gb157, 5, none⟩ = some (.bool a1_5) := (blk_cell BK157.out 5).trans rfl; have hfz16_0 := blk_frozen BK157.out 0; have hfz16_1 := blk_frozen BK157.out 1; have hfz16_2 := blk_frozen BK157.out 2; have hfz16_3 := blk_frozen BK157.out 3; have hfz16_4 := blk_frozen BK157.out 4; have hfz16_5 := blk_frozen BK157.out 5) | (go_at_call 19; (with_reducible refine (head_PutHead.calls _ _ l0 a1_0 a1_1 a1_2 a1_3 a1_4 a1_5 t160 t163 _ ?side1 ?side2 A10.out).mono ?_); (case side1 => repeat (first | exact (Kd.C_below HR0.out HB.out) | (with_reducible refine Kd.C_alloc ?_ _) | (with_reducible refine Kd.C_drewN ?_ _) | (with_reducible refine Kd.C_drew ?_))); (case side2 => exact HC0.out); rintro e w17 ⟨v161, rfl, ho0, hb⟩; have n0_ := Aside0.mk (Kd.R_lower ho0 (below_size (by repeat (first | (with_reducible first | exact HB.out | apply below_alloc | apply pw_below_drewN | apply below_drew1 | refine below_set ?_ GE157.out | refine below_set ?_ GE158.out) | exact HB.out)))); have n1_ := Aside0.mk (blk_below (g := gb157) (o := .cells #[.int .i64 a1_0, .int .i64 a1_1, .int .i64 a1_2, .int .i64 a1_3, .int .i64 a1_4, .bool a1_5] 37 (0, 0)) (by (with_reducible repeat (first | refine blk_drewN ?_ _ | refine blk_drew ?_ | refine blk_alloc ?_ _)); exact BK157.out) hb); have n2_ := Aside0.mk (blk_below (g := gb158) (o := .cells #[.int .i64 a2_0, .int .i64 a2_1, .int .i64 a2_2, .int .i64 a2_3, .int .i64 a2_4, .int .i64 a2_5, .int .i64 a2_6] 24 (0, 0)) (by (with_reducible repeat (first | refine blk_drewN ?_ _ | refine blk_drew ?_ | refine blk_alloc ?_ _)); exact BK158.out) hb); have n3_ := Aside0.mk (below_step (by repeat (first | (with_reducible first | exact HB.out | apply below_alloc | apply pw_below_drewN | apply below_drew1 | refine below_set ?_ GE157.out | refine below_set ?_ GE158.out) | exact HB.out)) hb); clear BK157; clear BK158; clear HB; have HO162 := n0_; have BK157 := n1_; have BK158 := n2_; have HB := n3_; clear n0_ n1_ n2_ n3_; (try clear hb); (try clear hb2); (try clear hk); (try clear hi); (try clear ho0); have hcz18_0 : w17.cell? ⟨gb158, 0, none⟩ = some (.int .i64 a2_0) := (blk_cell BK158.out 0).trans rfl; have hcz18_1 : w17.cell? ⟨gb158, 1, none⟩ = some (.int .i64 a2_1) := (blk_cell BK158.out 1).trans rfl; have hcz18_2 : w17.cell? ⟨gb158, 2, none⟩ = some (.int .i64 a2_2) := (blk_cell BK158.out 2).trans rfl; have hcz18_3 : w17.cell? ⟨gb158, 3, none⟩ = some (.int .i64 a2_3) := (blk_cell BK158.out 3).trans rfl; have hcz18_4 : w17.cell? ⟨gb158, 4, none⟩ = some (.int .i64 a2_4) := (blk_cell BK158.out 4).trans rfl; have hcz18_5 : w17.cell? ⟨gb158, 5, none⟩ = some (.int .i64 a2_5) := (blk_cell BK158.out 5).trans rfl; have hcz18_6 : w17.cell? ⟨gb158, 6, none⟩ = some (.int .i64 a2_6) := (blk_cell BK158.out 6).trans rfl; have hfz18_0 := blk_frozen BK158.out 0; have hfz18_1 := blk_frozen BK158.out 1; have hfz18_2 := blk_frozen BK158.out 2; have hfz18_3 := blk_frozen BK158.out 3; have hfz18_4 := blk_frozen BK158.out 4; have hfz18_5 := blk_frozen BK158.out 5; have hfz18_6 := blk_frozen BK158.out 6) | (go_at_call 14; (with_reducible refine (head_PutMaxp.calls (hG_ := ?sideG) _ _ l0 a2_0 a2_1 a2_2 a2_3 a2_4 a2_5 a2_6 t164 t167 _ ?side1 ?side2 A11.out).mono ?_); (case sideG => exact PL_below HGL.out (by repeat (first | (with_reducible first | exact HB.out | apply below_alloc | apply pw_below_drewN | apply below_drew1 | refine below_set ?_ GE157.out | refine below_set ?_ GE158.out) | exact HB.out))); (case side1 => repeat (first | exact (Kd.C_below HR0.out HB.out) | (with_reducible refine Kd.C_alloc ?_ _) | (with_reducible refine Kd.C_drewN ?_ _) | (with_reducible refine Kd.C_drew ?_))); (case side2 => exact HC0.out); rintro e w19 ⟨v165, rfl, ho0, hb⟩; have n0_ := Aside0.mk (Kd.R_elder' (by (with_reducible repeat (first | apply Kd.R_alloc | apply Kd.R_drewN | apply Kd.R_drew)); exact HO162.out) (Kd.R_base ho0) hb); have n1_ := Aside0.mk (Kd.R_lower (Kd.R_new' ho0 (Kd.R_lt (by (with_reducible repeat (first | apply Kd.R_alloc | apply Kd.R_drewN | apply Kd.R_drew)); exact HO162.out))) (below_size (by repeat (first | (with_reducible first | exact HB.out | apply below_alloc | apply pw_below_drewN | apply below_drew1 | refine below_set ?_ GE157.out | refine below_set ?_ GE158.out) | exact HB.out)))); have n2_ := Aside0.mk (blk_below (g := gb157) (o := .cells #[.int .i64 a1_0, .int .i64 a1_1, .int .i64 a1_2, .int .i64 a1_3, .int .i64 a1_4, .bool a1_5] 37 (0, 0)) (by (with_reducible repeat (first | refine blk_drewN ?_ _ | refine blk_drew ?_ | refine blk_alloc ?_ _)); exact BK157.out) hb); have n3_ := Aside0.mk (blk_below (g := gb158) (o := .cells #[.int .i64 a2_0, .int .i64 a2_1, .int .i64 a2_2, .int .i64 a2_3, .int .i64 a2_4, .int .i64 a2_5, .int .i64 a2_6] 24 (0, 0)) (by (with_reducible repeat (first | refine blk_drewN ?_ _ | refine blk_drew ?_ | refine blk_alloc ?_ _)); exact BK158.out) hb); have n4_ := Aside0.mk (below_step (by repeat (first | (with_reducible first | exact HB.out | apply below_alloc | apply pw_below_drewN | apply below_drew1 | refine below_set ?_ GE157.out | refine below_set ?_ GE158.out) | exact HB.out)) hb); clear HO162; clear BK157; clear BK158; clear HB; have HO162 := n0_; have HO166 := n1_; have BK157 := n2_; have BK158 := n3_; have HB := n4_; clear n0_ n1_ n2_ n3_ n4_; (try clear hb); (try clear hb2); (try clear hk); (try clear hi); (try clear ho0))); try go_wp2_with (first | ((with_reducible refine gate_dst (N := 4) rfl ?_); (try (refine gate_guard (by rfl) ?_; dsimp only)); refine box_event ?hg (N := 4) ?hd (cs := #[.int .i64 a1_0, .int .i64 a1_1, .int .i64 a1_2, .int .i64 a1_3, .int .i64 a1_4, .bool a1_5]) (t := 37) ?hr ?_; (case hd => rfl); (case hg => rfl); (case hr => first | (go_simp; done) | (go_simp; rfl)); intro gb157 hg w12 hbox hb; have n0_ := Aside0.mk (below_step (by repeat (first | (with_reducible first | exact HB.out | apply below_alloc | apply pw_below_drewN | apply below_drew1) | exact HB.out)) hb); have n1_ := Aside0.mk (hbox); have n2_ := Aside0.mk ((by rw [hg]; exact (below_size (by repeat (first | (with_reducible first | exact HB.out | apply below_alloc | apply pw_below_drewN | apply below_drew1) | exact HB.out))) : w.heap.size ≤ gb157)); have n3_ := Aside0.mk ((by rw [hg]; exact (below_size (by repeat (first | (with_reducible first | exact HB.out | apply below_alloc | apply pw_below_drewN | apply below_drew1) | exact HB.out))) : w.heap.size ≤ gb157)); clear HB; have HB := n0_; have BK157 := n1_; have GW157 := n2_; have GE157 := n3_; clear n0_ n1_ n2_ n3_; clear hb hbox hg) | ((with_reducible refine gate_dst (N := 5) rfl ?_); (try (refine gate_guard (by rfl) ?_; dsimp only)); refine box_event ?hg (N := 5) ?hd (cs := #[.int .i64 a2_0, .int .i64 a2_1, .int .i64 a2_2, .int .i64 a2_3, .int .i64 a2_4, .int .i64 a2_5, .int .i64 a2_6]) (t := 24) ?hr ?_; (case hd => rfl); (case hg => rfl); (case hr => first | (go_simp; done) | (go_simp; rfl)); intro gb158 hg w13 hbox hb; have n0_ := Aside0.mk (blk_below (g := gb157) (o := .cells #[.int .i64 a1_0, .int .i64 a1_1, .int .i64 a1_2, .int .i64 a1_3, .int .i64 a1_4, .bool a1_5] 37 (0, 0)) (by (with_reducible repeat (first | refine blk_drewN ?_ _ | refine blk_drew ?_ | refine blk_alloc ?_ _)); exact BK157.out) hb); have n1_ := Aside0.mk (below_step (by repeat (first | (with_reducible first | exact HB.out | apply below_alloc | apply pw_below_drewN | apply below_drew1 | refine below_set ?_ GE157.out) | exact HB.out)) hb); have n2_ := Aside0.mk (hbox); have n3_ := Aside0.mk ((by rw [hg]; exact (below_size (by repeat (first | (with_reducible first | exact HB.out | apply below_alloc | apply pw_below_drewN | apply below_drew1 | refine below_set ?_ GE157.out) | exact HB.out))) : w.heap.size ≤ gb158)); have n4_ := Aside0.mk ((by rw [hg]; exact (below_size (by repeat (first | (with_reducible first | exact HB.out | apply below_alloc | apply pw_below_drewN | apply below_drew1 | refine below_set ?_ GE157.out) | exact HB.out))) : w.heap.size ≤ gb158)); have n5_ := Aside0.mk ((by rw [hg]; exact Nat.ne_of_lt (blk_lt (g := gb157) (o := .cells #[.int .i64 a1_0, .int .i64 a1_1, .int .i64 a1_2, .int .i64 a1_3, .int .i64 a1_4, .bool a1_5] 37 (0, 0)) (by (with_reducible repeat (first | refine blk_drewN ?_ _ | refine blk_drew ?_ | refine blk_alloc ?_ _)); exact BK157.out)) : gb157 ≠ gb158)); have n6_ := Aside0.mk ((by rw [hg]; exact Nat.ne_of_gt (blk_lt (g := gb157) (o := .cells #[.int .i64 a1_0, .int .i64 a1_1, .int .i64 a1_2, .int .i64 a1_3, .int .i64 a1_4, .bool a1_5] 37 (0, 0)) (by (with_reducible repeat (first | refine blk_drewN ?_ _ | refine blk_drew ?_ | refine blk_alloc ?_ _)); exact BK157.out)) : gb158 ≠ gb157)); clear BK157; clear HB; have BK157 := n0_; have HB := n1_; have BK158 := n2_; have GW158 := n3_; have GE158 := n4_; have NB157_158 := n5_; have NB158_157 := n6_; clear n0_ n1_ n2_ n3_ n4_ n5_ n6_; clear hb hbox hg) | (go_at_call 12; (with_reducible refine (calamuslaw05_alive.calls  true _ A4.out).mono ?_); rintro e w14 ⟨rfl, hb⟩; have n0_ := Aside0.mk (blk_below (g := gb157) (o := .cells #[.int .i64 a1_0, .int .i64 a1_1, .int .i64 a1_2, .int .i64 a1_3, .int .i64 a1_4, .bool a1_5] 37 (0, 0)) (by (with_reducible repeat (first | refine blk_drewN ?_ _ | refine blk_drew ?_ | refine blk_alloc ?_ _)); exact BK157.out) hb); have n1_ := Aside0.mk (blk_below (g := gb158) (o := .cells #[.int .i64 a2_0, .int .i64 a2_1, .int .i64 a2_2, .int .i64 a2_3, .int .i64 a2_4, .int .i64 a2_5, .int .i64 a2_6] 24 (0, 0)) (by (with_reducible repeat (first | refine blk_drewN ?_ _ | refine blk_drew ?_ | refine blk_alloc ?_ _)); exact BK158.out) hb); have n2_ := Aside0.mk (below_step (by repeat (first | (with_reducible first | exact HB.out | apply below_alloc | apply pw_below_drewN | apply below_drew1 | refine below_set ?_ GE157.out | refine below_set ?_ GE158.out) | exact HB.out)) hb); clear BK157; clear BK158; clear HB; have BK157 := n0_; have BK158 := n1_; have HB := n2_; clear n0_ n1_ n2_; (try clear hb); (try clear hb2); (try clear hk); (try clear hi); have hnb15 := NB157_158.out; have hnc15 := NB158_157.out; have hcz16_0 : w14.cell? ⟨gb157, 0, none⟩ = some (.int .i64 a1_0) := (blk_cell BK157.out 0).trans rfl; have hcz16_1 : w14.cell? ⟨gb157, 1, none⟩ = some (.int .i64 a1_1) := (blk_cell BK157.out 1).trans rfl; have hcz16_2 : w14.cell? ⟨gb157, 2, none⟩ = some (.int .i64 a1_2) := (blk_cell BK157.out 2).trans rfl; have hcz16_3 : w14.cell? ⟨gb157, 3, none⟩ = some (.int .i64 a1_3) := (blk_cell BK157.out 3).trans rfl; have hcz16_4 : w14.cell? ⟨gb157, 4, none⟩ = some (.int .i64 a1_4) := (blk_cell BK157.out 4).trans rfl; have hcz16_5 : w14.cell? ⟨gb157, 5, none⟩ = some (.bool a1_5) := (blk_cell BK157.out 5).trans rfl; have hfz16_0 := blk_frozen BK157.out 0; have hfz16_1 := blk_frozen BK157.out 1; have hfz16_2 := blk_frozen BK157.out 2; have hfz16_3 := blk_frozen BK157.out 3; have hfz16_4 := blk_frozen BK157.out 4; have hfz16_5 := blk_frozen BK157.out 5) | (go_at_call 19; (with_reducible refine (head_PutHead.calls _ _ l0 a1_0 a1_1 a1_2 a1_3 a1_4 a1_5 t160 t163 _ ?side1 ?side2 A10.out).mono ?_); (case side1 => repeat (first | exact (Kd.C_below HR0.out HB.out) | (with_reducible refine Kd.C_alloc ?_ _) | (with_reducible refine Kd.C_drewN ?_ _) | (with_reducible refine Kd.C_drew ?_))); (case side2 => exact HC0.out); rintro e w17 ⟨v161, rfl, ho0, hb⟩; have n0_ := Aside0.mk (Kd.R_lower ho0 (below_size (by repeat (first | (with_reducible first | exact HB.out | apply below_alloc | apply pw_below_drewN | apply below_drew1 | refine below_set ?_ GE157.out | refine below_set ?_ GE158.out) | exact HB.out)))); have n1_ := Aside0.mk (blk_below (g := gb157) (o := .cells #[.int .i64 a1_0, .int .i64 a1_1, .int .i64 a1_2, .int .i64 a1_3, .int .i64 a1_4, .bool a1_5] 37 (0, 0)) (by (with_reducible repeat (first | refine blk_drewN ?_ _ | refine blk_drew ?_ | refine blk_alloc ?_ _)); exact BK157.out) hb); have n2_ := Aside0.mk (blk_below (g := gb158) (o := .cells #[.int .i64 a2_0, .int .i64 a2_1, .int .i64 a2_2, .int .i64 a2_3, .int .i64 a2_4, .int .i64 a2_5, .int .i64 a2_6] 24 (0, 0)) (by (with_reducible repeat (first | refine blk_drewN ?_ _ | refine blk_drew ?_ | refine blk_alloc ?_ _)); exact BK158.out) hb); have n3_ := Aside0.mk (below_step (by repeat (first | (with_reducible first | exact HB.out | apply below_alloc | apply pw_below_drewN | apply below_drew1 | refine below_set ?_ GE157.out | refine below_set ?_ GE158.out) | exact HB.out)) hb); clear BK157; clear BK158; clear HB; have HO162 := n0_; have BK157 := n1_; have BK158 := n2_; have HB := n3_; clear n0_ n1_ n2_ n3_; (try clear hb); (try clear hb2); (try clear hk); (try clear hi); (try clear ho0); have hcz18_0 : w17.cell? ⟨gb158, 0, none⟩ = some (.int .i64 a2_0) := (blk_cell BK158.out 0).trans rfl; have hcz18_1 : w17.cell? ⟨gb158, 1, none⟩ = some (.int .i64 a2_1) := (blk_cell BK158.out 1).trans rfl; have hcz18_2 : w17.cell? ⟨gb158, 2, none⟩ = some (.int .i64 a2_2) := (blk_cell BK158.out 2).trans rfl; have hcz18_3 : w17.cell? ⟨gb158, 3, none⟩ = some (.int .i64 a2_3) := (blk_cell BK158.out 3).trans rfl; have hcz18_4 : w17.cell? ⟨gb158, 4, none⟩ = some (.int .i64 a2_4) := (blk_cell BK158.out 4).trans rfl; have hcz18_5 : w17.cell? ⟨gb158, 5, none⟩ = some (.int .i64 a2_5) := (blk_cell BK158.out 5).trans rfl; have hcz18_6 : w17.cell? ⟨gb158, 6, none⟩ = some (.int .i64 a2_6) := (blk_cell BK158.out 6).trans rfl; have hfz18_0 := blk_frozen BK158.out 0; have hfz18_1 := blk_frozen BK158.out 1; have hfz18_2 := blk_frozen BK158.out 2; have hfz18_3 := blk_frozen BK158.out 3; have hfz18_4 := blk_frozen BK158.out 4; have hfz18_5 := blk_frozen BK158.out 5; have hfz18_6 := blk_frozen BK158.out 6) | (go_at_call 14; (with_reducible refine (head_PutMaxp.calls (hG_ := ?sideG) _ _ l0 a2_0 a2_1 a2_2 a2_3 a2_4 a2_5 a2_6 t164 t167 _ ?side1 ?side2 A11.out).mono ?_); (case sideG => exact PL_below HGL.out (by repeat (first | (with_reducible first | exact HB.out | apply below_alloc | apply pw_below_drewN | apply below_drew1 | refine below_set ?_ GE157.out | refine below_set ?_ GE158.out) | exact HB.out))); (case side1 => repeat (first | exact (Kd.C_below HR0.out HB.out) | (with_reducible refine Kd.C_alloc ?_ _) | (with_reducible refine Kd.C_drewN ?_ _) | (with_reducible refine Kd.C_drew ?_))); (case side2 => exact HC0.out); rintro e w19 ⟨v165, rfl, ho0, hb⟩; have n0_ := Aside0.mk (Kd.R_elder' (by (with_reducible repeat (first | apply Kd.R_alloc | apply Kd.R_drewN | apply Kd.R_drew)); exact HO162.out) (Kd.R_base ho0) hb); have n1_ := Aside0.mk (Kd.R_lower (Kd.R_new' ho0 (Kd.R_lt (by (with_reducible repeat (first | apply Kd.R_alloc | apply Kd.R_drewN | apply Kd.R_drew)); exact HO162.out))) (below_size (by repeat (first | (with_reducible first | exact HB.out | apply below_alloc | apply pw_below_drewN | apply below_drew1 | refine below_set ?_ GE157.out | refine below_set ?_ GE158.out) | exact HB.out)))); have n2_ := Aside0.mk (blk_below (g := gb157) (o := .cells #[.int .i64 a1_0, .int .i64 a1_1, .int .i64 a1_2, .int .i64 a1_3, .int .i64 a1_4, .bool a1_5] 37 (0, 0)) (by (with_reducible repeat (first | refine blk_drewN ?_ _ | refine blk_drew ?_ | refine blk_alloc ?_ _)); exact BK157.out) hb); have n3_ := Aside0.mk (blk_below (g := gb158) (o := .cells #[.int .i64 a2_0, .int .i64 a2_1, .int .i64 a2_2, .int .i64 a2_3, .int .i64 a2_4, .int .i64 a2_5, .int .i64 a2_6] 24 (0, 0)) (by (with_reducible repeat (first | refine blk_drewN ?_ _ | refine blk_drew ?_ | refine blk_alloc ?_ _)); exact BK158.out) hb); have n4_ := Aside0.mk (below_step (by repeat (first | (with_reducible first | exact HB.out | apply below_alloc | apply pw_below_drewN | apply below_drew1 | refine below_set ?_ GE157.out | refine below_set ?_ GE158.out) | exact HB.out)) hb); clear HO162; clear BK157; clear BK158; clear HB; have HO162 := n0_; have HO166 := n1_; have BK157 := n2_; have BK158 := n3_; have HB := n4_; clear n0_ n1_ n2_ n3_ n4_; (try clear hb); (try clear hb2); (try clear hk); (try clear hi); (try clear ho0))))
      go_loopg [32] k (fun kq v32 w' => ∃ (x32_1 : Int), v32 = .int .i64 x32_1 ∧ Aside0 (calamuslaw05_HeadElse.l0 kq l0 t160 t163 t164 t167 (l0.length : Int) x32_1 = some r) ∧ Aside0 (kq ≤ k) ∧ Aside0 (Kd.R (Kd.int .u8) 5 w' w.heap.size (fun k_ => some k_ ≠ (v165 : Value).ownBlock) v161 t160) ∧ Aside0 (Kd.R (Kd.int .u8) 5 w' w.heap.size (fun k_ => some k_ ≠ (v161 : Value).ownBlock) v165 t164) ∧ Aside0 (w'.heap[gb157]? = some (.cells #[.int .i64 a1_0, .int .i64 a1_1, .int .i64 a1_2, .int .i64 a1_3, .int .i64 a1_4, .bool a1_5] 37 (0, 0))) ∧ Aside0 (w'.heap[gb158]? = some (.cells #[.int .i64 a2_0, .int .i64 a2_1, .int .i64 a2_2, .int .i64 a2_3, .int .i64 a2_4, .int .i64 a2_5, .int .i64 a2_6] 24 (0, 0))) ∧ Aside0 (Below w.heap.size w w'))
      case atStart => exact ⟨(0), (by first | rfl | (simp; done) | (simp [*]; done)), H', ⟨Nat.le_refl _⟩, ⟨by (with_reducible repeat (first | apply Kd.R_alloc | apply Kd.R_drewN | apply Kd.R_drew)); exact Kd.R_mono HO162.out (fun _ hk => hk.2)⟩, ⟨by (with_reducible repeat (first | apply Kd.R_alloc | apply Kd.R_drewN | apply Kd.R_drew)); exact Kd.R_mono HO166.out (fun _ hk => hk.2)⟩, ⟨by (with_reducible repeat (first | refine blk_drewN ?_ _ | refine blk_drew ?_ | refine blk_alloc ?_ _)); exact BK157.out⟩, ⟨by (with_reducible repeat (first | refine blk_drewN ?_ _ | refine blk_drew ?_ | refine blk_alloc ?_ _)); exact BK158.out⟩, ⟨by repeat (first | (with_reducible first | exact HB.out | apply below_alloc | apply pw_below_drewN | apply below_drew1 | refine below_set ?_ GE157.out | refine below_set ?_ GE158.out) | exact HB.out)⟩⟩
      case round =>
        clear H'
        try clear c1
        try clear p2
        try clear c4
        try clear c5
        try clear c6
        try clear c6b0
        try clear c6b1
        try clear c15
        try clear hcz16_0
        try clear hcz16_1
        try clear hcz16_2
        try clear hcz16_3
        try clear hcz16_4
        try clear hcz16_5
        try clear hcz18_0
        try clear hcz18_1
        try clear hcz18_2
        try clear hcz18_3
        try clear hcz18_4
        try clear hcz18_5
        try clear hcz18_6
        try clear hfz16_0
        try clear hfz16_1
        try clear hfz16_2
        try clear hfz16_3
        try clear hfz16_4
        try clear hfz16_5
        try clear hfz18_0
        try clear hfz18_1
        try clear hfz18_2
        try clear hfz18_3
        try clear hfz18_4
        try clear hfz18_5
        try clear hfz18_6
        obtain ⟨x32_1, rfl, HA, HK1, HO_7, HO_9, BK157, BK158, HB⟩ := hrel
        cases gk with
        | zero => exact absurd HA.out (by simp [calamuslaw05_HeadElse.l0])
        | succ k1 =>
          have H := HA.out
          clear HA
          simp only [calamuslaw05_HeadElse.l0] at H
          by_cases c20 : x32_1 < (l0.length : Int)
          · rw [if_pos c20] at H
            have c20b0 : decide (x32_1 < (l0.length : Int)) = true := decide_eq_true c20
            clear c20
            have HC21 := Aside0.mk H
            clear H
            go_upto_region 10 with (fail)
            repeat (go_quiet (fail); go_upto_region 10 with (fail))
            go_cut [12] (fun v12 wc => ∃ (kq : Nat) (x12_20 : Bool), v12 = .bool x12_20 ∧ Aside0 (calamuslaw05_HeadElse.j1 kq l0 t160 t163 t164 t167 x32_1 x12_20 (l0.length : Int) x32_1 = some r) ∧ Aside0 (kq ≤ k1) ∧ Aside0 (Kd.R (Kd.int .u8) 5 wc w.heap.size (fun k_ => some k_ ≠ (v165 : Value).ownBlock) v161 t160) ∧ Aside0 (Kd.R (Kd.int .u8) 5 wc w.heap.size (fun k_ => some k_ ≠ (v161 : Value).ownBlock) v165 t164) ∧ Aside0 (wc.heap[gb157]? = some (.cells #[.int .i64 a1_0, .int .i64 a1_1, .int .i64 a1_2, .int .i64 a1_3, .int .i64 a1_4, .bool a1_5] 37 (0, 0))) ∧ Aside0 (wc.heap[gb158]? = some (.cells #[.int .i64 a2_0, .int .i64 a2_1, .int .i64 a2_2, .int .i64 a2_3, .int .i64 a2_4, .int .i64 a2_5, .int .i64 a2_6] 24 (0, 0))) ∧ Aside0 (Below w.heap.size w wc))
            case first =>
              have H := HC21.out
              clear HC21
              by_cases c22 : x32_1 = 18
              · rw [if_pos c22] at H
                have c22b0 : (x32_1 == 18) = true := beq_iff_eq.mpr c22
                have c22b1 : (x32_1 != 18) = false := bne_eq_false_iff_eq.mpr c22
                clear c22
                (first | rw [c22b0] | (simp only [i64_w, i32_w]; rw [c22b0]) | skip)
                have H' := Aside0.mk H
                clear H
                go_wp2
                repeat (go_quiet (fail); try go_wp2)
                go_meet
                case rel => exact ⟨_, (true), (by first | rfl | (simp; done) | (simp [*]; done)), H', ⟨by have := HK1.out; first | omega | exact Nat.le_refl _⟩, ⟨by (with_reducible repeat (first | apply Kd.R_alloc | apply Kd.R_drewN | apply Kd.R_drew)); exact HO_7.out⟩, ⟨by (with_reducible repeat (first | apply Kd.R_alloc | apply Kd.R_drewN | apply Kd.R_drew)); exact HO_9.out⟩, ⟨by (with_reducible repeat (first | refine blk_drewN ?_ _ | refine blk_drew ?_ | refine blk_alloc ?_ _)); exact BK157.out⟩, ⟨by (with_reducible repeat (first | refine blk_drewN ?_ _ | refine blk_drew ?_ | refine blk_alloc ?_ _)); exact BK158.out⟩, ⟨by repeat (first | (with_reducible first | exact HB.out | apply below_alloc | apply pw_below_drewN | apply below_drew1 | refine below_set ?_ GE157.out | refine below_set ?_ GE158.out) | exact HB.out)⟩⟩
              · rw [if_neg c22] at H
                have c22b0 : (x32_1 == 18) = false := beq_eq_false_iff_ne.mpr c22
                have c22b1 : (x32_1 != 18) = true := bne_iff_ne.mpr c22
                (first | rw [c22b0] | (simp only [i64_w, i32_w]; rw [c22b0]) | skip)
                by_cases c23 : x32_1 = 19
                · rw [if_pos c23] at H
                  have c23b0 : (x32_1 == 19) = true := beq_iff_eq.mpr c23
                  have c23b1 : (x32_1 != 19) = false := bne_eq_false_iff_eq.mpr c23
                  clear c23
                  have H' := Aside0.mk H
                  clear H
                  go_wp2
                  repeat (go_quiet (fail); try go_wp2)
                  go_meet
                  case rel => exact ⟨_, (true), (by first | rfl | (simp; done) | (simp [*]; done)), H', ⟨by have := HK1.out; first | omega | exact Nat.le_refl _⟩, ⟨by (with_reducible repeat (first | apply Kd.R_alloc | apply Kd.R_drewN | apply Kd.R_drew)); exact HO_7.out⟩, ⟨by (with_reducible repeat (first | apply Kd.R_alloc | apply Kd.R_drewN | apply Kd.R_drew)); exact HO_9.out⟩, ⟨by (with_reducible repeat (first | refine blk_drewN ?_ _ | refine blk_drew ?_ | refine blk_alloc ?_ _)); exact BK157.out⟩, ⟨by (with_reducible repeat (first | refine blk_drewN ?_ _ | refine blk_drew ?_ | refine blk_alloc ?_ _)); exact BK158.out⟩, ⟨by repeat (first | (with_reducible first | exact HB.out | apply below_alloc | apply pw_below_drewN | apply below_drew1 | refine below_set ?_ GE157.out | refine below_set ?_ GE158.out) | exact HB.out)⟩⟩
                · rw [if_neg c23] at H
                  have c23b0 : (x32_1 == 19) = false := beq_eq_false_iff_ne.mpr c23
                  have c23b1 : (x32_1 != 19) = true := bne_iff_ne.mpr c23
                  by_cases c24 : x32_1 ≥ 36
                  · rw [if_pos c24] at H
                    have c24b0 : decide (36 ≤ x32_1) = true := decide_eq_true c24
                    clear c24
                    by_cases c25 : x32_1 < 44
                    · rw [if_pos c25] at H
                      have c25b0 : decide (x32_1 < 44) = true := decide_eq_true c25
                      clear c25
                      have H' := Aside0.mk H
                      clear H
                      go_wp2
                      repeat (go_quiet (fail); try go_wp2)
                      go_meet
                      case rel => exact ⟨_, (true), (by first | rfl | (simp; done) | (simp [*]; done)), H', ⟨by have := HK1.out; first | omega | exact Nat.le_refl _⟩, ⟨by (with_reducible repeat (first | apply Kd.R_alloc | apply Kd.R_drewN | apply Kd.R_drew)); exact HO_7.out⟩, ⟨by (with_reducible repeat (first | apply Kd.R_alloc | apply Kd.R_drewN | apply Kd.R_drew)); exact HO_9.out⟩, ⟨by (with_reducible repeat (first | refine blk_drewN ?_ _ | refine blk_drew ?_ | refine blk_alloc ?_ _)); exact BK157.out⟩, ⟨by (with_reducible repeat (first | refine blk_drewN ?_ _ | refine blk_drew ?_ | refine blk_alloc ?_ _)); exact BK158.out⟩, ⟨by repeat (first | (with_reducible first | exact HB.out | apply below_alloc | apply pw_below_drewN | apply below_drew1 | refine below_set ?_ GE157.out | refine below_set ?_ GE158.out) | exact HB.out)⟩⟩
                    · rw [if_neg c25] at H
                      have c25b0 : decide (x32_1 < 44) = false := decide_eq_false c25
                      clear c25
                      by_cases c26 : x32_1 = 50
                      · rw [if_pos c26] at H
                        have c26b0 : (x32_1 == 50) = true := beq_iff_eq.mpr c26
                        have c26b1 : (x32_1 != 50) = false := bne_eq_false_iff_eq.mpr c26
                        clear c26
                        have H' := Aside0.mk H
                        clear H
                        go_wp2
                        repeat (go_quiet (fail); try go_wp2)
                        go_meet
                        case rel => exact ⟨_, (true), (by first | rfl | (simp; done) | (simp [*]; done)), H', ⟨by have := HK1.out; first | omega | exact Nat.le_refl _⟩, ⟨by (with_reducible repeat (first | apply Kd.R_alloc | apply Kd.R_drewN | apply Kd.R_drew)); exact HO_7.out⟩, ⟨by (with_reducible repeat (first | apply Kd.R_alloc | apply Kd.R_drewN | apply Kd.R_drew)); exact HO_9.out⟩, ⟨by (with_reducible repeat (first | refine blk_drewN ?_ _ | refine blk_drew ?_ | refine blk_alloc ?_ _)); exact BK157.out⟩, ⟨by (with_reducible repeat (first | refine blk_drewN ?_ _ | refine blk_drew ?_ | refine blk_alloc ?_ _)); exact BK158.out⟩, ⟨by repeat (first | (with_reducible first | exact HB.out | apply below_alloc | apply pw_below_drewN | apply below_drew1 | refine below_set ?_ GE157.out | refine below_set ?_ GE158.out) | exact HB.out)⟩⟩
                      · rw [if_neg c26] at H
                        have c26b0 : (x32_1 == 50) = false := beq_eq_false_iff_ne.mpr c26
                        have c26b1 : (x32_1 != 50) = true := bne_iff_ne.mpr c26
                        have H' := Aside0.mk H
                        clear H
                        go_wp2
                        repeat (go_quiet (fail); try go_wp2)
                        go_meet
                        case rel => exact ⟨_, ((x32_1 == 51)), (by first | rfl | (simp; done) | (simp [*]; done)), H', ⟨by have := HK1.out; first | omega | exact Nat.le_refl _⟩, ⟨by (with_reducible repeat (first | apply Kd.R_alloc | apply Kd.R_drewN | apply Kd.R_drew)); exact HO_7.out⟩, ⟨by (with_reducible repeat (first | apply Kd.R_alloc | apply Kd.R_drewN | apply Kd.R_drew)); exact HO_9.out⟩, ⟨by (with_reducible repeat (first | refine blk_drewN ?_ _ | refine blk_drew ?_ | refine blk_alloc ?_ _)); exact BK157.out⟩, ⟨by (with_reducible repeat (first | refine blk_drewN ?_ _ | refine blk_drew ?_ | refine blk_alloc ?_ _)); exact BK158.out⟩, ⟨by repeat (first | (with_reducible first | exact HB.out | apply below_alloc | apply pw_below_drewN | apply below_drew1 | refine below_set ?_ GE157.out | refine below_set ?_ GE158.out) | exact HB.out)⟩⟩
                  · rw [if_neg c24] at H
                    have c24b0 : decide (36 ≤ x32_1) = false := decide_eq_false c24
                    clear c24
                    by_cases c27 : x32_1 = 50
                    · rw [if_pos c27] at H
                      have c27b0 : (x32_1 == 50) = true := beq_iff_eq.mpr c27
                      have c27b1 : (x32_1 != 50) = false := bne_eq_false_iff_eq.mpr c27
                      clear c27
                      have H' := Aside0.mk H
                      clear H
                      go_wp2
                      repeat (go_quiet (fail); try go_wp2)
                      go_meet
                      case rel => exact ⟨_, (true), (by first | rfl | (simp; done) | (simp [*]; done)), H', ⟨by have := HK1.out; first | omega | exact Nat.le_refl _⟩, ⟨by (with_reducible repeat (first | apply Kd.R_alloc | apply Kd.R_drewN | apply Kd.R_drew)); exact HO_7.out⟩, ⟨by (with_reducible repeat (first | apply Kd.R_alloc | apply Kd.R_drewN | apply Kd.R_drew)); exact HO_9.out⟩, ⟨by (with_reducible repeat (first | refine blk_drewN ?_ _ | refine blk_drew ?_ | refine blk_alloc ?_ _)); exact BK157.out⟩, ⟨by (with_reducible repeat (first | refine blk_drewN ?_ _ | refine blk_drew ?_ | refine blk_alloc ?_ _)); exact BK158.out⟩, ⟨by repeat (first | (with_reducible first | exact HB.out | apply below_alloc | apply pw_below_drewN | apply below_drew1 | refine below_set ?_ GE157.out | refine below_set ?_ GE158.out) | exact HB.out)⟩⟩
                    · rw [if_neg c27] at H
                      have c27b0 : (x32_1 == 50) = false := beq_eq_false_iff_ne.mpr c27
                      have c27b1 : (x32_1 != 50) = true := bne_iff_ne.mpr c27
                      have H' := Aside0.mk H
                      clear H
                      go_wp2
                      repeat (go_quiet (fail); try go_wp2)
                      go_meet
                      case rel => exact ⟨_, ((x32_1 == 51)), (by first | rfl | (simp; done) | (simp [*]; done)), H', ⟨by have := HK1.out; first | omega | exact Nat.le_refl _⟩, ⟨by (with_reducible repeat (first | apply Kd.R_alloc | apply Kd.R_drewN | apply Kd.R_drew)); exact HO_7.out⟩, ⟨by (with_reducible repeat (first | apply Kd.R_alloc | apply Kd.R_drewN | apply Kd.R_drew)); exact HO_9.out⟩, ⟨by (with_reducible repeat (first | refine blk_drewN ?_ _ | refine blk_drew ?_ | refine blk_alloc ?_ _)); exact BK157.out⟩, ⟨by (with_reducible repeat (first | refine blk_drewN ?_ _ | refine blk_drew ?_ | refine blk_alloc ?_ _)); exact BK158.out⟩, ⟨by repeat (first | (with_reducible first | exact HB.out | apply below_alloc | apply pw_below_drewN | apply below_drew1 | refine below_set ?_ GE157.out | refine below_set ?_ GE158.out) | exact HB.out)⟩⟩
            case rest =>
              clear HC21
              try clear c1
              try clear c2
              try clear p2
              try clear c4
              try clear c5
              try clear c6
              try clear c6b0
              try clear c6b1
              try clear c15
              try clear c20
              try clear c20b0
              try clear c22
              try clear c22b0
              try clear c22b1
              try clear c23
              try clear c23b0
              try clear c23b1
              try clear c24
              try clear c24b0
              try clear c25
              try clear c25b0
              try clear c26
              try clear c26b0
              try clear c26b1
              try clear c27
              try clear c27b0
              try clear c27b1
              try clear hcz16_0
              try clear hcz16_1
              try clear hcz16_2
              try clear hcz16_3
              try clear hcz16_4
              try clear hcz16_5
              try clear hcz18_0
              try clear hcz18_1
              try clear hcz18_2
              try clear hcz18_3
              try clear hcz18_4
              try clear hcz18_5
              try clear hcz18_6
              try clear hfz16_0
              try clear hfz16_1
              try clear hfz16_2
              try clear hfz16_3
              try clear hfz16_4
              try clear hfz16_5
              try clear hfz18_0
              try clear hfz18_1
              try clear hfz18_2
              try clear hfz18_3
              try clear hfz18_4
              try clear hfz18_5
              try clear hfz18_6
              try clear p2
              obtain ⟨kq, x12_20, rfl, HA, HJ20, HO_7, HO_9, BK157, BK158, HB⟩ := hcut
              cases kq with
              | zero => exact absurd HA.out (by simp [calamuslaw05_HeadElse.j1])
              | succ kj20 =>
                have H := HA.out
                clear HA
                simp only [calamuslaw05_HeadElse.j1] at H
                have HC28 := Aside0.mk H
                clear H
                go_upto_region 11 with (fail)
                repeat (go_quiet (fail); go_upto_region 11 with (fail))
                go_cut [80] (fun v80 wc => ∃ (kq : Nat) (x80_27 : Bool), v80 = .bool x80_27 ∧ Aside0 (calamuslaw05_HeadElse.j2 kq l0 t160 t163 t164 t167 x32_1 (l0.length : Int) x32_1 x80_27 = some r) ∧ Aside0 (kq ≤ kj20) ∧ Aside0 (Kd.R (Kd.int .u8) 5 wc w.heap.size (fun k_ => some k_ ≠ (v165 : Value).ownBlock) v161 t160) ∧ Aside0 (Kd.R (Kd.int .u8) 5 wc w.heap.size (fun k_ => some k_ ≠ (v161 : Value).ownBlock) v165 t164) ∧ Aside0 (wc.heap[gb157]? = some (.cells #[.int .i64 a1_0, .int .i64 a1_1, .int .i64 a1_2, .int .i64 a1_3, .int .i64 a1_4, .bool a1_5] 37 (0, 0))) ∧ Aside0 (wc.heap[gb158]? = some (.cells #[.int .i64 a2_0, .int .i64 a2_1, .int .i64 a2_2, .int .i64 a2_3, .int .i64 a2_4, .int .i64 a2_5, .int .i64 a2_6] 24 (0, 0))) ∧ Aside0 (Below w.heap.size w wc))
                case first =>
                  have H := HC28.out
                  clear HC28
                  by_cases c29 : t163 = 0
                  · rw [if_pos c29] at H
                    have c29b0 : (t163 == 0) = true := beq_iff_eq.mpr c29
                    have c29b1 : (t163 != 0) = false := bne_eq_false_iff_eq.mpr c29
                    clear c29
                    (first | rw [c29b0] | (simp only [i64_w, i32_w]; rw [c29b0]) | skip)
                    by_cases c30 : (t160.length : Int) = (l0.length : Int)
                    · rw [if_pos c30] at H
                      have c30b0 : ((t160.length : Int) == (l0.length : Int)) = true := beq_iff_eq.mpr c30
                      have c30b1 : ((t160.length : Int) != (l0.length : Int)) = false := bne_eq_false_iff_eq.mpr c30
                      have c30b2 : (t160.length == l0.length) = true := by first | simpa using c30 | (simp at c30 ⊢; omega)
                      clear c30
                      by_cases c31 : x12_20 = true
                      · subst c31
                        have H1 : (calamuslaw05_HeadElse.j2 kj20 l0 t160 t163 t164 t167 x32_1 (l0.length : Int) x32_1 false) = some r := by rw [if_pos rfl] at H; exact H
                        clear H
                        have H := H1
                        clear H1
                        have H' := Aside0.mk H
                        clear H
                        obtain ⟨Ao32, co32, eo32⟩ := Kd.R_slice HO_7.out
                        subst eo32
                        go_wp2
                        repeat (go_quiet (fail); try go_wp2)
                        go_meet
                        case rel => exact ⟨_, (false), (by first | rfl | (simp; done) | (simp [*]; done)), H', ⟨by have := HK1.out; have := HJ20.out; first | omega | exact Nat.le_refl _⟩, ⟨by (with_reducible repeat (first | apply Kd.R_alloc | apply Kd.R_drewN | apply Kd.R_drew)); exact HO_7.out⟩, ⟨by (with_reducible repeat (first | apply Kd.R_alloc | apply Kd.R_drewN | apply Kd.R_drew)); exact HO_9.out⟩, ⟨by (with_reducible repeat (first | refine blk_drewN ?_ _ | refine blk_drew ?_ | refine blk_alloc ?_ _)); exact BK157.out⟩, ⟨by (with_reducible repeat (first | refine blk_drewN ?_ _ | refine blk_drew ?_ | refine blk_alloc ?_ _)); exact BK158.out⟩, ⟨by repeat (first | (with_reducible first | exact HB.out | apply below_alloc | apply pw_below_drewN | apply below_drew1 | refine below_set ?_ GE157.out | refine below_set ?_ GE158.out) | exact HB.out)⟩⟩
                      · replace c31 := Bool.eq_false_iff.mpr c31
                        subst c31
                        have H1 : (if 0 ≤ x32_1 then (if x32_1 < (t160.length : Int) then (if x32_1 < (l0.length : Int) then (calamuslaw05_HeadElse.j2 kj20 l0 t160 t163 t164 t167 x32_1 (l0.length : Int) x32_1 ((rd t160 x32_1) != (rd l0 x32_1))) else (none)) else (none)) else (none)) = some r := by rw [if_neg (show ¬ (false = true) by decide)] at H; exact H
                        clear H
                        have H := H1
                        clear H1
                        by_cases c33 : 0 ≤ x32_1
                        · rw [if_pos c33] at H
                          have c33b0 : decide (0 ≤ x32_1) = true := decide_eq_true c33
                          clear c33
                          by_cases c34 : x32_1 < (t160.length : Int)
                          · rw [if_pos c34] at H
                            have c34b0 : decide (x32_1 < (t160.length : Int)) = true := decide_eq_true c34
                            clear c34
                            by_cases c35 : x32_1 < (l0.length : Int)
                            · rw [if_pos c35] at H
                              have c35b0 : decide (x32_1 < (l0.length : Int)) = true := decide_eq_true c35
                              clear c35
                              have H' := Aside0.mk H
                              clear H
                              obtain ⟨Ao36, co36, eo36⟩ := Kd.R_slice HO_7.out
                              subst eo36
                              have p168 : 0 ≤ (x32_1 : Int) := of_decide_eq_true (by first | (with_reducible assumption) | assumption)
                              have q168 : x32_1 < (t160.length : Int) := of_decide_eq_true (by first | (with_reducible assumption) | assumption)
                              obtain ⟨ad168, e168, hx168_0⟩ := Kd.at_int (Kd.R_reads' HO_7.out).2.2 x32_1 p168 q168
                              cases e168
                              replace p168 := eq_true p168
                              replace q168 := eq_true q168
                              have p169 : 0 ≤ (x32_1 : Int) := of_decide_eq_true (by first | (with_reducible assumption) | assumption)
                              have q169 : x32_1 < (l0.length : Int) := of_decide_eq_true (by first | (with_reducible assumption) | assumption)
                              obtain ⟨ad169, e169, hx169_0⟩ := Kd.at_int HR0.out x32_1 p169 q169
                              cases e169
                              replace hx169_0 := (HB.out.cell (World.block_lt_of_cell? w _ hx169_0)).trans hx169_0
                              replace p169 := eq_true p169
                              replace q169 := eq_true q169
                              go_wp2
                              repeat (go_quiet (fail); try go_wp2)
                              go_meet
                              case rel => exact ⟨_, (((rd t160 x32_1) != (rd l0 x32_1))), (by first | rfl | (simp; done) | (simp [*]; done)), H', ⟨by have := HK1.out; have := HJ20.out; first | omega | exact Nat.le_refl _⟩, ⟨by (with_reducible repeat (first | apply Kd.R_alloc | apply Kd.R_drewN | apply Kd.R_drew)); exact HO_7.out⟩, ⟨by (with_reducible repeat (first | apply Kd.R_alloc | apply Kd.R_drewN | apply Kd.R_drew)); exact HO_9.out⟩, ⟨by (with_reducible repeat (first | refine blk_drewN ?_ _ | refine blk_drew ?_ | refine blk_alloc ?_ _)); exact BK157.out⟩, ⟨by (with_reducible repeat (first | refine blk_drewN ?_ _ | refine blk_drew ?_ | refine blk_alloc ?_ _)); exact BK158.out⟩, ⟨by repeat (first | (with_reducible first | exact HB.out | apply below_alloc | apply pw_below_drewN | apply below_drew1 | refine below_set ?_ GE157.out | refine below_set ?_ GE158.out) | exact HB.out)⟩⟩
                            · rw [if_neg c35] at H
                              exact absurd H (by simp)
                          · rw [if_neg c34] at H
                            exact absurd H (by simp)
                        · rw [if_neg c33] at H
                          exact absurd H (by simp)
                    · rw [if_neg c30] at H
                      have c30b0 : ((t160.length : Int) == (l0.length : Int)) = false := beq_eq_false_iff_ne.mpr c30
                      have c30b1 : ((t160.length : Int) != (l0.length : Int)) = true := bne_iff_ne.mpr c30
                      have c30b2 : (t160.length == l0.length) = false := by first | simpa using c30 | (simp at c30 ⊢; omega)
                      have H' := Aside0.mk H
                      clear H
                      obtain ⟨Ao37, co37, eo37⟩ := Kd.R_slice HO_7.out
                      subst eo37
                      go_wp2
                      repeat (go_quiet (fail); try go_wp2)
                      go_meet
                      case rel => exact ⟨_, (true), (by first | rfl | (simp; done) | (simp [*]; done)), H', ⟨by have := HK1.out; have := HJ20.out; first | omega | exact Nat.le_refl _⟩, ⟨by (with_reducible repeat (first | apply Kd.R_alloc | apply Kd.R_drewN | apply Kd.R_drew)); exact HO_7.out⟩, ⟨by (with_reducible repeat (first | apply Kd.R_alloc | apply Kd.R_drewN | apply Kd.R_drew)); exact HO_9.out⟩, ⟨by (with_reducible repeat (first | refine blk_drewN ?_ _ | refine blk_drew ?_ | refine blk_alloc ?_ _)); exact BK157.out⟩, ⟨by (with_reducible repeat (first | refine blk_drewN ?_ _ | refine blk_drew ?_ | refine blk_alloc ?_ _)); exact BK158.out⟩, ⟨by repeat (first | (with_reducible first | exact HB.out | apply below_alloc | apply pw_below_drewN | apply below_drew1 | refine below_set ?_ GE157.out | refine below_set ?_ GE158.out) | exact HB.out)⟩⟩
                  · rw [if_neg c29] at H
                    have c29b0 : (t163 == 0) = false := beq_eq_false_iff_ne.mpr c29
                    have c29b1 : (t163 != 0) = true := bne_iff_ne.mpr c29
                    (first | rw [c29b0] | (simp only [i64_w, i32_w]; rw [c29b0]) | skip)
                    have H' := Aside0.mk H
                    clear H
                    go_wp2
                    repeat (go_quiet (fail); try go_wp2)
                    go_meet
                    case rel => exact ⟨_, (false), (by first | rfl | (simp; done) | (simp [*]; done)), H', ⟨by have := HK1.out; have := HJ20.out; first | omega | exact Nat.le_refl _⟩, ⟨by (with_reducible repeat (first | apply Kd.R_alloc | apply Kd.R_drewN | apply Kd.R_drew)); exact HO_7.out⟩, ⟨by (with_reducible repeat (first | apply Kd.R_alloc | apply Kd.R_drewN | apply Kd.R_drew)); exact HO_9.out⟩, ⟨by (with_reducible repeat (first | refine blk_drewN ?_ _ | refine blk_drew ?_ | refine blk_alloc ?_ _)); exact BK157.out⟩, ⟨by (with_reducible repeat (first | refine blk_drewN ?_ _ | refine blk_drew ?_ | refine blk_alloc ?_ _)); exact BK158.out⟩, ⟨by repeat (first | (with_reducible first | exact HB.out | apply below_alloc | apply pw_below_drewN | apply below_drew1 | refine below_set ?_ GE157.out | refine below_set ?_ GE158.out) | exact HB.out)⟩⟩
                case rest =>
                  clear HC28
                  try clear c1
                  try clear p1
                  try clear q1
                  try clear hx1
                  try clear c2
                  try clear p2
                  try clear c3
                  try clear c4
                  try clear c5
                  try clear c6
                  try clear c6b0
                  try clear c6b1
                  try clear c15
                  try clear p16
                  try clear q16
                  try clear hx16
                  try clear c20
                  try clear c20b0
                  try clear c22
                  try clear c22b0
                  try clear c22b1
                  try clear c23
                  try clear c23b0
                  try clear c23b1
                  try clear c24
                  try clear c24b0
                  try clear c25
                  try clear c25b0
                  try clear c26
                  try clear c26b0
                  try clear c26b1
                  try clear c27
                  try clear c27b0
                  try clear c27b1
                  try clear c29
                  try clear c29b0
                  try clear c29b1
                  try clear c30
                  try clear c30b0
                  try clear c30b1
                  try clear c30b2
                  try clear c31
                  try clear c33
                  try clear c33b0
                  try clear c34
                  try clear c34b0
                  try clear c35
                  try clear c35b0
                  try clear hcz16_0
                  try clear hcz16_1
                  try clear hcz16_2
                  try clear hcz16_3
                  try clear hcz16_4
                  try clear hcz16_5
                  try clear hcz18_0
                  try clear hcz18_1
                  try clear hcz18_2
                  try clear hcz18_3
                  try clear hcz18_4
                  try clear hcz18_5
                  try clear hcz18_6
                  try clear hfz16_0
                  try clear hfz16_1
                  try clear hfz16_2
                  try clear hfz16_3
                  try clear hfz16_4
                  try clear hfz16_5
                  try clear hfz18_0
                  try clear hfz18_1
                  try clear hfz18_2
                  try clear hfz18_3
                  try clear hfz18_4
                  try clear hfz18_5
                  try clear hfz18_6
                  try clear hx168_0
                  try clear hx169_0
                  try clear p168
                  try clear p169
                  try clear p2
                  try clear q168
                  try clear q169
                  obtain ⟨kq, x80_27, rfl, HA, HJ27, HO_7, HO_9, BK157, BK158, HB⟩ := hcut
                  cases kq with
                  | zero => exact absurd HA.out (by simp [calamuslaw05_HeadElse.j2])
                  | succ kj27 =>
                    have H := HA.out
                    clear HA
                    simp only [calamuslaw05_HeadElse.j2] at H
                    by_cases c38 : x80_27 = true
                    · subst c38
                      have H1 : (some false) = some r := by rw [if_pos rfl] at H; exact H
                      clear H
                      have H := H1
                      clear H1
                      obtain rfl := Option.some.inj H
                      go_wp2
                      repeat (go_quiet (fail); try go_wp2)
                      go_ret
                      exact ⟨by first | rfl | (simp [errW_none, errW_some] <;> rfl) | (simp [*, errW_none, errW_some] <;> rfl), by repeat (first | (with_reducible first | exact HB.out | apply below_alloc | apply pw_below_drewN | apply below_drew1 | refine below_set ?_ GE157.out | refine below_set ?_ GE158.out) | exact HB.out)⟩
                    · replace c38 := Bool.eq_false_iff.mpr c38
                      subst c38
                      have H1 : (if x32_1 ≥ 4 then (if x32_1 < 14 then (if t167 = 0 then (if (t164.length : Int) = (l0.length : Int) then (calamuslaw05_HeadElse.l0 kj27 l0 t160 t163 t164 t167 (l0.length : Int) (wrap64 (x32_1 + 1))) else (some false)) else (calamuslaw05_HeadElse.l0 kj27 l0 t160 t163 t164 t167 (l0.length : Int) (wrap64 (x32_1 + 1)))) else (if x32_1 ≥ 28 then (if t167 = 0 then (if (t164.length : Int) = (l0.length : Int) then (if x32_1 < 32 then (calamuslaw05_HeadElse.l0 kj27 l0 t160 t163 t164 t167 (l0.length : Int) (wrap64 (x32_1 + 1))) else (if 0 ≤ x32_1 then (if x32_1 < (t164.length : Int) then (if x32_1 < (l0.length : Int) then (if (rd t164 x32_1) = (rd l0 x32_1) then (calamuslaw05_HeadElse.l0 kj27 l0 t160 t163 t164 t167 (l0.length : Int) (wrap64 (x32_1 + 1))) else (some false)) else (none)) else (none)) else (none))) else (some false)) else (calamuslaw05_HeadElse.l0 kj27 l0 t160 t163 t164 t167 (l0.length : Int) (wrap64 (x32_1 + 1)))) else (if t167 = 0 then (if (t164.length : Int) = (l0.length : Int) then (if 0 ≤ x32_1 then (if x32_1 < (t164.length : Int) then (if x32_1 < (l0.length : Int) then (if (rd t164 x32_1) = (rd l0 x32_1) then (calamuslaw05_HeadElse.l0 kj27 l0 t160 t163 t164 t167 (l0.length : Int) (wrap64 (x32_1 + 1))) else (some false)) else (none)) else (none)) else (none)) else (some false)) else (calamuslaw05_HeadElse.l0 kj27 l0 t160 t163 t164 t167 (l0.length : Int) (wrap64 (x32_1 + 1)))))) else (if x32_1 ≥ 28 then (if t167 = 0 then (if (t164.length : Int) = (l0.length : Int) then (if x32_1 < 32 then (calamuslaw05_HeadElse.l0 kj27 l0 t160 t163 t164 t167 (l0.length : Int) (wrap64 (x32_1 + 1))) else (if 0 ≤ x32_1 then (if x32_1 < (t164.length : Int) then (if x32_1 < (l0.length : Int) then (if (rd t164 x32_1) = (rd l0 x32_1) then (calamuslaw05_HeadElse.l0 kj27 l0 t160 t163 t164 t167 (l0.length : Int) (wrap64 (x32_1 + 1))) else (some false)) else (none)) else (none)) else (none))) else (some false)) else (calamuslaw05_HeadElse.l0 kj27 l0 t160 t163 t164 t167 (l0.length : Int) (wrap64 (x32_1 + 1)))) else (if t167 = 0 then (if (t164.length : Int) = (l0.length : Int) then (if 0 ≤ x32_1 then (if x32_1 < (t164.length : Int) then (if x32_1 < (l0.length : Int) then (if (rd t164 x32_1) = (rd l0 x32_1) then (calamuslaw05_HeadElse.l0 kj27 l0 t160 t163 t164 t167 (l0.length : Int) (wrap64 (x32_1 + 1))) else (some false)) else (none)) else (none)) else (none)) else (some false)) else (calamuslaw05_HeadElse.l0 kj27 l0 t160 t163 t164 t167 (l0.length : Int) (wrap64 (x32_1 + 1)))))) = some r := by rw [if_neg (show ¬ (false = true) by decide)] at H; exact H
                      clear H
                      have H := H1
                      clear H1
                      by_cases c39 : x32_1 ≥ 4
                      · rw [if_pos c39] at H
                        have c39b0 : decide (4 ≤ x32_1) = true := decide_eq_true c39
                        clear c39
                        by_cases c40 : x32_1 < 14
                        · rw [if_pos c40] at H
                          have c40b0 : decide (x32_1 < 14) = true := decide_eq_true c40
                          clear c40
                          by_cases c41 : t167 = 0
                          · rw [if_pos c41] at H
                            have c41b0 : (t167 == 0) = true := beq_iff_eq.mpr c41
                            have c41b1 : (t167 != 0) = false := bne_eq_false_iff_eq.mpr c41
                            clear c41
                            by_cases c42 : (t164.length : Int) = (l0.length : Int)
                            · rw [if_pos c42] at H
                              have c42b0 : ((t164.length : Int) == (l0.length : Int)) = true := beq_iff_eq.mpr c42
                              have c42b1 : ((t164.length : Int) != (l0.length : Int)) = false := bne_eq_false_iff_eq.mpr c42
                              have c42b2 : (t164.length == l0.length) = true := by first | simpa using c42 | (simp at c42 ⊢; omega)
                              clear c42
                              have H' := Aside0.mk H
                              clear H
                              obtain ⟨Ao43, co43, eo43⟩ := Kd.R_slice HO_9.out
                              subst eo43
                              go_wp2
                              repeat (go_quiet (fail); try go_wp2)
                              go_roundg kj27
                              case measure => have := HK1.out; have := HJ20.out; have := HJ27.out; omega
                              case rel => exact ⟨(wrap64 (x32_1 + 1)), (by first | rfl | (simp; done) | (simp [*]; done)), H', ⟨by have := HK1.out; have := HJ20.out; have := HJ27.out; omega⟩, ⟨by (with_reducible repeat (first | apply Kd.R_alloc | apply Kd.R_drewN | apply Kd.R_drew)); exact HO_7.out⟩, ⟨by (with_reducible repeat (first | apply Kd.R_alloc | apply Kd.R_drewN | apply Kd.R_drew)); exact HO_9.out⟩, ⟨by (with_reducible repeat (first | refine blk_drewN ?_ _ | refine blk_drew ?_ | refine blk_alloc ?_ _)); exact BK157.out⟩, ⟨by (with_reducible repeat (first | refine blk_drewN ?_ _ | refine blk_drew ?_ | refine blk_alloc ?_ _)); exact BK158.out⟩, ⟨by repeat (first | (with_reducible first | exact HB.out | apply below_alloc | apply pw_below_drewN | apply below_drew1 | refine below_set ?_ GE157.out | refine below_set ?_ GE158.out) | exact HB.out)⟩⟩
                            · rw [if_neg c42] at H
                              have c42b0 : ((t164.length : Int) == (l0.length : Int)) = false := beq_eq_false_iff_ne.mpr c42
                              have c42b1 : ((t164.length : Int) != (l0.length : Int)) = true := bne_iff_ne.mpr c42
                              have c42b2 : (t164.length == l0.length) = false := by first | simpa using c42 | (simp at c42 ⊢; omega)
                              obtain rfl := Option.some.inj H
                              obtain ⟨Ao44, co44, eo44⟩ := Kd.R_slice HO_9.out
                              subst eo44
                              go_wp2
                              repeat (go_quiet (fail); try go_wp2)
                              go_ret
                              exact ⟨by first | rfl | (simp [errW_none, errW_some] <;> rfl) | (simp [*, errW_none, errW_some] <;> rfl), by repeat (first | (with_reducible first | exact HB.out | apply below_alloc | apply pw_below_drewN | apply below_drew1 | refine below_set ?_ GE157.out | refine below_set ?_ GE158.out) | exact HB.out)⟩
                          · rw [if_neg c41] at H
                            have c41b0 : (t167 == 0) = false := beq_eq_false_iff_ne.mpr c41
                            have c41b1 : (t167 != 0) = true := bne_iff_ne.mpr c41
                            have H' := Aside0.mk H
                            clear H
                            go_wp2
                            repeat (go_quiet (fail); try go_wp2)
                            go_roundg kj27
                            case measure => have := HK1.out; have := HJ20.out; have := HJ27.out; omega
                            case rel => exact ⟨(wrap64 (x32_1 + 1)), (by first | rfl | (simp; done) | (simp [*]; done)), H', ⟨by have := HK1.out; have := HJ20.out; have := HJ27.out; omega⟩, ⟨by (with_reducible repeat (first | apply Kd.R_alloc | apply Kd.R_drewN | apply Kd.R_drew)); exact HO_7.out⟩, ⟨by (with_reducible repeat (first | apply Kd.R_alloc | apply Kd.R_drewN | apply Kd.R_drew)); exact HO_9.out⟩, ⟨by (with_reducible repeat (first | refine blk_drewN ?_ _ | refine blk_drew ?_ | refine blk_alloc ?_ _)); exact BK157.out⟩, ⟨by (with_reducible repeat (first | refine blk_drewN ?_ _ | refine blk_drew ?_ | refine blk_alloc ?_ _)); exact BK158.out⟩, ⟨by repeat (first | (with_reducible first | exact HB.out | apply below_alloc | apply pw_below_drewN | apply below_drew1 | refine below_set ?_ GE157.out | refine below_set ?_ GE158.out) | exact HB.out)⟩⟩
                        · rw [if_neg c40] at H
                          have c40b0 : decide (x32_1 < 14) = false := decide_eq_false c40
                          clear c40
                          by_cases c45 : x32_1 ≥ 28
                          · rw [if_pos c45] at H
                            have c45b0 : decide (28 ≤ x32_1) = true := decide_eq_true c45
                            clear c45
                            by_cases c46 : t167 = 0
                            · rw [if_pos c46] at H
                              have c46b0 : (t167 == 0) = true := beq_iff_eq.mpr c46
                              have c46b1 : (t167 != 0) = false := bne_eq_false_iff_eq.mpr c46
                              clear c46
                              by_cases c47 : (t164.length : Int) = (l0.length : Int)
                              · rw [if_pos c47] at H
                                have c47b0 : ((t164.length : Int) == (l0.length : Int)) = true := beq_iff_eq.mpr c47
                                have c47b1 : ((t164.length : Int) != (l0.length : Int)) = false := bne_eq_false_iff_eq.mpr c47
                                have c47b2 : (t164.length == l0.length) = true := by first | simpa using c47 | (simp at c47 ⊢; omega)
                                clear c47
                                by_cases c48 : x32_1 < 32
                                · rw [if_pos c48] at H
                                  have c48b0 : decide (x32_1 < 32) = true := decide_eq_true c48
                                  clear c48
                                  have H' := Aside0.mk H
                                  clear H
                                  obtain ⟨Ao49, co49, eo49⟩ := Kd.R_slice HO_9.out
                                  subst eo49
                                  go_wp2
                                  repeat (go_quiet (fail); try go_wp2)
                                  go_roundg kj27
                                  case measure => have := HK1.out; have := HJ20.out; have := HJ27.out; omega
                                  case rel => exact ⟨(wrap64 (x32_1 + 1)), (by first | rfl | (simp; done) | (simp [*]; done)), H', ⟨by have := HK1.out; have := HJ20.out; have := HJ27.out; omega⟩, ⟨by (with_reducible repeat (first | apply Kd.R_alloc | apply Kd.R_drewN | apply Kd.R_drew)); exact HO_7.out⟩, ⟨by (with_reducible repeat (first | apply Kd.R_alloc | apply Kd.R_drewN | apply Kd.R_drew)); exact HO_9.out⟩, ⟨by (with_reducible repeat (first | refine blk_drewN ?_ _ | refine blk_drew ?_ | refine blk_alloc ?_ _)); exact BK157.out⟩, ⟨by (with_reducible repeat (first | refine blk_drewN ?_ _ | refine blk_drew ?_ | refine blk_alloc ?_ _)); exact BK158.out⟩, ⟨by repeat (first | (with_reducible first | exact HB.out | apply below_alloc | apply pw_below_drewN | apply below_drew1 | refine below_set ?_ GE157.out | refine below_set ?_ GE158.out) | exact HB.out)⟩⟩
                                · rw [if_neg c48] at H
                                  have c48b0 : decide (x32_1 < 32) = false := decide_eq_false c48
                                  clear c48
                                  by_cases c50 : 0 ≤ x32_1
                                  · rw [if_pos c50] at H
                                    have c50b0 : decide (0 ≤ x32_1) = true := decide_eq_true c50
                                    clear c50
                                    by_cases c51 : x32_1 < (t164.length : Int)
                                    · rw [if_pos c51] at H
                                      have c51b0 : decide (x32_1 < (t164.length : Int)) = true := decide_eq_true c51
                                      clear c51
                                      by_cases c52 : x32_1 < (l0.length : Int)
                                      · rw [if_pos c52] at H
                                        have c52b0 : decide (x32_1 < (l0.length : Int)) = true := decide_eq_true c52
                                        clear c52
                                        by_cases c53 : (rd t164 x32_1) = (rd l0 x32_1)
                                        · rw [if_pos c53] at H
                                          have c53b0 : ((rd t164 x32_1) == (rd l0 x32_1)) = true := beq_iff_eq.mpr c53
                                          have c53b1 : ((rd t164 x32_1) != (rd l0 x32_1)) = false := bne_eq_false_iff_eq.mpr c53
                                          clear c53
                                          have H' := Aside0.mk H
                                          clear H
                                          obtain ⟨Ao54, co54, eo54⟩ := Kd.R_slice HO_9.out
                                          subst eo54
                                          have p170 : 0 ≤ (x32_1 : Int) := of_decide_eq_true (by first | (with_reducible assumption) | assumption)
                                          have q170 : x32_1 < (t164.length : Int) := of_decide_eq_true (by first | (with_reducible assumption) | assumption)
                                          obtain ⟨ad170, e170, hx170_0⟩ := Kd.at_int (Kd.R_reads' HO_9.out).2.2 x32_1 p170 q170
                                          cases e170
                                          replace p170 := eq_true p170
                                          replace q170 := eq_true q170
                                          have p171 : 0 ≤ (x32_1 : Int) := of_decide_eq_true (by first | (with_reducible assumption) | assumption)
                                          have q171 : x32_1 < (l0.length : Int) := of_decide_eq_true (by first | (with_reducible assumption) | assumption)
                                          obtain ⟨ad171, e171, hx171_0⟩ := Kd.at_int HR0.out x32_1 p171 q171
                                          cases e171
                                          replace hx171_0 := (HB.out.cell (World.block_lt_of_cell? w _ hx171_0)).trans hx171_0
                                          replace p171 := eq_true p171
                                          replace q171 := eq_true q171
                                          go_wp2
                                          repeat (go_quiet (fail); try go_wp2)
                                          go_roundg kj27
                                          case measure => have := HK1.out; have := HJ20.out; have := HJ27.out; omega
                                          case rel => exact ⟨(wrap64 (x32_1 + 1)), (by first | rfl | (simp; done) | (simp [*]; done)), H', ⟨by have := HK1.out; have := HJ20.out; have := HJ27.out; omega⟩, ⟨by (with_reducible repeat (first | apply Kd.R_alloc | apply Kd.R_drewN | apply Kd.R_drew)); exact HO_7.out⟩, ⟨by (with_reducible repeat (first | apply Kd.R_alloc | apply Kd.R_drewN | apply Kd.R_drew)); exact HO_9.out⟩, ⟨by (with_reducible repeat (first | refine blk_drewN ?_ _ | refine blk_drew ?_ | refine blk_alloc ?_ _)); exact BK157.out⟩, ⟨by (with_reducible repeat (first | refine blk_drewN ?_ _ | refine blk_drew ?_ | refine blk_alloc ?_ _)); exact BK158.out⟩, ⟨by repeat (first | (with_reducible first | exact HB.out | apply below_alloc | apply pw_below_drewN | apply below_drew1 | refine below_set ?_ GE157.out | refine below_set ?_ GE158.out) | exact HB.out)⟩⟩
                                        · rw [if_neg c53] at H
                                          have c53b0 : ((rd t164 x32_1) == (rd l0 x32_1)) = false := beq_eq_false_iff_ne.mpr c53
                                          have c53b1 : ((rd t164 x32_1) != (rd l0 x32_1)) = true := bne_iff_ne.mpr c53
                                          obtain rfl := Option.some.inj H
                                          obtain ⟨Ao55, co55, eo55⟩ := Kd.R_slice HO_9.out
                                          subst eo55
                                          have p170 : 0 ≤ (x32_1 : Int) := of_decide_eq_true (by first | (with_reducible assumption) | assumption)
                                          have q170 : x32_1 < (t164.length : Int) := of_decide_eq_true (by first | (with_reducible assumption) | assumption)
                                          obtain ⟨ad170, e170, hx170_0⟩ := Kd.at_int (Kd.R_reads' HO_9.out).2.2 x32_1 p170 q170
                                          cases e170
                                          replace p170 := eq_true p170
                                          replace q170 := eq_true q170
                                          have p171 : 0 ≤ (x32_1 : Int) := of_decide_eq_true (by first | (with_reducible assumption) | assumption)
                                          have q171 : x32_1 < (l0.length : Int) := of_decide_eq_true (by first | (with_reducible assumption) | assumption)
                                          obtain ⟨ad171, e171, hx171_0⟩ := Kd.at_int HR0.out x32_1 p171 q171
                                          cases e171
                                          replace hx171_0 := (HB.out.cell (World.block_lt_of_cell? w _ hx171_0)).trans hx171_0
                                          replace p171 := eq_true p171
                                          replace q171 := eq_true q171
                                          go_wp2
                                          repeat (go_quiet (fail); try go_wp2)
                                          go_ret
                                          exact ⟨by first | rfl | (simp [errW_none, errW_some] <;> rfl) | (simp [*, errW_none, errW_some] <;> rfl), by repeat (first | (with_reducible first | exact HB.out | apply below_alloc | apply pw_below_drewN | apply below_drew1 | refine below_set ?_ GE157.out | refine below_set ?_ GE158.out) | exact HB.out)⟩
                                      · rw [if_neg c52] at H
                                        exact absurd H (by simp)
                                    · rw [if_neg c51] at H
                                      exact absurd H (by simp)
                                  · rw [if_neg c50] at H
                                    exact absurd H (by simp)
                              · rw [if_neg c47] at H
                                have c47b0 : ((t164.length : Int) == (l0.length : Int)) = false := beq_eq_false_iff_ne.mpr c47
                                have c47b1 : ((t164.length : Int) != (l0.length : Int)) = true := bne_iff_ne.mpr c47
                                have c47b2 : (t164.length == l0.length) = false := by first | simpa using c47 | (simp at c47 ⊢; omega)
                                obtain rfl := Option.some.inj H
                                obtain ⟨Ao56, co56, eo56⟩ := Kd.R_slice HO_9.out
                                subst eo56
                                go_wp2
                                repeat (go_quiet (fail); try go_wp2)
                                go_ret
                                exact ⟨by first | rfl | (simp [errW_none, errW_some] <;> rfl) | (simp [*, errW_none, errW_some] <;> rfl), by repeat (first | (with_reducible first | exact HB.out | apply below_alloc | apply pw_below_drewN | apply below_drew1 | refine below_set ?_ GE157.out | refine below_set ?_ GE158.out) | exact HB.out)⟩
                            · rw [if_neg c46] at H
                              have c46b0 : (t167 == 0) = false := beq_eq_false_iff_ne.mpr c46
                              have c46b1 : (t167 != 0) = true := bne_iff_ne.mpr c46
                              have H' := Aside0.mk H
                              clear H
                              go_wp2
                              repeat (go_quiet (fail); try go_wp2)
                              go_roundg kj27
                              case measure => have := HK1.out; have := HJ20.out; have := HJ27.out; omega
                              case rel => exact ⟨(wrap64 (x32_1 + 1)), (by first | rfl | (simp; done) | (simp [*]; done)), H', ⟨by have := HK1.out; have := HJ20.out; have := HJ27.out; omega⟩, ⟨by (with_reducible repeat (first | apply Kd.R_alloc | apply Kd.R_drewN | apply Kd.R_drew)); exact HO_7.out⟩, ⟨by (with_reducible repeat (first | apply Kd.R_alloc | apply Kd.R_drewN | apply Kd.R_drew)); exact HO_9.out⟩, ⟨by (with_reducible repeat (first | refine blk_drewN ?_ _ | refine blk_drew ?_ | refine blk_alloc ?_ _)); exact BK157.out⟩, ⟨by (with_reducible repeat (first | refine blk_drewN ?_ _ | refine blk_drew ?_ | refine blk_alloc ?_ _)); exact BK158.out⟩, ⟨by repeat (first | (with_reducible first | exact HB.out | apply below_alloc | apply pw_below_drewN | apply below_drew1 | refine below_set ?_ GE157.out | refine below_set ?_ GE158.out) | exact HB.out)⟩⟩
                          · rw [if_neg c45] at H
                            have c45b0 : decide (28 ≤ x32_1) = false := decide_eq_false c45
                            clear c45
                            by_cases c57 : t167 = 0
                            · rw [if_pos c57] at H
                              have c57b0 : (t167 == 0) = true := beq_iff_eq.mpr c57
                              have c57b1 : (t167 != 0) = false := bne_eq_false_iff_eq.mpr c57
                              clear c57
                              by_cases c58 : (t164.length : Int) = (l0.length : Int)
                              · rw [if_pos c58] at H
                                have c58b0 : ((t164.length : Int) == (l0.length : Int)) = true := beq_iff_eq.mpr c58
                                have c58b1 : ((t164.length : Int) != (l0.length : Int)) = false := bne_eq_false_iff_eq.mpr c58
                                have c58b2 : (t164.length == l0.length) = true := by first | simpa using c58 | (simp at c58 ⊢; omega)
                                clear c58
                                by_cases c59 : 0 ≤ x32_1
                                · rw [if_pos c59] at H
                                  have c59b0 : decide (0 ≤ x32_1) = true := decide_eq_true c59
                                  clear c59
                                  by_cases c60 : x32_1 < (t164.length : Int)
                                  · rw [if_pos c60] at H
                                    have c60b0 : decide (x32_1 < (t164.length : Int)) = true := decide_eq_true c60
                                    clear c60
                                    by_cases c61 : x32_1 < (l0.length : Int)
                                    · rw [if_pos c61] at H
                                      have c61b0 : decide (x32_1 < (l0.length : Int)) = true := decide_eq_true c61
                                      clear c61
                                      by_cases c62 : (rd t164 x32_1) = (rd l0 x32_1)
                                      · rw [if_pos c62] at H
                                        have c62b0 : ((rd t164 x32_1) == (rd l0 x32_1)) = true := beq_iff_eq.mpr c62
                                        have c62b1 : ((rd t164 x32_1) != (rd l0 x32_1)) = false := bne_eq_false_iff_eq.mpr c62
                                        clear c62
                                        have H' := Aside0.mk H
                                        clear H
                                        obtain ⟨Ao63, co63, eo63⟩ := Kd.R_slice HO_9.out
                                        subst eo63
                                        have p172 : 0 ≤ (x32_1 : Int) := of_decide_eq_true (by first | (with_reducible assumption) | assumption)
                                        have q172 : x32_1 < (t164.length : Int) := of_decide_eq_true (by first | (with_reducible assumption) | assumption)
                                        obtain ⟨ad172, e172, hx172_0⟩ := Kd.at_int (Kd.R_reads' HO_9.out).2.2 x32_1 p172 q172
                                        cases e172
                                        replace p172 := eq_true p172
                                        replace q172 := eq_true q172
                                        have p173 : 0 ≤ (x32_1 : Int) := of_decide_eq_true (by first | (with_reducible assumption) | assumption)
                                        have q173 : x32_1 < (l0.length : Int) := of_decide_eq_true (by first | (with_reducible assumption) | assumption)
                                        obtain ⟨ad173, e173, hx173_0⟩ := Kd.at_int HR0.out x32_1 p173 q173
                                        cases e173
                                        replace hx173_0 := (HB.out.cell (World.block_lt_of_cell? w _ hx173_0)).trans hx173_0
                                        replace p173 := eq_true p173
                                        replace q173 := eq_true q173
                                        go_wp2
                                        repeat (go_quiet (fail); try go_wp2)
                                        go_roundg kj27
                                        case measure => have := HK1.out; have := HJ20.out; have := HJ27.out; omega
                                        case rel => exact ⟨(wrap64 (x32_1 + 1)), (by first | rfl | (simp; done) | (simp [*]; done)), H', ⟨by have := HK1.out; have := HJ20.out; have := HJ27.out; omega⟩, ⟨by (with_reducible repeat (first | apply Kd.R_alloc | apply Kd.R_drewN | apply Kd.R_drew)); exact HO_7.out⟩, ⟨by (with_reducible repeat (first | apply Kd.R_alloc | apply Kd.R_drewN | apply Kd.R_drew)); exact HO_9.out⟩, ⟨by (with_reducible repeat (first | refine blk_drewN ?_ _ | refine blk_drew ?_ | refine blk_alloc ?_ _)); exact BK157.out⟩, ⟨by (with_reducible repeat (first | refine blk_drewN ?_ _ | refine blk_drew ?_ | refine blk_alloc ?_ _)); exact BK158.out⟩, ⟨by repeat (first | (with_reducible first | exact HB.out | apply below_alloc | apply pw_below_drewN | apply below_drew1 | refine below_set ?_ GE157.out | refine below_set ?_ GE158.out) | exact HB.out)⟩⟩
                                      · rw [if_neg c62] at H
                                        have c62b0 : ((rd t164 x32_1) == (rd l0 x32_1)) = false := beq_eq_false_iff_ne.mpr c62
                                        have c62b1 : ((rd t164 x32_1) != (rd l0 x32_1)) = true := bne_iff_ne.mpr c62
                                        obtain rfl := Option.some.inj H
                                        obtain ⟨Ao64, co64, eo64⟩ := Kd.R_slice HO_9.out
                                        subst eo64
                                        have p172 : 0 ≤ (x32_1 : Int) := of_decide_eq_true (by first | (with_reducible assumption) | assumption)
                                        have q172 : x32_1 < (t164.length : Int) := of_decide_eq_true (by first | (with_reducible assumption) | assumption)
                                        obtain ⟨ad172, e172, hx172_0⟩ := Kd.at_int (Kd.R_reads' HO_9.out).2.2 x32_1 p172 q172
                                        cases e172
                                        replace p172 := eq_true p172
                                        replace q172 := eq_true q172
                                        have p173 : 0 ≤ (x32_1 : Int) := of_decide_eq_true (by first | (with_reducible assumption) | assumption)
                                        have q173 : x32_1 < (l0.length : Int) := of_decide_eq_true (by first | (with_reducible assumption) | assumption)
                                        obtain ⟨ad173, e173, hx173_0⟩ := Kd.at_int HR0.out x32_1 p173 q173
                                        cases e173
                                        replace hx173_0 := (HB.out.cell (World.block_lt_of_cell? w _ hx173_0)).trans hx173_0
                                        replace p173 := eq_true p173
                                        replace q173 := eq_true q173
                                        go_wp2
                                        repeat (go_quiet (fail); try go_wp2)
                                        go_ret
                                        exact ⟨by first | rfl | (simp [errW_none, errW_some] <;> rfl) | (simp [*, errW_none, errW_some] <;> rfl), by repeat (first | (with_reducible first | exact HB.out | apply below_alloc | apply pw_below_drewN | apply below_drew1 | refine below_set ?_ GE157.out | refine below_set ?_ GE158.out) | exact HB.out)⟩
                                    · rw [if_neg c61] at H
                                      exact absurd H (by simp)
                                  · rw [if_neg c60] at H
                                    exact absurd H (by simp)
                                · rw [if_neg c59] at H
                                  exact absurd H (by simp)
                              · rw [if_neg c58] at H
                                have c58b0 : ((t164.length : Int) == (l0.length : Int)) = false := beq_eq_false_iff_ne.mpr c58
                                have c58b1 : ((t164.length : Int) != (l0.length : Int)) = true := bne_iff_ne.mpr c58
                                have c58b2 : (t164.length == l0.length) = false := by first | simpa using c58 | (simp at c58 ⊢; omega)
                                obtain rfl := Option.some.inj H
                                obtain ⟨Ao65, co65, eo65⟩ := Kd.R_slice HO_9.out
                                subst eo65
                                go_wp2
                                repeat (go_quiet (fail); try go_wp2)
                                go_ret
                                exact ⟨by first | rfl | (simp [errW_none, errW_some] <;> rfl) | (simp [*, errW_none, errW_some] <;> rfl), by repeat (first | (with_reducible first | exact HB.out | apply below_alloc | apply pw_below_drewN | apply below_drew1 | refine below_set ?_ GE157.out | refine below_set ?_ GE158.out) | exact HB.out)⟩
                            · rw [if_neg c57] at H
                              have c57b0 : (t167 == 0) = false := beq_eq_false_iff_ne.mpr c57
                              have c57b1 : (t167 != 0) = true := bne_iff_ne.mpr c57
                              have H' := Aside0.mk H
                              clear H
                              go_wp2
                              repeat (go_quiet (fail); try go_wp2)
                              go_roundg kj27
                              case measure => have := HK1.out; have := HJ20.out; have := HJ27.out; omega
                              case rel => exact ⟨(wrap64 (x32_1 + 1)), (by first | rfl | (simp; done) | (simp [*]; done)), H', ⟨by have := HK1.out; have := HJ20.out; have := HJ27.out; omega⟩, ⟨by (with_reducible repeat (first | apply Kd.R_alloc | apply Kd.R_drewN | apply Kd.R_drew)); exact HO_7.out⟩, ⟨by (with_reducible repeat (first | apply Kd.R_alloc | apply Kd.R_drewN | apply Kd.R_drew)); exact HO_9.out⟩, ⟨by (with_reducible repeat (first | refine blk_drewN ?_ _ | refine blk_drew ?_ | refine blk_alloc ?_ _)); exact BK157.out⟩, ⟨by (with_reducible repeat (first | refine blk_drewN ?_ _ | refine blk_drew ?_ | refine blk_alloc ?_ _)); exact BK158.out⟩, ⟨by repeat (first | (with_reducible first | exact HB.out | apply below_alloc | apply pw_below_drewN | apply below_drew1 | refine below_set ?_ GE157.out | refine below_set ?_ GE158.out) | exact HB.out)⟩⟩
                      · rw [if_neg c39] at H
                        have c39b0 : decide (4 ≤ x32_1) = false := decide_eq_false c39
                        clear c39
                        by_cases c66 : x32_1 ≥ 28
                        · rw [if_pos c66] at H
                          have c66b0 : decide (28 ≤ x32_1) = true := decide_eq_true c66
                          clear c66
                          by_cases c67 : t167 = 0
                          · rw [if_pos c67] at H
                            have c67b0 : (t167 == 0) = true := beq_iff_eq.mpr c67
                            have c67b1 : (t167 != 0) = false := bne_eq_false_iff_eq.mpr c67
                            clear c67
                            by_cases c68 : (t164.length : Int) = (l0.length : Int)
                            · rw [if_pos c68] at H
                              have c68b0 : ((t164.length : Int) == (l0.length : Int)) = true := beq_iff_eq.mpr c68
                              have c68b1 : ((t164.length : Int) != (l0.length : Int)) = false := bne_eq_false_iff_eq.mpr c68
                              have c68b2 : (t164.length == l0.length) = true := by first | simpa using c68 | (simp at c68 ⊢; omega)
                              clear c68
                              by_cases c69 : x32_1 < 32
                              · rw [if_pos c69] at H
                                have c69b0 : decide (x32_1 < 32) = true := decide_eq_true c69
                                clear c69
                                have H' := Aside0.mk H
                                clear H
                                obtain ⟨Ao70, co70, eo70⟩ := Kd.R_slice HO_9.out
                                subst eo70
                                go_wp2
                                repeat (go_quiet (fail); try go_wp2)
                                go_roundg kj27
                                case measure => have := HK1.out; have := HJ20.out; have := HJ27.out; omega
                                case rel => exact ⟨(wrap64 (x32_1 + 1)), (by first | rfl | (simp; done) | (simp [*]; done)), H', ⟨by have := HK1.out; have := HJ20.out; have := HJ27.out; omega⟩, ⟨by (with_reducible repeat (first | apply Kd.R_alloc | apply Kd.R_drewN | apply Kd.R_drew)); exact HO_7.out⟩, ⟨by (with_reducible repeat (first | apply Kd.R_alloc | apply Kd.R_drewN | apply Kd.R_drew)); exact HO_9.out⟩, ⟨by (with_reducible repeat (first | refine blk_drewN ?_ _ | refine blk_drew ?_ | refine blk_alloc ?_ _)); exact BK157.out⟩, ⟨by (with_reducible repeat (first | refine blk_drewN ?_ _ | refine blk_drew ?_ | refine blk_alloc ?_ _)); exact BK158.out⟩, ⟨by repeat (first | (with_reducible first | exact HB.out | apply below_alloc | apply pw_below_drewN | apply below_drew1 | refine below_set ?_ GE157.out | refine below_set ?_ GE158.out) | exact HB.out)⟩⟩
                              · rw [if_neg c69] at H
                                have c69b0 : decide (x32_1 < 32) = false := decide_eq_false c69
                                clear c69
                                by_cases c71 : 0 ≤ x32_1
                                · rw [if_pos c71] at H
                                  have c71b0 : decide (0 ≤ x32_1) = true := decide_eq_true c71
                                  clear c71
                                  by_cases c72 : x32_1 < (t164.length : Int)
                                  · rw [if_pos c72] at H
                                    have c72b0 : decide (x32_1 < (t164.length : Int)) = true := decide_eq_true c72
                                    clear c72
                                    by_cases c73 : x32_1 < (l0.length : Int)
                                    · rw [if_pos c73] at H
                                      have c73b0 : decide (x32_1 < (l0.length : Int)) = true := decide_eq_true c73
                                      clear c73
                                      by_cases c74 : (rd t164 x32_1) = (rd l0 x32_1)
                                      · rw [if_pos c74] at H
                                        have c74b0 : ((rd t164 x32_1) == (rd l0 x32_1)) = true := beq_iff_eq.mpr c74
                                        have c74b1 : ((rd t164 x32_1) != (rd l0 x32_1)) = false := bne_eq_false_iff_eq.mpr c74
                                        clear c74
                                        have H' := Aside0.mk H
                                        clear H
                                        obtain ⟨Ao75, co75, eo75⟩ := Kd.R_slice HO_9.out
                                        subst eo75
                                        have p174 : 0 ≤ (x32_1 : Int) := of_decide_eq_true (by first | (with_reducible assumption) | assumption)
                                        have q174 : x32_1 < (t164.length : Int) := of_decide_eq_true (by first | (with_reducible assumption) | assumption)
                                        obtain ⟨ad174, e174, hx174_0⟩ := Kd.at_int (Kd.R_reads' HO_9.out).2.2 x32_1 p174 q174
                                        cases e174
                                        replace p174 := eq_true p174
                                        replace q174 := eq_true q174
                                        have p175 : 0 ≤ (x32_1 : Int) := of_decide_eq_true (by first | (with_reducible assumption) | assumption)
                                        have q175 : x32_1 < (l0.length : Int) := of_decide_eq_true (by first | (with_reducible assumption) | assumption)
                                        obtain ⟨ad175, e175, hx175_0⟩ := Kd.at_int HR0.out x32_1 p175 q175
                                        cases e175
                                        replace hx175_0 := (HB.out.cell (World.block_lt_of_cell? w _ hx175_0)).trans hx175_0
                                        replace p175 := eq_true p175
                                        replace q175 := eq_true q175
                                        go_wp2
                                        repeat (go_quiet (fail); try go_wp2)
                                        go_roundg kj27
                                        case measure => have := HK1.out; have := HJ20.out; have := HJ27.out; omega
                                        case rel => exact ⟨(wrap64 (x32_1 + 1)), (by first | rfl | (simp; done) | (simp [*]; done)), H', ⟨by have := HK1.out; have := HJ20.out; have := HJ27.out; omega⟩, ⟨by (with_reducible repeat (first | apply Kd.R_alloc | apply Kd.R_drewN | apply Kd.R_drew)); exact HO_7.out⟩, ⟨by (with_reducible repeat (first | apply Kd.R_alloc | apply Kd.R_drewN | apply Kd.R_drew)); exact HO_9.out⟩, ⟨by (with_reducible repeat (first | refine blk_drewN ?_ _ | refine blk_drew ?_ | refine blk_alloc ?_ _)); exact BK157.out⟩, ⟨by (with_reducible repeat (first | refine blk_drewN ?_ _ | refine blk_drew ?_ | refine blk_alloc ?_ _)); exact BK158.out⟩, ⟨by repeat (first | (with_reducible first | exact HB.out | apply below_alloc | apply pw_below_drewN | apply below_drew1 | refine below_set ?_ GE157.out | refine below_set ?_ GE158.out) | exact HB.out)⟩⟩
                                      · rw [if_neg c74] at H
                                        have c74b0 : ((rd t164 x32_1) == (rd l0 x32_1)) = false := beq_eq_false_iff_ne.mpr c74
                                        have c74b1 : ((rd t164 x32_1) != (rd l0 x32_1)) = true := bne_iff_ne.mpr c74
                                        obtain rfl := Option.some.inj H
                                        obtain ⟨Ao76, co76, eo76⟩ := Kd.R_slice HO_9.out
                                        subst eo76
                                        have p174 : 0 ≤ (x32_1 : Int) := of_decide_eq_true (by first | (with_reducible assumption) | assumption)
                                        have q174 : x32_1 < (t164.length : Int) := of_decide_eq_true (by first | (with_reducible assumption) | assumption)
                                        obtain ⟨ad174, e174, hx174_0⟩ := Kd.at_int (Kd.R_reads' HO_9.out).2.2 x32_1 p174 q174
                                        cases e174
                                        replace p174 := eq_true p174
                                        replace q174 := eq_true q174
                                        have p175 : 0 ≤ (x32_1 : Int) := of_decide_eq_true (by first | (with_reducible assumption) | assumption)
                                        have q175 : x32_1 < (l0.length : Int) := of_decide_eq_true (by first | (with_reducible assumption) | assumption)
                                        obtain ⟨ad175, e175, hx175_0⟩ := Kd.at_int HR0.out x32_1 p175 q175
                                        cases e175
                                        replace hx175_0 := (HB.out.cell (World.block_lt_of_cell? w _ hx175_0)).trans hx175_0
                                        replace p175 := eq_true p175
                                        replace q175 := eq_true q175
                                        go_wp2
                                        repeat (go_quiet (fail); try go_wp2)
                                        go_ret
                                        exact ⟨by first | rfl | (simp [errW_none, errW_some] <;> rfl) | (simp [*, errW_none, errW_some] <;> rfl), by repeat (first | (with_reducible first | exact HB.out | apply below_alloc | apply pw_below_drewN | apply below_drew1 | refine below_set ?_ GE157.out | refine below_set ?_ GE158.out) | exact HB.out)⟩
                                    · rw [if_neg c73] at H
                                      exact absurd H (by simp)
                                  · rw [if_neg c72] at H
                                    exact absurd H (by simp)
                                · rw [if_neg c71] at H
                                  exact absurd H (by simp)
                            · rw [if_neg c68] at H
                              have c68b0 : ((t164.length : Int) == (l0.length : Int)) = false := beq_eq_false_iff_ne.mpr c68
                              have c68b1 : ((t164.length : Int) != (l0.length : Int)) = true := bne_iff_ne.mpr c68
                              have c68b2 : (t164.length == l0.length) = false := by first | simpa using c68 | (simp at c68 ⊢; omega)
                              obtain rfl := Option.some.inj H
                              obtain ⟨Ao77, co77, eo77⟩ := Kd.R_slice HO_9.out
                              subst eo77
                              go_wp2
                              repeat (go_quiet (fail); try go_wp2)
                              go_ret
                              exact ⟨by first | rfl | (simp [errW_none, errW_some] <;> rfl) | (simp [*, errW_none, errW_some] <;> rfl), by repeat (first | (with_reducible first | exact HB.out | apply below_alloc | apply pw_below_drewN | apply below_drew1 | refine below_set ?_ GE157.out | refine below_set ?_ GE158.out) | exact HB.out)⟩
                          · rw [if_neg c67] at H
                            have c67b0 : (t167 == 0) = false := beq_eq_false_iff_ne.mpr c67
                            have c67b1 : (t167 != 0) = true := bne_iff_ne.mpr c67
                            have H' := Aside0.mk H
                            clear H
                            go_wp2
                            repeat (go_quiet (fail); try go_wp2)
                            go_roundg kj27
                            case measure => have := HK1.out; have := HJ20.out; have := HJ27.out; omega
                            case rel => exact ⟨(wrap64 (x32_1 + 1)), (by first | rfl | (simp; done) | (simp [*]; done)), H', ⟨by have := HK1.out; have := HJ20.out; have := HJ27.out; omega⟩, ⟨by (with_reducible repeat (first | apply Kd.R_alloc | apply Kd.R_drewN | apply Kd.R_drew)); exact HO_7.out⟩, ⟨by (with_reducible repeat (first | apply Kd.R_alloc | apply Kd.R_drewN | apply Kd.R_drew)); exact HO_9.out⟩, ⟨by (with_reducible repeat (first | refine blk_drewN ?_ _ | refine blk_drew ?_ | refine blk_alloc ?_ _)); exact BK157.out⟩, ⟨by (with_reducible repeat (first | refine blk_drewN ?_ _ | refine blk_drew ?_ | refine blk_alloc ?_ _)); exact BK158.out⟩, ⟨by repeat (first | (with_reducible first | exact HB.out | apply below_alloc | apply pw_below_drewN | apply below_drew1 | refine below_set ?_ GE157.out | refine below_set ?_ GE158.out) | exact HB.out)⟩⟩
                        · rw [if_neg c66] at H
                          have c66b0 : decide (28 ≤ x32_1) = false := decide_eq_false c66
                          clear c66
                          by_cases c78 : t167 = 0
                          · rw [if_pos c78] at H
                            have c78b0 : (t167 == 0) = true := beq_iff_eq.mpr c78
                            have c78b1 : (t167 != 0) = false := bne_eq_false_iff_eq.mpr c78
                            clear c78
                            by_cases c79 : (t164.length : Int) = (l0.length : Int)
                            · rw [if_pos c79] at H
                              have c79b0 : ((t164.length : Int) == (l0.length : Int)) = true := beq_iff_eq.mpr c79
                              have c79b1 : ((t164.length : Int) != (l0.length : Int)) = false := bne_eq_false_iff_eq.mpr c79
                              have c79b2 : (t164.length == l0.length) = true := by first | simpa using c79 | (simp at c79 ⊢; omega)
                              clear c79
                              by_cases c80 : 0 ≤ x32_1
                              · rw [if_pos c80] at H
                                have c80b0 : decide (0 ≤ x32_1) = true := decide_eq_true c80
                                clear c80
                                by_cases c81 : x32_1 < (t164.length : Int)
                                · rw [if_pos c81] at H
                                  have c81b0 : decide (x32_1 < (t164.length : Int)) = true := decide_eq_true c81
                                  clear c81
                                  by_cases c82 : x32_1 < (l0.length : Int)
                                  · rw [if_pos c82] at H
                                    have c82b0 : decide (x32_1 < (l0.length : Int)) = true := decide_eq_true c82
                                    clear c82
                                    by_cases c83 : (rd t164 x32_1) = (rd l0 x32_1)
                                    · rw [if_pos c83] at H
                                      have c83b0 : ((rd t164 x32_1) == (rd l0 x32_1)) = true := beq_iff_eq.mpr c83
                                      have c83b1 : ((rd t164 x32_1) != (rd l0 x32_1)) = false := bne_eq_false_iff_eq.mpr c83
                                      clear c83
                                      have H' := Aside0.mk H
                                      clear H
                                      obtain ⟨Ao84, co84, eo84⟩ := Kd.R_slice HO_9.out
                                      subst eo84
                                      have p176 : 0 ≤ (x32_1 : Int) := of_decide_eq_true (by first | (with_reducible assumption) | assumption)
                                      have q176 : x32_1 < (t164.length : Int) := of_decide_eq_true (by first | (with_reducible assumption) | assumption)
                                      obtain ⟨ad176, e176, hx176_0⟩ := Kd.at_int (Kd.R_reads' HO_9.out).2.2 x32_1 p176 q176
                                      cases e176
                                      replace p176 := eq_true p176
                                      replace q176 := eq_true q176
                                      have p177 : 0 ≤ (x32_1 : Int) := of_decide_eq_true (by first | (with_reducible assumption) | assumption)
                                      have q177 : x32_1 < (l0.length : Int) := of_decide_eq_true (by first | (with_reducible assumption) | assumption)
                                      obtain ⟨ad177, e177, hx177_0⟩ := Kd.at_int HR0.out x32_1 p177 q177
                                      cases e177
                                      replace hx177_0 := (HB.out.cell (World.block_lt_of_cell? w _ hx177_0)).trans hx177_0
                                      replace p177 := eq_true p177
                                      replace q177 := eq_true q177
                                      go_wp2
                                      repeat (go_quiet (fail); try go_wp2)
                                      go_roundg kj27
                                      case measure => have := HK1.out; have := HJ20.out; have := HJ27.out; omega
                                      case rel => exact ⟨(wrap64 (x32_1 + 1)), (by first | rfl | (simp; done) | (simp [*]; done)), H', ⟨by have := HK1.out; have := HJ20.out; have := HJ27.out; omega⟩, ⟨by (with_reducible repeat (first | apply Kd.R_alloc | apply Kd.R_drewN | apply Kd.R_drew)); exact HO_7.out⟩, ⟨by (with_reducible repeat (first | apply Kd.R_alloc | apply Kd.R_drewN | apply Kd.R_drew)); exact HO_9.out⟩, ⟨by (with_reducible repeat (first | refine blk_drewN ?_ _ | refine blk_drew ?_ | refine blk_alloc ?_ _)); exact BK157.out⟩, ⟨by (with_reducible repeat (first | refine blk_drewN ?_ _ | refine blk_drew ?_ | refine blk_alloc ?_ _)); exact BK158.out⟩, ⟨by repeat (first | (with_reducible first | exact HB.out | apply below_alloc | apply pw_below_drewN | apply below_drew1 | refine below_set ?_ GE157.out | refine below_set ?_ GE158.out) | exact HB.out)⟩⟩
                                    · rw [if_neg c83] at H
                                      have c83b0 : ((rd t164 x32_1) == (rd l0 x32_1)) = false := beq_eq_false_iff_ne.mpr c83
                                      have c83b1 : ((rd t164 x32_1) != (rd l0 x32_1)) = true := bne_iff_ne.mpr c83
                                      obtain rfl := Option.some.inj H
                                      obtain ⟨Ao85, co85, eo85⟩ := Kd.R_slice HO_9.out
                                      subst eo85
                                      have p176 : 0 ≤ (x32_1 : Int) := of_decide_eq_true (by first | (with_reducible assumption) | assumption)
                                      have q176 : x32_1 < (t164.length : Int) := of_decide_eq_true (by first | (with_reducible assumption) | assumption)
                                      obtain ⟨ad176, e176, hx176_0⟩ := Kd.at_int (Kd.R_reads' HO_9.out).2.2 x32_1 p176 q176
                                      cases e176
                                      replace p176 := eq_true p176
                                      replace q176 := eq_true q176
                                      have p177 : 0 ≤ (x32_1 : Int) := of_decide_eq_true (by first | (with_reducible assumption) | assumption)
                                      have q177 : x32_1 < (l0.length : Int) := of_decide_eq_true (by first | (with_reducible assumption) | assumption)
                                      obtain ⟨ad177, e177, hx177_0⟩ := Kd.at_int HR0.out x32_1 p177 q177
                                      cases e177
                                      replace hx177_0 := (HB.out.cell (World.block_lt_of_cell? w _ hx177_0)).trans hx177_0
                                      replace p177 := eq_true p177
                                      replace q177 := eq_true q177
                                      go_wp2
                                      repeat (go_quiet (fail); try go_wp2)
                                      go_ret
                                      exact ⟨by first | rfl | (simp [errW_none, errW_some] <;> rfl) | (simp [*, errW_none, errW_some] <;> rfl), by repeat (first | (with_reducible first | exact HB.out | apply below_alloc | apply pw_below_drewN | apply below_drew1 | refine below_set ?_ GE157.out | refine below_set ?_ GE158.out) | exact HB.out)⟩
                                  · rw [if_neg c82] at H
                                    exact absurd H (by simp)
                                · rw [if_neg c81] at H
                                  exact absurd H (by simp)
                              · rw [if_neg c80] at H
                                exact absurd H (by simp)
                            · rw [if_neg c79] at H
                              have c79b0 : ((t164.length : Int) == (l0.length : Int)) = false := beq_eq_false_iff_ne.mpr c79
                              have c79b1 : ((t164.length : Int) != (l0.length : Int)) = true := bne_iff_ne.mpr c79
                              have c79b2 : (t164.length == l0.length) = false := by first | simpa using c79 | (simp at c79 ⊢; omega)
                              obtain rfl := Option.some.inj H
                              obtain ⟨Ao86, co86, eo86⟩ := Kd.R_slice HO_9.out
                              subst eo86
                              go_wp2
                              repeat (go_quiet (fail); try go_wp2)
                              go_ret
                              exact ⟨by first | rfl | (simp [errW_none, errW_some] <;> rfl) | (simp [*, errW_none, errW_some] <;> rfl), by repeat (first | (with_reducible first | exact HB.out | apply below_alloc | apply pw_below_drewN | apply below_drew1 | refine below_set ?_ GE157.out | refine below_set ?_ GE158.out) | exact HB.out)⟩
                          · rw [if_neg c78] at H
                            have c78b0 : (t167 == 0) = false := beq_eq_false_iff_ne.mpr c78
                            have c78b1 : (t167 != 0) = true := bne_iff_ne.mpr c78
                            have H' := Aside0.mk H
                            clear H
                            go_wp2
                            repeat (go_quiet (fail); try go_wp2)
                            go_roundg kj27
                            case measure => have := HK1.out; have := HJ20.out; have := HJ27.out; omega
                            case rel => exact ⟨(wrap64 (x32_1 + 1)), (by first | rfl | (simp; done) | (simp [*]; done)), H', ⟨by have := HK1.out; have := HJ20.out; have := HJ27.out; omega⟩, ⟨by (with_reducible repeat (first | apply Kd.R_alloc | apply Kd.R_drewN | apply Kd.R_drew)); exact HO_7.out⟩, ⟨by (with_reducible repeat (first | apply Kd.R_alloc | apply Kd.R_drewN | apply Kd.R_drew)); exact HO_9.out⟩, ⟨by (with_reducible repeat (first | refine blk_drewN ?_ _ | refine blk_drew ?_ | refine blk_alloc ?_ _)); exact BK157.out⟩, ⟨by (with_reducible repeat (first | refine blk_drewN ?_ _ | refine blk_drew ?_ | refine blk_alloc ?_ _)); exact BK158.out⟩, ⟨by repeat (first | (with_reducible first | exact HB.out | apply below_alloc | apply pw_below_drewN | apply below_drew1 | refine below_set ?_ GE157.out | refine below_set ?_ GE158.out) | exact HB.out)⟩⟩
          · rw [if_neg c20] at H
            have c20b0 : decide (x32_1 < (l0.length : Int)) = false := decide_eq_false c20
            clear c20
            by_cases c87 : t163 = 0
            · rw [if_pos c87] at H
              have c87b0 : (t163 == 0) = true := beq_iff_eq.mpr c87
              have c87b1 : (t163 != 0) = false := bne_eq_false_iff_eq.mpr c87
              clear c87
              by_cases c88 : t167 = 0
              · rw [if_pos c88] at H
                have c88b0 : (t167 == 0) = true := beq_iff_eq.mpr c88
                have c88b1 : (t167 != 0) = false := bne_eq_false_iff_eq.mpr c88
                clear c88
                obtain rfl := Option.some.inj H
                go_wp2
                repeat (go_quiet (fail); try go_wp2)
                go_ret
                exact ⟨by first | rfl | (simp [errW_none, errW_some] <;> rfl) | (simp [*, errW_none, errW_some] <;> rfl), by repeat (first | (with_reducible first | exact HB.out | apply below_alloc | apply pw_below_drewN | apply below_drew1 | refine below_set ?_ GE157.out | refine below_set ?_ GE158.out) | exact HB.out)⟩
              · rw [if_neg c88] at H
                have c88b0 : (t167 == 0) = false := beq_eq_false_iff_ne.mpr c88
                have c88b1 : (t167 != 0) = true := bne_iff_ne.mpr c88
                obtain rfl := Option.some.inj H
                obtain ⟨Ao89, co89, eo89⟩ := Kd.R_slice HO_9.out
                subst eo89
                go_wp2
                repeat (go_quiet (fail); try go_wp2)
                go_ret
                exact ⟨by first | rfl | (simp [errW_none, errW_some] <;> rfl) | (simp [*, errW_none, errW_some] <;> rfl), by repeat (first | (with_reducible first | exact HB.out | apply below_alloc | apply pw_below_drewN | apply below_drew1 | refine below_set ?_ GE157.out | refine below_set ?_ GE158.out) | exact HB.out)⟩
            · rw [if_neg c87] at H
              have c87b0 : (t163 == 0) = false := beq_eq_false_iff_ne.mpr c87
              have c87b1 : (t163 != 0) = true := bne_iff_ne.mpr c87
              by_cases c90 : (t160.length : Int) = 0
              · rw [if_pos c90] at H
                have c90b0 : ((t160.length : Int) == 0) = true := beq_iff_eq.mpr c90
                have c90b1 : ((t160.length : Int) != 0) = false := bne_eq_false_iff_eq.mpr c90
                clear c90
                by_cases c91 : t167 = 0
                · rw [if_pos c91] at H
                  have c91b0 : (t167 == 0) = true := beq_iff_eq.mpr c91
                  have c91b1 : (t167 != 0) = false := bne_eq_false_iff_eq.mpr c91
                  clear c91
                  obtain rfl := Option.some.inj H
                  obtain ⟨Ao92, co92, eo92⟩ := Kd.R_slice HO_7.out
                  subst eo92
                  go_wp2
                  repeat (go_quiet (fail); try go_wp2)
                  go_ret
                  exact ⟨by first | rfl | (simp [errW_none, errW_some] <;> rfl) | (simp [*, errW_none, errW_some] <;> rfl), by repeat (first | (with_reducible first | exact HB.out | apply below_alloc | apply pw_below_drewN | apply below_drew1 | refine below_set ?_ GE157.out | refine below_set ?_ GE158.out) | exact HB.out)⟩
                · rw [if_neg c91] at H
                  have c91b0 : (t167 == 0) = false := beq_eq_false_iff_ne.mpr c91
                  have c91b1 : (t167 != 0) = true := bne_iff_ne.mpr c91
                  obtain rfl := Option.some.inj H
                  obtain ⟨Ao93, co93, eo93⟩ := Kd.R_slice HO_7.out
                  subst eo93
                  obtain ⟨Ao94, co94, eo94⟩ := Kd.R_slice HO_9.out
                  subst eo94
                  go_wp2
                  repeat (go_quiet (fail); try go_wp2)
                  go_ret
                  exact ⟨by first | rfl | (simp [errW_none, errW_some] <;> rfl) | (simp [*, errW_none, errW_some] <;> rfl), by repeat (first | (with_reducible first | exact HB.out | apply below_alloc | apply pw_below_drewN | apply below_drew1 | refine below_set ?_ GE157.out | refine below_set ?_ GE158.out) | exact HB.out)⟩
              · rw [if_neg c90] at H
                have c90b0 : ((t160.length : Int) == 0) = false := beq_eq_false_iff_ne.mpr c90
                have c90b1 : ((t160.length : Int) != 0) = true := bne_iff_ne.mpr c90
                have c90b2 : ¬ (t160 = []) := fun h_ => c90 (by rw [h_]; rfl)
                obtain rfl := Option.some.inj H
                obtain ⟨Ao95, co95, eo95⟩ := Kd.R_slice HO_7.out
                subst eo95
                go_wp2
                repeat (go_quiet (fail); try go_wp2)
                go_ret
                exact ⟨by first | rfl | (simp [errW_none, errW_some] <;> rfl) | (simp [*, errW_none, errW_some] <;> rfl), by repeat (first | (with_reducible first | exact HB.out | apply below_alloc | apply pw_below_drewN | apply below_drew1 | refine below_set ?_ GE157.out | refine below_set ?_ GE158.out) | exact HB.out)⟩
  · replace c5 := Bool.eq_false_iff.mpr c5
    subst c5
    have H1 : (some false) = some r := by rw [if_neg (show ¬ (false = true) by decide)] at H; exact H
    clear H
    have H := H1
    clear H1
    obtain rfl := Option.some.inj H
    go_enter Tryd.func4, Tryd.ntmps4
    go_wp2_with (first | ((with_reducible refine gate_dst (N := 4) rfl ?_); (try (refine gate_guard (by rfl) ?_; dsimp only)); refine box_event ?hg (N := 4) ?hd (cs := #[.int .i64 a1_0, .int .i64 a1_1, .int .i64 a1_2, .int .i64 a1_3, .int .i64 a1_4, .bool a1_5]) (t := 37) ?hr ?_; (case hd => rfl); (case hg => rfl); (case hr => first | (go_simp; done) | (go_simp; rfl)); intro gb157 hg w96 hbox hb; have n0_ := Aside0.mk (below_step (by repeat (first | (with_reducible first | exact HB.out | apply below_alloc | apply pw_below_drewN | apply below_drew1) | exact HB.out)) hb); have n1_ := Aside0.mk (hbox); have n2_ := Aside0.mk ((by rw [hg]; exact (below_size (by repeat (first | (with_reducible first | exact HB.out | apply below_alloc | apply pw_below_drewN | apply below_drew1) | exact HB.out))) : w.heap.size ≤ gb157)); have n3_ := Aside0.mk ((by rw [hg]; exact (below_size (by repeat (first | (with_reducible first | exact HB.out | apply below_alloc | apply pw_below_drewN | apply below_drew1) | exact HB.out))) : w.heap.size ≤ gb157)); clear HB; have HB := n0_; have BK157 := n1_; have GW157 := n2_; have GE157 := n3_; clear n0_ n1_ n2_ n3_; clear hb hbox hg) | ((with_reducible refine gate_dst (N := 5) rfl ?_); (try (refine gate_guard (by rfl) ?_; dsimp only)); refine box_event ?hg (N := 5) ?hd (cs := #[.int .i64 a2_0, .int .i64 a2_1, .int .i64 a2_2, .int .i64 a2_3, .int .i64 a2_4, .int .i64 a2_5, .int .i64 a2_6]) (t := 24) ?hr ?_; (case hd => rfl); (case hg => rfl); (case hr => first | (go_simp; done) | (go_simp; rfl)); intro gb158 hg w97 hbox hb; have n0_ := Aside0.mk (blk_below (g := gb157) (o := .cells #[.int .i64 a1_0, .int .i64 a1_1, .int .i64 a1_2, .int .i64 a1_3, .int .i64 a1_4, .bool a1_5] 37 (0, 0)) (by (with_reducible repeat (first | refine blk_drewN ?_ _ | refine blk_drew ?_ | refine blk_alloc ?_ _)); exact BK157.out) hb); have n1_ := Aside0.mk (below_step (by repeat (first | (with_reducible first | exact HB.out | apply below_alloc | apply pw_below_drewN | apply below_drew1 | refine below_set ?_ GE157.out) | exact HB.out)) hb); have n2_ := Aside0.mk (hbox); have n3_ := Aside0.mk ((by rw [hg]; exact (below_size (by repeat (first | (with_reducible first | exact HB.out | apply below_alloc | apply pw_below_drewN | apply below_drew1 | refine below_set ?_ GE157.out) | exact HB.out))) : w.heap.size ≤ gb158)); have n4_ := Aside0.mk ((by rw [hg]; exact (below_size (by repeat (first | (with_reducible first | exact HB.out | apply below_alloc | apply pw_below_drewN | apply below_drew1 | refine below_set ?_ GE157.out) | exact HB.out))) : w.heap.size ≤ gb158)); have n5_ := Aside0.mk ((by rw [hg]; exact Nat.ne_of_lt (blk_lt (g := gb157) (o := .cells #[.int .i64 a1_0, .int .i64 a1_1, .int .i64 a1_2, .int .i64 a1_3, .int .i64 a1_4, .bool a1_5] 37 (0, 0)) (by (with_reducible repeat (first | refine blk_drewN ?_ _ | refine blk_drew ?_ | refine blk_alloc ?_ _)); exact BK157.out)) : gb157 ≠ gb158)); have n6_ := Aside0.mk ((by rw [hg]; exact Nat.ne_of_gt (blk_lt (g := gb157) (o := .cells #[.int .i64 a1_0, .int .i64 a1_1, .int .i64 a1_2, .int .i64 a1_3, .int .i64 a1_4, .bool a1_5] 37 (0, 0)) (by (with_reducible repeat (first | refine blk_drewN ?_ _ | refine blk_drew ?_ | refine blk_alloc ?_ _)); exact BK157.out)) : gb158 ≠ gb157)); clear BK157; clear HB; have BK157 := n0_; have HB := n1_; have BK158 := n2_; have GW158 := n3_; have GE158 := n4_; have NB157_158 := n5_; have NB158_157 := n6_; clear n0_ n1_ n2_ n3_ n4_ n5_ n6_; clear hb hbox hg) | (go_at_call 12; (with_reducible refine (calamuslaw05_alive.calls  false _ A4.out).mono ?_); rintro e w98 ⟨rfl, hb⟩; have n0_ := Aside0.mk (blk_below (g := gb157) (o := .cells #[.int .i64 a1_0, .int .i64 a1_1, .int .i64 a1_2, .int .i64 a1_3, .int .i64 a1_4, .bool a1_5] 37 (0, 0)) (by (with_reducible repeat (first | refine blk_drewN ?_ _ | refine blk_drew ?_ | refine blk_alloc ?_ _)); exact BK157.out) hb); have n1_ := Aside0.mk (blk_below (g := gb158) (o := .cells #[.int .i64 a2_0, .int .i64 a2_1, .int .i64 a2_2, .int .i64 a2_3, .int .i64 a2_4, .int .i64 a2_5, .int .i64 a2_6] 24 (0, 0)) (by (with_reducible repeat (first | refine blk_drewN ?_ _ | refine blk_drew ?_ | refine blk_alloc ?_ _)); exact BK158.out) hb); have n2_ := Aside0.mk (below_step (by repeat (first | (with_reducible first | exact HB.out | apply below_alloc | apply pw_below_drewN | apply below_drew1 | refine below_set ?_ GE157.out | refine below_set ?_ GE158.out) | exact HB.out)) hb); clear BK157; clear BK158; clear HB; have BK157 := n0_; have BK158 := n1_; have HB := n2_; clear n0_ n1_ n2_; (try clear hb); (try clear hb2); (try clear hk); (try clear hi)))
    repeat (go_quiet (first | ((with_reducible refine gate_dst (N := 4) rfl ?_); (try (refine gate_guard (by rfl) ?_; dsimp only)); refine box_event ?hg (N := 4) ?hd (cs := #[.int .i64 a1_0, .int .i64 a1_1, .int .i64 a1_2, .int .i64 a1_3, .int .i64 a1_4, .bool a1_5]) (t := 37) ?hr ?_; (case hd => rfl); (case hg => rfl); (case hr => first | (go_simp; done) | (go_simp; rfl)); intro gb157 hg w96 hbox hb; have n0_ := Aside0.mk (below_step (by repeat (first | (with_reducible first | exact HB.out | apply below_alloc | apply pw_below_drewN | apply below_drew1) | exact HB.out)) hb); have n1_ := Aside0.mk (hbox); have n2_ := Aside0.mk ((by rw [hg]; exact (below_size (by repeat (first | (with_reducible first | exact HB.out | apply below_alloc | apply pw_below_drewN | apply below_drew1) | exact HB.out))) : w.heap.size ≤ gb157)); have n3_ := Aside0.mk ((by rw [hg]; exact (below_size (by repeat (first | (with_reducible first | exact HB.out | apply below_alloc | apply pw_below_drewN | apply below_drew1) | exact HB.out))) : w.heap.size ≤ gb157)); clear HB; have HB := n0_; have BK157 := n1_; have GW157 := n2_; have GE157 := n3_; clear n0_ n1_ n2_ n3_; clear hb hbox hg) | ((with_reducible refine gate_dst (N := 5) rfl ?_); (try (refine gate_guard (by rfl) ?_; dsimp only)); refine box_event ?hg (N := 5) ?hd (cs := #[.int .i64 a2_0, .int .i64 a2_1, .int .i64 a2_2, .int .i64 a2_3, .int .i64 a2_4, .int .i64 a2_5, .int .i64 a2_6]) (t := 24) ?hr ?_; (case hd => rfl); (case hg => rfl); (case hr => first | (go_simp; done) | (go_simp; rfl)); intro gb158 hg w97 hbox hb; have n0_ := Aside0.mk (blk_below (g := gb157) (o := .cells #[.int .i64 a1_0, .int .i64 a1_1, .int .i64 a1_2, .int .i64 a1_3, .int .i64 a1_4, .bool a1_5] 37 (0, 0)) (by (with_reducible repeat (first | refine blk_drewN ?_ _ | refine blk_drew ?_ | refine blk_alloc ?_ _)); exact BK157.out) hb); have n1_ := Aside0.mk (below_step (by repeat (first | (with_reducible first | exact HB.out | apply below_alloc | apply pw_below_drewN | apply below_drew1 | refine below_set ?_ GE157.out) | exact HB.out)) hb); have n2_ := Aside0.mk (hbox); have n3_ := Aside0.mk ((by rw [hg]; exact (below_size (by repeat (first | (with_reducible first | exact HB.out | apply below_alloc | apply pw_below_drewN | apply below_drew1 | refine below_set ?_ GE157.out) | exact HB.out))) : w.heap.size ≤ gb158)); have n4_ := Aside0.mk ((by rw [hg]; exact (below_size (by repeat (first | (with_reducible first | exact HB.out | apply below_alloc | apply pw_below_drewN | apply below_drew1 | refine below_set ?_ GE157.out) | exact HB.out))) : w.heap.size ≤ gb158)); have n5_ := Aside0.mk ((by rw [hg]; exact Nat.ne_of_lt (blk_lt (g := gb157) (o := .cells #[.int .i64 a1_0, .int .i64 a1_1, .int .i64 a1_2, .int .i64 a1_3, .int .i64 a1_4, .bool a1_5] 37 (0, 0)) (by (with_reducible repeat (first | refine blk_drewN ?_ _ | refine blk_drew ?_ | refine blk_alloc ?_ _)); exact BK157.out)) : gb157 ≠ gb158)); have n6_ := Aside0.mk ((by rw [hg]; exact Nat.ne_of_gt (blk_lt (g := gb157) (o := .cells #[.int .i64 a1_0, .int .i64 a1_1, .int .i64 a1_2, .int .i64 a1_3, .int .i64 a1_4, .bool a1_5] 37 (0, 0)) (by (with_reducible repeat (first | refine blk_drewN ?_ _ | refine blk_drew ?_ | refine blk_alloc ?_ _)); exact BK157.out)) : gb158 ≠ gb157)); clear BK157; clear HB; have BK157 := n0_; have HB := n1_; have BK158 := n2_; have GW158 := n3_; have GE158 := n4_; have NB157_158 := n5_; have NB158_157 := n6_; clear n0_ n1_ n2_ n3_ n4_ n5_ n6_; clear hb hbox hg) | (go_at_call 12; (with_reducible refine (calamuslaw05_alive.calls  false _ A4.out).mono ?_); rintro e w98 ⟨rfl, hb⟩; have n0_ := Aside0.mk (blk_below (g := gb157) (o := .cells #[.int .i64 a1_0, .int .i64 a1_1, .int .i64 a1_2, .int .i64 a1_3, .int .i64 a1_4, .bool a1_5] 37 (0, 0)) (by (with_reducible repeat (first | refine blk_drewN ?_ _ | refine blk_drew ?_ | refine blk_alloc ?_ _)); exact BK157.out) hb); have n1_ := Aside0.mk (blk_below (g := gb158) (o := .cells #[.int .i64 a2_0, .int .i64 a2_1, .int .i64 a2_2, .int .i64 a2_3, .int .i64 a2_4, .int .i64 a2_5, .int .i64 a2_6] 24 (0, 0)) (by (with_reducible repeat (first | refine blk_drewN ?_ _ | refine blk_drew ?_ | refine blk_alloc ?_ _)); exact BK158.out) hb); have n2_ := Aside0.mk (below_step (by repeat (first | (with_reducible first | exact HB.out | apply below_alloc | apply pw_below_drewN | apply below_drew1 | refine below_set ?_ GE157.out | refine below_set ?_ GE158.out) | exact HB.out)) hb); clear BK157; clear BK158; clear HB; have BK157 := n0_; have BK158 := n1_; have HB := n2_; clear n0_ n1_ n2_; (try clear hb); (try clear hb2); (try clear hk); (try clear hi))); try go_wp2_with (first | ((with_reducible refine gate_dst (N := 4) rfl ?_); (try (refine gate_guard (by rfl) ?_; dsimp only)); refine box_event ?hg (N := 4) ?hd (cs := #[.int .i64 a1_0, .int .i64 a1_1, .int .i64 a1_2, .int .i64 a1_3, .int .i64 a1_4, .bool a1_5]) (t := 37) ?hr ?_; (case hd => rfl); (case hg => rfl); (case hr => first | (go_simp; done) | (go_simp; rfl)); intro gb157 hg w96 hbox hb; have n0_ := Aside0.mk (below_step (by repeat (first | (with_reducible first | exact HB.out | apply below_alloc | apply pw_below_drewN | apply below_drew1) | exact HB.out)) hb); have n1_ := Aside0.mk (hbox); have n2_ := Aside0.mk ((by rw [hg]; exact (below_size (by repeat (first | (with_reducible first | exact HB.out | apply below_alloc | apply pw_below_drewN | apply below_drew1) | exact HB.out))) : w.heap.size ≤ gb157)); have n3_ := Aside0.mk ((by rw [hg]; exact (below_size (by repeat (first | (with_reducible first | exact HB.out | apply below_alloc | apply pw_below_drewN | apply below_drew1) | exact HB.out))) : w.heap.size ≤ gb157)); clear HB; have HB := n0_; have BK157 := n1_; have GW157 := n2_; have GE157 := n3_; clear n0_ n1_ n2_ n3_; clear hb hbox hg) | ((with_reducible refine gate_dst (N := 5) rfl ?_); (try (refine gate_guard (by rfl) ?_; dsimp only)); refine box_event ?hg (N := 5) ?hd (cs := #[.int .i64 a2_0, .int .i64 a2_1, .int .i64 a2_2, .int .i64 a2_3, .int .i64 a2_4, .int .i64 a2_5, .int .i64 a2_6]) (t := 24) ?hr ?_; (case hd => rfl); (case hg => rfl); (case hr => first | (go_simp; done) | (go_simp; rfl)); intro gb158 hg w97 hbox hb; have n0_ := Aside0.mk (blk_below (g := gb157) (o := .cells #[.int .i64 a1_0, .int .i64 a1_1, .int .i64 a1_2, .int .i64 a1_3, .int .i64 a1_4, .bool a1_5] 37 (0, 0)) (by (with_reducible repeat (first | refine blk_drewN ?_ _ | refine blk_drew ?_ | refine blk_alloc ?_ _)); exact BK157.out) hb); have n1_ := Aside0.mk (below_step (by repeat (first | (with_reducible first | exact HB.out | apply below_alloc | apply pw_below_drewN | apply below_drew1 | refine below_set ?_ GE157.out) | exact HB.out)) hb); have n2_ := Aside0.mk (hbox); have n3_ := Aside0.mk ((by rw [hg]; exact (below_size (by repeat (first | (with_reducible first | exact HB.out | apply below_alloc | apply pw_below_drewN | apply below_drew1 | refine below_set ?_ GE157.out) | exact HB.out))) : w.heap.size ≤ gb158)); have n4_ := Aside0.mk ((by rw [hg]; exact (below_size (by repeat (first | (with_reducible first | exact HB.out | apply below_alloc | apply pw_below_drewN | apply below_drew1 | refine below_set ?_ GE157.out) | exact HB.out))) : w.heap.size ≤ gb158)); have n5_ := Aside0.mk ((by rw [hg]; exact Nat.ne_of_lt (blk_lt (g := gb157) (o := .cells #[.int .i64 a1_0, .int .i64 a1_1, .int .i64 a1_2, .int .i64 a1_3, .int .i64 a1_4, .bool a1_5] 37 (0, 0)) (by (with_reducible repeat (first | refine blk_drewN ?_ _ | refine blk_drew ?_ | refine blk_alloc ?_ _)); exact BK157.out)) : gb157 ≠ gb158)); have n6_ := Aside0.mk ((by rw [hg]; exact Nat.ne_of_gt (blk_lt (g := gb157) (o := .cells #[.int .i64 a1_0, .int .i64 a1_1, .int .i64 a1_2, .int .i64 a1_3, .int .i64 a1_4, .bool a1_5] 37 (0, 0)) (by (with_reducible repeat (first | refine blk_drewN ?_ _ | refine blk_drew ?_ | refine blk_alloc ?_ _)); exact BK157.out)) : gb158 ≠ gb157)); clear BK157; clear HB; have BK157 := n0_; have HB := n1_; have BK158 := n2_; have GW158 := n3_; have GE158 := n4_; have NB157_158 := n5_; have NB158_157 := n6_; clear n0_ n1_ n2_ n3_ n4_ n5_ n6_; clear hb hbox hg) | (go_at_call 12; (with_reducible refine (calamuslaw05_alive.calls  false _ A4.out).mono ?_); rintro e w98 ⟨rfl, hb⟩; have n0_ := Aside0.mk (blk_below (g := gb157) (o := .cells #[.int .i64 a1_0, .int .i64 a1_1, .int .i64 a1_2, .int .i64 a1_3, .int .i64 a1_4, .bool a1_5] 37 (0, 0)) (by (with_reducible repeat (first | refine blk_drewN ?_ _ | refine blk_drew ?_ | refine blk_alloc ?_ _)); exact BK157.out) hb); have n1_ := Aside0.mk (blk_below (g := gb158) (o := .cells #[.int .i64 a2_0, .int .i64 a2_1, .int .i64 a2_2, .int .i64 a2_3, .int .i64 a2_4, .int .i64 a2_5, .int .i64 a2_6] 24 (0, 0)) (by (with_reducible repeat (first | refine blk_drewN ?_ _ | refine blk_drew ?_ | refine blk_alloc ?_ _)); exact BK158.out) hb); have n2_ := Aside0.mk (below_step (by repeat (first | (with_reducible first | exact HB.out | apply below_alloc | apply pw_below_drewN | apply below_drew1 | refine below_set ?_ GE157.out | refine below_set ?_ GE158.out) | exact HB.out)) hb); clear BK157; clear BK158; clear HB; have BK157 := n0_; have BK158 := n1_; have HB := n2_; clear n0_ n1_ n2_; (try clear hb); (try clear hb2); (try clear hk); (try clear hi))))
    go_ret
    exact ⟨by first | rfl | (simp [errW_none, errW_some] <;> rfl) | (simp [*, errW_none, errW_some] <;> rfl), by repeat (first | (with_reducible first | exact HB.out | apply below_alloc | apply pw_below_drewN | apply below_drew1 | refine below_set ?_ GE157.out | refine below_set ?_ GE158.out) | exact HB.out)⟩

end Go.Proofs.YtcclmaicdmogjaaDoor.P

-- Written by wip/pr.py over the kit's print
namespace Go.Proofs.YtcclmaicdmogjaaDoor.P
open Go.RowKit Go.Proofs.YtcclmaicdmogjaaDoorW.PrintWords Go.Proofs.YtcclmaicdmogjaaDoorW.PrintLast Go.Proofs.YtcclmaicdmogjaaDoorW.PrintMore
attribute [local go_sem] max2_int min2_int max_two min_two max_three min_three max_four min_four   -- for this text's walks alone
set_option linter.unusedVariables false
set_option linter.unusedSimpArgs false

/-! ### calamusref02_Copy: function 13 -/
def calamusref02_Copy.f (l0 : List Int) : Option (List Int) := (some (([] : List Int) : List Int)).bind fun y107 => (if y107.length + l0.length < 140737488355328 then (some (y107 ++ l0)) else (none))
set_option maxHeartbeats 8000000 in
set_option maxRecDepth 100000 in
theorem calamusref02_Copy.calls (A0 : Option Addr) (c0 : Nat) (l0 : List Int) (r : List Int) (w : World) (hr0 : Kd.C (Kd.int .u8) w A0 l0.length l0) (hc0 : l0.length ≤ c0) (h : calamusref02_Copy.f l0 = some r) :
    Calls Tryd.prog 13 #[.slice A0 l0.length c0] w fun e w' => ∃ v0_ : Value, e = .returned (v0_) ∧ Kd.R (Kd.int .u8) 5 w' w.heap.size (fun _ => True) v0_ r ∧ Below w.heap.size w w' := by
  have HR0 := Aside0.mk hr0
  have HC0 := Aside0.mk hc0
  clear hr0 hc0
  have HB := Aside0.mk (Below.refl w.heap.size w)
  have H : ((some (([] : List Int) : List Int)).bind fun y107 => (if y107.length + l0.length < 140737488355328 then (some (y107 ++ l0)) else (none))) = some r := h
  clear h
  obtain ⟨y107, hy107⟩ : ∃ y_ : List Int, y_ = (([] : List Int)) := ⟨_, rfl⟩
  replace H : (if y107.length + l0.length < 140737488355328 then (some (y107 ++ l0)) else (none)) = some r := by first | (rw [hy107]; with_reducible exact H) | (have H2_ := (Option.bind_some _ _).symm.trans H; rw [hy107]; with_reducible exact H2_) | (have H2_ := (Option.bind_some _ _).symm.trans H; with_reducible exact H2_) | with_reducible exact H | (rw [hy107]; exact H) | exact H
  have Ny107 := Aside0.mk hy107
  clear hy107
  by_cases c2 : y107.length + l0.length < 140737488355328
  · rw [if_pos c2] at H
    have LMc2 := Aside0.mk c2
    clear c2
    obtain ⟨y110, hy110⟩ : ∃ y_ : List Int, y_ = (y107 ++ l0) := ⟨_, rfl⟩
    replace H : (some y110) = some r := by first | (rw [hy110]; with_reducible exact H) | (have H2_ := (Option.bind_some _ _).symm.trans H; rw [hy110]; with_reducible exact H2_) | (have H2_ := (Option.bind_some _ _).symm.trans H; with_reducible exact H2_) | with_reducible exact H | (rw [hy110]; exact H) | exact H
    have Ny110 := Aside0.mk hy110
    clear hy110
    obtain rfl := Option.some.inj H
    go_enter Tryd.func13, Tryd.ntmps13
    go_wp2_with (first | ((with_reducible refine gate_dst (N := 3) rfl ?_); refine Kd.R_lit (Kd.int .u8) _ 5 ?hg (N := 3) ?hd (xs := ([] : List Int)) (inner := []) (ok := fun _ => True) (okp := fun _ => True) ?hr ?hp (fun _ hk => hk) trivial (Below.refl _ _) (Nat.le_refl _) (by simp) ?_; (case hd => rfl); (case hg => rfl); (case hr => first | (go_simp; done) | (go_simp; rfl)); (case hp => exact (Reps.none _ _)); intro v108 w3 ho4 hb hg_ hnew_; clear hg_ hnew_; (first | rw [← Ny107.out] at ho4 | (simp only [Int.reduceToNat] at ho4; rw [← Ny107.out] at ho4)); have n0_ := Aside0.mk (Kd.R_lower ho4 (below_size (by repeat (first | (with_reducible first | exact HB.out | apply below_alloc | apply pw_below_drewN | apply below_drew1) | exact HB.out)))); have n1_ := Aside0.mk (below_step (by repeat (first | (with_reducible first | exact HB.out | apply below_alloc | apply pw_below_drewN | apply below_drew1) | exact HB.out)) hb); clear HB; have HO109 := n0_; have HB := n1_; clear n0_ n1_; clear hb ho4) | ((with_reducible refine gate_builtin (b := .append) (xs := #[.tmp 3, .tmp 4]) rfl ?_); at_builtin; refine Kd.R_append_rows (Kd.int .u8) (w0 := w) w.heap.size rfl (.tmp 3) (.tmp 4) 22 5 (.int .u8 0) 1 rfl Tryd.underlying22 info5 rfl (by decide) (by omega) v108 y107 l0 _ _ _ (fun _ => True) (fun _ => False) rfl rfl ?aO ?aR (fun _ _ h => h) (fun _ h => h.elim) ?aF ?aB ?aS ?aL ?_; (case aR => repeat (first | exact (Kd.C_below HR0.out HB.out) | (with_reducible refine Kd.C_alloc ?_ _) | (with_reducible refine Kd.C_drewN ?_ _) | (with_reducible refine Kd.C_drew ?_))); (case aB => exact (by repeat (first | (with_reducible first | exact HB.out | apply below_alloc | apply pw_below_drewN | apply below_drew1) | exact HB.out))); (case aF => exact (fun _ _ => trivial)); (case aO => exact (by (with_reducible repeat (first | apply Kd.R_alloc | apply Kd.R_drewN | apply Kd.R_drew)); exact HO109.out)); (case aS => exact (below_size (by repeat (first | (with_reducible first | exact HB.out | apply below_alloc | apply pw_below_drewN | apply below_drew1) | exact HB.out)))); (case aL => have := LMc2.out; omega); intro v111 w5 ho hb hg hat; rw [← Ny110.out] at ho; have n0_ := Aside0.mk (hb); have n1_ := Aside0.mk (ho); clear HB; clear HO109; have HB := n0_; have HO112 := n1_; clear n0_ n1_; clear ho hb hg hat))
    go_ret
    exact ⟨_, by first | rfl | (simp [errW_none, errW_some] <;> rfl) | (simp [*, errW_none, errW_some] <;> rfl), by (with_reducible repeat (first | apply Kd.R_alloc | apply Kd.R_drewN | apply Kd.R_drew)); exact HO112.out, by repeat (first | (with_reducible first | exact HB.out | apply below_alloc | apply pw_below_drewN | apply below_drew1) | exact HB.out)⟩
  · rw [if_neg c2] at H
    exact absurd H (by simp)

end Go.Proofs.YtcclmaicdmogjaaDoor.P

-- Written by wip/pr.py over the kit's print
namespace Go.Proofs.YtcclmaicdmogjaaDoor.P
open Go.RowKit Go.Proofs.YtcclmaicdmogjaaDoorW.PrintWords Go.Proofs.YtcclmaicdmogjaaDoorW.PrintLast Go.Proofs.YtcclmaicdmogjaaDoorW.PrintMore
attribute [local go_sem] max2_int min2_int max_two min_two max_three min_three max_four min_four   -- for this text's walks alone
set_option linter.unusedVariables false
set_option linter.unusedSimpArgs false

/-! ### calamusref02_Same: function 18 -/
def calamusref02_Same.f (l0 : List Int) (l1 : List Int) : Option (Bool) := some ((strOfNums l0).toList == (strOfNums l1).toList)
set_option maxHeartbeats 8000000 in
set_option maxRecDepth 100000 in
theorem calamusref02_Same.calls (A0 : Option Addr) (c0 : Nat) (l0 : List Int) (A1 : Option Addr) (c1 : Nat) (l1 : List Int) (r : Bool) (w : World) (hr0 : Kd.C (Kd.int .u8) w A0 l0.length l0) (hc0 : l0.length ≤ c0) (hr1 : Kd.C (Kd.int .u8) w A1 l1.length l1) (hc1 : l1.length ≤ c1) (h : calamusref02_Same.f l0 l1 = some r) :
    Calls Tryd.prog 18 #[.slice A0 l0.length c0, .slice A1 l1.length c1] w fun e w' => e = .returned (.bool r) ∧ Drawn0 w w' := by
  have HR0 := Aside0.mk hr0
  have HC0 := Aside0.mk hc0
  clear hr0 hc0
  have HR1 := Aside0.mk hr1
  have HC1 := Aside0.mk hc1
  clear hr1 hc1
  have H : (some ((strOfNums l0).toList == (strOfNums l1).toList)) = some r := h
  clear h
  obtain rfl := Option.some.inj H
  have hcv3 := Kd.C_string (P := Tryd.prog) (A := A0) (c := c0) Tryd.underlying22 Tryd.underlying5 Tryd.underlying9 HR0.out
  have hcv4 := Kd.C_string (P := Tryd.prog) (A := A1) (c := c1) Tryd.underlying22 Tryd.underlying5 Tryd.underlying9 HR1.out
  go_enter Tryd.func18, Tryd.ntmps18
  go_wp2
  go_ret
  exact ⟨by first | rfl | (simp; done) | (simp [*]; done), by repeat (first | exact Drawn0.refl _ | apply Drawn0.step)⟩

end Go.Proofs.YtcclmaicdmogjaaDoor.P

namespace Go.Proofs.YtcclmaicdmogjaaDoor.P
open Go.RowKit Go.Proofs.YtcclmaicdmogjaaDoorW.PrintWords Go.Proofs.YtcclmaicdmogjaaDoorW.PrintLast Go.Proofs.YtcclmaicdmogjaaDoorW.PrintMore
set_option linter.unusedVariables false
set_option linter.unusedSimpArgs false

-- USES calamusref02_Copy calamusref02_Same
theorem copy_eq (l : List Int) (h : l.length < 140737488355328) : calamusref02_Copy.f l = some l := by
  unfold calamusref02_Copy.f; simp [h]
theorem same_refl (l : List Int) : calamusref02_Same.f l l = some true := by
  unfold calamusref02_Same.f; simp
theorem bytes_of_wf {l : List Int} (h : ∀ x ∈ l, (Lit.int .u8 x).wf = true) : isBytes l := fun x hx => by
  have := h x hx
  simp [Lit.wf, IntKind.min, IntKind.max, IntKind.bits, IntKind.signed] at this
  omega
theorem isBytes_zeros (n : Nat) : isBytes (List.replicate n 0) := fun x hx => by rw [List.mem_replicate] at hx; omega
theorem isBytes_set {l : List Int} (h : isBytes l) (i : Nat) (v : Int) (hv : 0 ≤ v ∧ v ≤ 255) : isBytes (l.set i v) := fun x hx => by
  rcases List.mem_or_eq_of_mem_set hx with h' | h'
  · exact h x h'
  · omega
theorem wf_u8_out {n : Int} (h : (Lit.int .u8 n).wf = true) : 0 ≤ n ∧ n ≤ 255 := by
  simp [Lit.wf, IntKind.min, IntKind.max, IntKind.bits, IntKind.signed] at h; omega
theorem wf_u16_out {n : Int} (h : (Lit.int .u16 n).wf = true) : 0 ≤ n ∧ n ≤ 65535 := by
  simp [Lit.wf, IntKind.min, IntKind.max, IntKind.bits, IntKind.signed] at h; omega
theorem wf_u32_out {n : Int} (h : (Lit.int .u32 n).wf = true) : 0 ≤ n ∧ n ≤ 4294967295 := by
  simp [Lit.wf, IntKind.min, IntKind.max, IntKind.bits, IntKind.signed] at h; omega
theorem wf_i32_out {n : Int} (h : (Lit.int .i32 n).wf = true) : -2147483648 ≤ n ∧ n ≤ 2147483647 := by
  simp [Lit.wf, IntKind.min, IntKind.max, IntKind.bits, IntKind.signed] at h; omega
theorem wf_i64_out {n : Int} (h : (Lit.int .i64 n).wf = true) : -9223372036854775808 ≤ n ∧ n ≤ 9223372036854775807 := by
  simp [Lit.wf, IntKind.min, IntKind.max, IntKind.bits, IntKind.signed] at h; omega

end Go.Proofs.YtcclmaicdmogjaaDoor.P

namespace Go.Proofs.YtcclmaicdmogjaaDoor.P
open Go.RowKit Go.Proofs.YtcclmaicdmogjaaDoorW.PrintWords Go.Proofs.YtcclmaicdmogjaaDoorW.PrintLast Go.Proofs.YtcclmaicdmogjaaDoorW.PrintMore
set_option linter.unusedVariables false
set_option linter.unusedSimpArgs false

-- USES head_PutHead head_PutMaxp
-- NEEDS gen
theorem lay2_other (xs : List Int) (a : Nat) (n : Int) (h : a + 2 ≤ xs.length) (i : Nat) (hi : i < a ∨ a + 2 ≤ i) : (lay2 xs a n).getD i 0 = xs.getD i 0 := by
  unfold lay2
  have hp := putB_length n 2
  have ht : (xs.take a).length = a := by rw [List.length_take]; omega
  rw [List.getD_eq_getElem?_getD, List.getD_eq_getElem?_getD]
  congr 1
  rcases hi with hi | hi
  · rw [List.append_assoc, List.getElem?_append_left (by omega), List.getElem?_take_of_lt hi]
  · rw [List.getElem?_append_right (by rw [List.length_append, ht, hp]; exact hi), List.length_append, ht, hp, List.getElem?_drop]
    congr 1
    omega
theorem layN_other (l vs : List Int) (h : 54 ≤ l.length) (i : Nat) (k : Nat) (hk : k ≤ 4) (hi : i < 36 ∨ 36 + 2 * k ≤ i) : (layN l vs k).getD i 0 = l.getD i 0 := by
  induction k with
  | zero => rfl
  | succ k ih => rw [layN, lay2_other _ _ _ (by rw [layN_length l vs h k (by omega)]; omega) i (by omega)]; exact ih (by omega) (by omega)
theorem layM_other (l vs : List Int) (h : 32 ≤ l.length) (i : Nat) (k : Nat) (hk : k ≤ 7) (hi : ∀ j, j < k → (i : Int) < placesL.getD j 0 ∨ placesL.getD j 0 + 2 ≤ i) : (layM l vs k).getD i 0 = l.getD i 0 := by
  induction k with
  | zero => rfl
  | succ k ih =>
    have hb := places_bd k (by omega)
    have := hi k (by omega)
    rw [layM, lay2_other _ _ _ (by rw [layM_length l vs h k (by omega)]; omega) i (by omega)]
    exact ih (by omega) (fun j hj => hi j (by omega))
def inH (i : Int) : Prop := i = 18 ∨ i = 19 ∨ (36 ≤ i ∧ i < 44) ∨ i = 50 ∨ i = 51
instance (i : Int) : Decidable (inH i) := inferInstanceAs (Decidable (_ ∨ _))
def inM (i : Int) : Prop := (4 ≤ i ∧ i < 14) ∨ (28 ≤ i ∧ i < 32)
instance (i : Int) : Decidable (inM i) := inferInstanceAs (Decidable (_ ∨ _))
theorem putHead_else (l : List Int) (b0 b1 b2 b3 b4 : Int) (b5 : Bool) :
    ((putHeadR l b0 b1 b2 b3 b4 b5).2 = 0 → (putHeadR l b0 b1 b2 b3 b4 b5).1.length = l.length ∧ ∀ i : Nat, ¬ inH i → (putHeadR l b0 b1 b2 b3 b4 b5).1.getD i 0 = l.getD i 0) ∧ ((putHeadR l b0 b1 b2 b3 b4 b5).2 ≠ 0 → (putHeadR l b0 b1 b2 b3 b4 b5).1 = []) := by
  unfold putHeadR
  by_cases h1 : l.length < 54
  · rw [if_pos h1]; exact ⟨fun h => absurd h (by decide), fun _ => rfl⟩
  rw [if_neg h1]
  by_cases h2 : b0 < 16 ∨ b0 > 16384
  · rw [if_pos h2]; exact ⟨fun h => absurd h (by decide), fun _ => rfl⟩
  rw [if_neg h2]
  by_cases h3 : okS b1 ∧ okS b2 ∧ okS b3 ∧ okS b4
  · rw [if_pos h3]
    have e1 := lay2_length l 18 b0 (by omega)
    have e2 := layN_length (lay2 l 18 b0) [b1, b2, b3, b4] (by omega) 4 (by omega)
    refine ⟨fun _ => ⟨?_, fun i hi => ?_⟩, fun h => absurd rfl h⟩
    · show (lay2 (layN (lay2 l 18 b0) [b1, b2, b3, b4] 4) 50 _).length = _
      rw [lay2_length _ _ _ (by omega), e2, e1]
    · show (lay2 (layN (lay2 l 18 b0) [b1, b2, b3, b4] 4) 50 _).getD i 0 = _
      unfold inH at hi
      rw [lay2_other _ _ _ (by omega) i (by omega), layN_other _ _ (by omega) i 4 (by omega) (by omega), lay2_other _ _ _ (by omega) i (by omega)]
  · rw [if_neg h3]; exact ⟨fun h => absurd h (by decide), fun _ => rfl⟩
theorem putMaxp_else (l : List Int) (b0 b1 b2 b3 b4 b5 b6 : Int) :
    ((putMaxpR l b0 b1 b2 b3 b4 b5 b6).2 = 0 → (putMaxpR l b0 b1 b2 b3 b4 b5 b6).1.length = l.length ∧ ∀ i : Nat, ¬ inM i → (putMaxpR l b0 b1 b2 b3 b4 b5 b6).1.getD i 0 = l.getD i 0) ∧ ((putMaxpR l b0 b1 b2 b3 b4 b5 b6).2 ≠ 0 → (putMaxpR l b0 b1 b2 b3 b4 b5 b6).1 = []) := by
  unfold putMaxpR
  by_cases h1 : l.length < 32
  · rw [if_pos h1]; exact ⟨fun h => absurd h (by decide), fun _ => rfl⟩
  rw [if_neg h1]
  by_cases h3 : okM b0 ∧ okM b1 ∧ okM b2 ∧ okM b3 ∧ okM b4 ∧ okM b5 ∧ okM b6
  · rw [if_pos h3]
    refine ⟨fun _ => ⟨layM_length l _ (by omega) 7 (by omega), fun i hi => ?_⟩, fun h => absurd rfl h⟩
    refine layM_other l _ (by omega) i 7 (by omega) (fun j hj => ?_)
    unfold inM at hi
    have : j = 0 ∨ j = 1 ∨ j = 2 ∨ j = 3 ∨ j = 4 ∨ j = 5 ∨ j = 6 := by omega
    rcases this with rfl | rfl | rfl | rfl | rfl | rfl | rfl <;> simp [placesL] <;> omega
  · rw [if_neg h3]; exact ⟨fun h => absurd h (by decide), fun _ => rfl⟩

end Go.Proofs.YtcclmaicdmogjaaDoor.P

namespace Go.Proofs.YtcclmaicdmogjaaDoor.P
open Go.RowKit Go.Proofs.YtcclmaicdmogjaaDoorW.PrintWords Go.Proofs.YtcclmaicdmogjaaDoorW.PrintLast Go.Proofs.YtcclmaicdmogjaaDoorW.PrintMore
set_option linter.unusedVariables false
set_option linter.unusedSimpArgs false

-- USES calamuslaw05_HeadElse calamuslaw05_alive
-- NEEDS layother
theorem else_j2 (l c : List Int) (e : Int) (m : List Int) (g : Int) (n : Int) (i k : Nat) (hi : i < l.length) (hl : l.length ≤ 5000)
    (hL : g = 0 → (m.length : Int) = l.length) (hR : g = 0 → ¬ inM i → rd m i = rd l i) :
    calamuslaw05_HeadElse.j2 (k + 1) l c e m g (i : Int) n (i : Int) false = calamuslaw05_HeadElse.l0 k l c e m g n ((i + 1 : Nat) : Int) := by
  have hw : wrap64 ((i : Int) + 1) = ((i + 1 : Nat) : Int) := by rw [IntWalk.wrap64_in _ ⟨by omega, by omega⟩]; rfl
  rw [calamuslaw05_HeadElse.j2, if_neg (by decide), hw]
  generalize calamuslaw05_HeadElse.l0 k l c e m g n ((i + 1 : Nat) : Int) = X
  by_cases hg : g = 0
  · have h1 := hL hg
    simp only [if_pos hg, if_pos h1, if_pos (show (0 : Int) ≤ (i : Int) by omega), if_pos (show (i : Int) < (m.length : Int) by omega), if_pos (show (i : Int) < (l.length : Int) by omega)]
    by_cases hm : inM i
    · unfold inM at hm
      repeat' split
      all_goals first | rfl | (exfalso; omega)
    · have h2 := hR hg hm
      simp only [if_pos h2]
      repeat' split
      all_goals rfl
  · simp only [if_neg hg]
    repeat' split
    all_goals rfl
theorem else_j1 (l c : List Int) (e : Int) (m : List Int) (g : Int) (n : Int) (i k : Nat) (hi : i < l.length)
    (hL : e = 0 → (c.length : Int) = l.length) (hR : e = 0 → ¬ inH i → rd c i = rd l i) :
    calamuslaw05_HeadElse.j1 (k + 1) l c e m g (i : Int) (decide (inH i)) n (i : Int) = calamuslaw05_HeadElse.j2 k l c e m g (i : Int) n (i : Int) false := by
  rw [calamuslaw05_HeadElse.j1]
  by_cases he : e = 0
  · have h1 := hL he
    rw [if_pos he, if_pos h1]
    by_cases hh : inH i
    · rw [if_pos (decide_eq_true hh)]
    · rw [if_neg (by simpa using hh), if_pos (by omega), if_pos (by omega), if_pos (by omega), hR he hh, bne_self_eq_false]
  · rw [if_neg he]
theorem else_l0 (l c : List Int) (e : Int) (m : List Int) (g : Int) (n : Int) (i k : Nat) (hlt : (i : Int) < n) :
    calamuslaw05_HeadElse.l0 (k + 1) l c e m g n (i : Int) = calamuslaw05_HeadElse.j1 k l c e m g (i : Int) (decide (inH i)) n (i : Int) := by
  rw [calamuslaw05_HeadElse.l0, if_pos hlt]
  have ht : ∀ h : inH i, decide (inH (i : Int)) = true := fun h => decide_eq_true h
  by_cases h1 : (i : Int) = 18
  · rw [if_pos h1, ht (.inl h1)]
  rw [if_neg h1]
  by_cases h2 : (i : Int) = 19
  · rw [if_pos h2, ht (.inr (.inl h2))]
  rw [if_neg h2]
  have hx : ¬ (36 ≤ (i : Int) ∧ (i : Int) < 44) → (if (i : Int) = 50 then calamuslaw05_HeadElse.j1 k l c e m g (i : Int) true n (i : Int) else calamuslaw05_HeadElse.j1 k l c e m g (i : Int) ((i : Int) == 51) n (i : Int)) = calamuslaw05_HeadElse.j1 k l c e m g (i : Int) (decide (inH i)) n (i : Int) := by
    intro h4
    by_cases h5 : (i : Int) = 50
    · rw [if_pos h5, ht (.inr (.inr (.inr (.inl h5))))]
    · rw [if_neg h5]
      by_cases h6 : (i : Int) = 51
      · rw [ht (.inr (.inr (.inr (.inr h6)))), beq_iff_eq.2 h6]
      · rw [decide_eq_false (show ¬ inH (i : Int) by unfold inH; omega), beq_eq_false_iff_ne.2 h6]
  by_cases h3 : (i : Int) ≥ 36
  · rw [if_pos h3]
    by_cases h4 : (i : Int) < 44
    · rw [if_pos h4, ht (.inr (.inr (.inl ⟨h3, h4⟩)))]
    · rw [if_neg h4]; exact hx (by omega)
  · rw [if_neg h3]; exact hx (by omega)
theorem else_loop (l c : List Int) (e : Int) (m : List Int) (g : Int) (hl : l.length ≤ 5000)
    (hc : (e = 0 → c.length = l.length ∧ ∀ i : Nat, ¬ inH i → c.getD i 0 = l.getD i 0) ∧ (e ≠ 0 → c = []))
    (hm : (g = 0 → m.length = l.length ∧ ∀ i : Nat, ¬ inM i → m.getD i 0 = l.getD i 0) ∧ (g ≠ 0 → m = [])) (d : Nat) : ∀ (i k : Nat), i + d = l.length → 3 * d < k →
    calamuslaw05_HeadElse.l0 k l c e m g (l.length : Int) (i : Int) = some true := by
  induction d with
  | zero =>
    intro i k hi hk
    obtain ⟨k, rfl⟩ : ∃ q, k = q + 1 := ⟨k - 1, by omega⟩
    rw [calamuslaw05_HeadElse.l0, if_neg (by omega)]
    by_cases he : e = 0
    · rw [if_pos he]
      by_cases hg : g = 0
      · rw [if_pos hg]
      · rw [if_neg hg, hm.2 hg]; rfl
    · rw [if_neg he, hc.2 he, if_pos (by rfl)]
      by_cases hg : g = 0
      · rw [if_pos hg]
      · rw [if_neg hg, hm.2 hg]; rfl
  | succ d ih =>
    intro i k hi hk
    obtain ⟨k, rfl⟩ : ∃ q, k = q + 3 := ⟨k - 3, by omega⟩
    rw [else_l0 l c e m g _ i (k + 2) (by omega), else_j1 l c e m g _ i (k + 1) (by omega) (fun he => by rw [(hc.1 he).1]) (fun he hh => (hc.1 he).2 i hh), else_j2 l c e m g _ i k (by omega) hl (fun hg => by rw [(hm.1 hg).1]) (fun hg hh => (hm.1 hg).2 i hh)]
    exact ih (i + 1) k (by omega) (by omega)
theorem headElse_all (l : List Int) (b0 b1 b2 b3 b4 : Int) (b5 : Bool) (m0 m1 m2 m3 m4 m5 m6 : Int) (hb : inI b0 ∧ inI b1 ∧ inI b2 ∧ inI b3 ∧ inI b4) (hi : inI m0 ∧ inI m1 ∧ inI m2 ∧ inI m3 ∧ inI m4 ∧ inI m5 ∧ inI m6) : calamuslaw05_HeadElse.f 15010 l b0 b1 b2 b3 b4 b5 m0 m1 m2 m3 m4 m5 m6 = some true := by
  unfold calamuslaw05_HeadElse.f
  have hal : calamuslaw05_alive.f = some true := rfl
  rw [hal, Option.bind_some, if_pos (Eq.refl _)]
  by_cases h1 : (l.length : Int) > 5000
  · rw [if_pos h1]
  have hp : head_PutHead.f l b0 b1 b2 b3 b4 b5 = some (putHeadR l b0 b1 b2 b3 b4 b5) := by unfold head_PutHead.f; rw [if_pos ⟨by omega, hb⟩]
  have hq : head_PutMaxp.f l m0 m1 m2 m3 m4 m5 m6 = some (putMaxpR l m0 m1 m2 m3 m4 m5 m6) := by unfold head_PutMaxp.f; rw [if_pos ⟨by omega, hi⟩]
  rw [if_neg h1, hp, hq, Option.bind_some, Option.bind_some]
  exact else_loop l _ _ _ _ (by omega) (putHead_else l b0 b1 b2 b3 b4 b5) (putMaxp_else l m0 m1 m2 m3 m4 m5 m6) l.length 0 15010 (by omega) (by omega)

end Go.Proofs.YtcclmaicdmogjaaDoor.P

namespace Go.Proofs.YtcclmaicdmogjaaDoor.P
open Go.RowKit Go.Proofs.YtcclmaicdmogjaaDoorW.PrintWords Go.Proofs.YtcclmaicdmogjaaDoorW.PrintLast Go.Proofs.YtcclmaicdmogjaaDoorW.PrintMore
set_option linter.unusedVariables false
set_option linter.unusedSimpArgs false

-- ALSO Derived.Deep.SlicePairs Derived.Deep.Slices Derived.Lib.SmallJoins Derived.Test.YtcclmaicdmogjaaDoorRows
open Go.Deep Go.ChangeShapes Go.WideShapes
section
variable {H : Type} {enc : TypeId × Value → H} {W : World} {α : Type}
/-- What the cells of a type hold: something that the kind reads, good, and at most as great as the datum. -/
def Op (enc : TypeId × Value → H) (W : World) (t : TypeId) (k : Kd α) (okp : α → Prop) (sz : α → Nat) : Prop :=
  ∀ (fuel : Nat) (cs : List Value) (d : DataW H) (p : List MemPlace), DataW.trod enc Tryd.prog W 0 (fun _ => true) true fuel t cs = some (d, p) → ∃ y, k.K W y cs ∧ okp y ∧ sz y ≤ Rows.uptoBulk d
def szL (sz : α → Nat) : List α → Nat
  | [] => 1
  | y :: r => sz y + szL sz r
theorem szL_le (sz : α → Nat) (h : ∀ y, 1 ≤ sz y) (ys : List α) : ys.length + 1 ≤ szL sz ys := by
  induction ys with
  | nil => simp [szL]
  | cons y r ih => have := h y; simp only [szL, List.length_cons]; omega
theorem op_int {t : TypeId} {kd : IntKind} (ht : Tryd.prog.underlying t = some (.int kd)) : Op enc W t (Kd.int kd) (fun x => (Lit.int kd x).wf = true) (fun _ => 1) := by
  intro fuel cs d p h
  obtain ⟨n, rfl, hx, hw⟩ := DataW.trod_int ht h
  obtain ⟨rfl, _⟩ := Prod.mk.inj hx
  exact ⟨n, rfl, hw, by simp [Rows.uptoBulk]⟩
theorem op_bool {t : TypeId} (ht : Tryd.prog.underlying t = some .bool) : Op enc W t Kd.bool (fun _ => True) (fun _ => 1) := by
  intro fuel cs d p h
  obtain ⟨n, rfl, hx⟩ := DataW.trod_bool ht h
  obtain ⟨rfl, _⟩ := Prod.mk.inj hx
  exact ⟨n, rfl, trivial, by simp [Rows.uptoBulk]⟩
theorem op_string {t : TypeId} (ht : Tryd.prog.underlying t = some .string) : Op enc W t Kd.string (fun s => s.size ≤ maxLen) (fun s => s.size + 1) := by
  intro fuel cs d p h
  obtain ⟨s, rfl, hx, hw⟩ := DataW.trod_string ht h
  obtain ⟨rfl, _⟩ := Prod.mk.inj hx
  refine ⟨s, rfl, hw, ?_⟩
  simp only [Rows.uptoBulk, Array.length_toList]
  exact Nat.le_refl _
theorem slice_form {t e : TypeId} {k : Kd α} {okp : α → Prop} {sz : α → Nat} (ht : Tryd.prog.underlying t = some (.slice e)) (hc : Tryd.prog.cellsOf e = k.sz) (ho : Op enc W e k okp sz)
    {fuel : Nat} {cs : List Value} {d : DataW H} {p : List MemPlace} (h : DataW.trod enc Tryd.prog W 0 (fun _ => true) true fuel t cs = some (d, p)) :
    ∃ (A : Option Addr) (c : Nat) (ys : List α), cs = [.slice A ys.length c] ∧ ys.length ≤ c ∧ k.C W A ys.length ys ∧ (∀ y ∈ ys, okp y) ∧ szL sz ys ≤ Rows.uptoBulk d ∧ (ys = [] ∨ ∃ elems spare, d = .slice elems spare ∧ elems.length = ys.length) := by
  rcases open_slice ht h with ⟨rfl, hx⟩ | ⟨a, len, cap, m, n, D, Pl, rfl, hb, hl, hm, hmm, hx, hall⟩
  · obtain ⟨rfl, _⟩ := Prod.mk.inj hx
    exact ⟨none, 0, [], rfl, Nat.le_refl _, ⟨rfl, by simp, fun h => absurd h (by simp)⟩, fun y hy => by simp at hy, by simp [szL, Rows.uptoBulk], .inl rfl⟩
  · obtain ⟨rfl, _⟩ := Prod.mk.inj hx
    have hlm : len ≤ m := by rw [hmm]; split <;> omega
    have each : ∀ i, i < len → ∃ y : α, (∃ cs', (cs'.length = k.sz ∧ ∀ j, j < k.sz → W.cell? ((a.add (i * k.sz)).add j) = cs'[j]?) ∧ k.K W y cs') ∧ okp y ∧ sz y ≤ Rows.uptoBulk (D i) := fun i hi => by
      obtain ⟨cs', h1, h2⟩ := hall i (by omega)
      rw [hc] at h1
      obtain ⟨_, h3, h4⟩ := World.cells?_some h1
      obtain ⟨y, g1, g2, g3⟩ := ho n cs' (D i) (Pl i) h2
      exact ⟨y, ⟨cs', ⟨h3, h4⟩, g1⟩, g2, g3⟩
    rcases Nat.eq_zero_or_pos len with h0 | hpos
    · subst h0
      exact ⟨some a, cap, [], rfl, Nat.zero_le _, ⟨rfl, by simp, fun h => absurd h (by simp)⟩, fun y hy => by simp at hy, by simp only [szL, Rows.uptoBulk]; omega, .inl rfl⟩
    · have : Nonempty α := ⟨(each 0 hpos).choose⟩
      have := Classical.inhabited_of_nonempty this
      obtain ⟨f, hf⟩ := choose_lt each
      have hlen : ((List.range len).map f).length = len := by simp
      refine ⟨some a, cap, (List.range len).map f, by rw [hlen], by rw [hlen]; exact hl, ⟨rfl, ?_, fun _ => ⟨a, rfl, fun j q hj => ?_⟩⟩, fun y hy => ?_, ?_, .inr ⟨_, _, rfl, by simp⟩⟩
      · rw [hlen]; unfold maxLen at hm; omega
      · have hjl : j < len := by
          have := (List.getElem?_eq_some_iff.1 hj).1
          simpa using this
        rw [List.getElem?_map, List.getElem?_range hjl] at hj
        obtain rfl := Option.some.inj hj
        obtain ⟨⟨cs', ⟨h3, h4⟩, h5⟩, _⟩ := hf j hjl
        refine ⟨cs', h3, h5, fun i u hu => ?_⟩
        have hi : i < k.sz := by rw [← h3]; exact (List.getElem?_eq_some_iff.1 hu).1
        rw [← hu, ← h4 i hi, Deep.add_add]
      · obtain ⟨i, hi, rfl⟩ := List.mem_map.1 hy
        exact (hf i (List.mem_range.1 hi)).2.1
      · have : ∀ l : List Nat, (∀ i ∈ l, i < len) → szL sz (l.map f) ≤ Rows.uptoBulkAll (l.map D) + 1 := by
          intro l
          induction l with
          | nil => intro _; simp [szL, Rows.uptoBulkAll]
          | cons i r ih =>
            intro h
            have h1 := (hf i (h i (by simp))).2.2
            have h2 := ih (fun j hj => h j (by simp [hj]))
            simp only [List.map_cons, szL, Rows.uptoBulkAll]
            omega
        have := this (List.range len) (fun i hi => List.mem_range.1 hi)
        simp only [Rows.uptoBulk]
        omega
theorem op_slice {t e : TypeId} {k : Kd α} {okp : α → Prop} {sz : α → Nat} (ht : Tryd.prog.underlying t = some (.slice e)) (hc : Tryd.prog.cellsOf e = k.sz) (ho : Op enc W e k okp sz) :
    Op enc W t (Kd.slice e k) (fun ys => ∀ y ∈ ys, okp y) (szL sz) := by
  intro fuel cs d p h
  obtain ⟨A, c, ys, rfl, h1, h2, h3, h4, _⟩ := slice_form ht hc ho h
  exact ⟨ys, ⟨A, c, rfl, h1, h2⟩, h3, h4⟩
set_option maxRecDepth 100000 in
/-- An argument that is a slice. -/
theorem arg_slice {t e : TypeId} {k : Kd α} {okp : α → Prop} {sz : α → Nat} (ht : Tryd.prog.underlying t = some (.slice e)) (hc : Tryd.prog.cellsOf e = k.sz) (ho : Op enc W e k okp sz) {base : Nat}
    {v : Value} {d : DataW H} {p : List MemPlace} (hv : Value.okWide Tryd.prog W .any base t v) (h : DataW.Trod enc Tryd.prog W 0 (fun _ => true) true t v d p) :
    ∃ (A : Option Addr) (c : Nat) (ys : List α), v = .slice A ys.length c ∧ ys.length ≤ c ∧ k.C W A ys.length ys ∧ (∀ y ∈ ys, okp y) ∧ szL sz ys ≤ Rows.uptoBulk d ∧ (ys = [] ∨ ∃ elems spare, d = .slice elems spare ∧ elems.length = ys.length) := by
  obtain ⟨a, len, cap, rfl⟩ := okWide_slice ht hv
  obtain ⟨fuel, hf⟩ := h
  obtain ⟨A, c, ys, hcs, r⟩ := slice_form ht hc ho hf
  simp [Value.cells] at hcs
  obtain ⟨rfl, rfl, rfl⟩ := hcs
  exact ⟨_, _, ys, rfl, r⟩
set_option maxRecDepth 100000 in
theorem arg_int {t : TypeId} {kd : IntKind} (ht : Tryd.prog.underlying t = some (.int kd)) {base : Nat} {v : Value} {d : DataW H} {p : List MemPlace} (hv : Value.okWide Tryd.prog W .any base t v) (h : DataW.Trod enc Tryd.prog W 0 (fun _ => true) true t v d p) :
    ∃ a, v = .int kd a ∧ (Lit.int kd a).wf = true := by
  obtain ⟨a, h1, _, _, h2⟩ := open_int ht hv h
  exact ⟨a, h1, h2⟩
set_option maxRecDepth 100000 in
theorem arg_bool {t : TypeId} (ht : Tryd.prog.underlying t = some .bool) {base : Nat} {v : Value} {d : DataW H} {p : List MemPlace} (hv : Value.okWide Tryd.prog W .any base t v) (h : DataW.Trod enc Tryd.prog W 0 (fun _ => true) true t v d p) :
    ∃ b, v = .bool b := by
  obtain ⟨b, h1⟩ := okWide_bool ht hv
  exact ⟨b, h1⟩
theorem one_le (d : DataW H) : 1 ≤ Rows.uptoBulk d := by
  cases d with
  | lit l => cases l <;> simp [Rows.uptoBulk]
  | nil => simp [Rows.uptoBulk]
  | ptr d => simp [Rows.uptoBulk]
  | slice elems spare => simp [Rows.uptoBulk]
  | agg parts => simp [Rows.uptoBulk]
  | iface t d => simp [Rows.uptoBulk]
  | map entries => simp [Rows.uptoBulk]
  | held h => simp [Rows.uptoBulk]
theorem bulk_bound {l : List (DataW H)} (hk : Rows.uptoSmall H l = true) : Rows.uptoBulkAll l ≤ 1048576 := of_decide_eq_true hk
theorem trod_lt_ {t : TypeId} {v : Value} {d : DataW H} {p : List MemPlace} (h : DataW.Trod enc Tryd.prog W 0 (fun _ => true) true t v d p) : ∀ x ∈ p, x.block < W.heap.size := by
  obtain ⟨m, hm⟩ := h; exact DataW.trod_lt m _ _ _ hm
end
section
variable {H : Type} {enc : TypeId × Value → H} {W : World} {α : Type}
set_option maxRecDepth 100000 in
theorem arg_arr3 {t : TypeId} (ht : Tryd.prog.underlying t = some (.array 3 3)) (hce : Tryd.prog.cellsOf 3 = 1) (hct : Tryd.prog.cellsOf t = 3) {base : Nat} {v : Value} {d : DataW H} {p : List MemPlace} (hv : Value.okWide Tryd.prog W .any base t v) (h : DataW.Trod enc Tryd.prog W 0 (fun _ => true) true t v d p) :
    ∃ a b c, v = .agg #[.int .i64 a, .int .i64 b, .int .i64 c] ∧ (Lit.int .i64 a).wf = true ∧ (Lit.int .i64 b).wf = true ∧ (Lit.int .i64 c).wf = true := by
  unfold Value.okWide at hv
  rw [ht] at hv
  obtain ⟨cs, rfl, hsz, _⟩ := hv
  obtain ⟨c0, c1, c2, rfl⟩ := Go.Joins.array3 (hsz.trans hct)
  obtain ⟨fuel, hf⟩ := h
  obtain ⟨xs, n, _, hx, hl, hlen, hall⟩ := DataW.trod_array ht hf
  have g : ∀ i, i < 3 → ∃ y, DataW.trod enc Tryd.prog W 0 (fun _ => true) true n 3 ((([c0, c1, c2] : List Value).drop i).take 1) = some y := fun i hi => by
    have hy := hall i hi
    rw [hce, Nat.mul_one, List.getElem?_eq_getElem (by omega)] at hy
    exact ⟨_, hy⟩
  obtain ⟨y0, g0⟩ := g 0 (by omega)
  obtain ⟨y1, g1⟩ := g 1 (by omega)
  obtain ⟨y2, g2⟩ := g 2 (by omega)
  obtain ⟨a, e0, _, w0⟩ := DataW.trod_int Tryd.underlying3 g0
  obtain ⟨b, e1, _, w1⟩ := DataW.trod_int Tryd.underlying3 g1
  obtain ⟨c, e2, _, w2⟩ := DataW.trod_int Tryd.underlying3 g2
  simp at e0 e1 e2
  exact ⟨a, b, c, by rw [e0, e1, e2], w0, w1, w2⟩
end
section
variable {H : Type} {enc : TypeId × Value → H} {W : World} {α : Type}
set_option maxRecDepth 100000 in
/-- The cells of a struct, one a field, at its fields' places. -/
theorem struct_cells {t : TypeId} {fs : Array Field} (ht : Tryd.prog.underlying t = some (.struct fs)) {base : Nat} {v : Value} {d : DataW H} {p : List MemPlace} (hv : Value.okWide Tryd.prog W .any base t v) (h : DataW.Trod enc Tryd.prog W 0 (fun _ => true) true t v d p) :
    ∃ (cs : Array Value) (n : Nat), v = .agg cs ∧ cs.size = Tryd.prog.cellsOf t ∧ ∀ (i : Nat) (f : Field), fs[i]? = some f → ∃ y, DataW.trod enc Tryd.prog W 0 (fun _ => true) true n f.type ((cs.toList.drop f.offset).take (Tryd.prog.cellsOf f.type)) = some y := by
  obtain ⟨cs, rfl, hsz⟩ := okWide_struct ht hv
  obtain ⟨fuel, hf⟩ := h
  obtain ⟨xs, n, _, _, _, hlen, hall⟩ := DataW.trod_struct ht hf
  refine ⟨cs, n, rfl, hsz, fun i f hi => ?_⟩
  have := hall i f hi
  have hlt : i < xs.length := by
    have h1 := (Array.getElem?_eq_some_iff.1 hi).1
    rw [hlen]; simpa using h1
  rw [List.getElem?_eq_getElem hlt] at this
  exact ⟨_, this⟩
end
section
variable {H : Type} {enc : TypeId × Value → H} {W : World} {α : Type}
theorem array6 {α : Type} {cs : Array α} (h : cs.size = 6) : ∃ c0 c1 c2 c3 c4 c5, cs = #[c0, c1, c2, c3, c4, c5] := by
  obtain ⟨l⟩ := cs
  match l, h with
  | [c0, c1, c2, c3, c4, c5], _ => exact ⟨c0, c1, c2, c3, c4, c5, rfl⟩
set_option maxRecDepth 100000 in
theorem arg_head {base : Nat} {v : Value} {d : DataW H} {p : List MemPlace} (hv : Value.okWide Tryd.prog W .any base 37 v) (h : DataW.Trod enc Tryd.prog W 0 (fun _ => true) true 37 v d p) :
    ∃ b0 b1 b2 b3 b4 b5, v = .agg #[.int .i64 b0, .int .i64 b1, .int .i64 b2, .int .i64 b3, .int .i64 b4, .bool b5] ∧ (Lit.int .i64 b0).wf = true ∧ (Lit.int .i64 b1).wf = true ∧ (Lit.int .i64 b2).wf = true ∧ (Lit.int .i64 b3).wf = true ∧ (Lit.int .i64 b4).wf = true := by
  obtain ⟨cs, n, rfl, hsz, hall⟩ := struct_cells Tryd.underlying37 hv h
  obtain ⟨c0, c1, c2, c3, c4, c5, rfl⟩ := array6 (hsz.trans (show Tryd.prog.cellsOf 37 = 6 by kernel_rfl))
  have hci : Tryd.prog.cellsOf 3 = 1 := by kernel_rfl
  have hcb : Tryd.prog.cellsOf 4 = 1 := by kernel_rfl
  obtain ⟨y0, g0⟩ := hall 0 _ rfl
  obtain ⟨y1, g1⟩ := hall 1 _ rfl
  obtain ⟨y2, g2⟩ := hall 2 _ rfl
  obtain ⟨y3, g3⟩ := hall 3 _ rfl
  obtain ⟨y4, g4⟩ := hall 4 _ rfl
  obtain ⟨y5, g5⟩ := hall 5 _ rfl
  simp [hci, hcb] at g0 g1 g2 g3 g4 g5
  obtain ⟨b0, e0, _, w0⟩ := DataW.trod_int Tryd.underlying3 g0
  obtain ⟨b1, e1, _, w1⟩ := DataW.trod_int Tryd.underlying3 g1
  obtain ⟨b2, e2, _, w2⟩ := DataW.trod_int Tryd.underlying3 g2
  obtain ⟨b3, e3, _, w3⟩ := DataW.trod_int Tryd.underlying3 g3
  obtain ⟨b4, e4, _, w4⟩ := DataW.trod_int Tryd.underlying3 g4
  obtain ⟨b5, e5, _⟩ := DataW.trod_bool Tryd.underlying4 g5
  simp at e0 e1 e2 e3 e4 e5
  exact ⟨b0, b1, b2, b3, b4, b5, by rw [e0, e1, e2, e3, e4, e5], w0, w1, w2, w3, w4⟩
end

end Go.Proofs.YtcclmaicdmogjaaDoor.P

namespace Go.Proofs.YtcclmaicdmogjaaDoor.P
open Go.RowKit Go.Proofs.YtcclmaicdmogjaaDoorW.PrintWords Go.Proofs.YtcclmaicdmogjaaDoorW.PrintLast Go.Proofs.YtcclmaicdmogjaaDoorW.PrintMore
set_option linter.unusedVariables false
set_option linter.unusedSimpArgs false

-- NEEDS open
open Go.Deep Go.ChangeShapes Go.WideShapes
section
variable {H : Type} {enc : TypeId × Value → H} {W : World} {α : Type}
theorem array7 {α : Type} {cs : Array α} (h : cs.size = 7) : ∃ c0 c1 c2 c3 c4 c5 c6, cs = #[c0, c1, c2, c3, c4, c5, c6] := by
  obtain ⟨l⟩ := cs
  match l, h with
  | [c0, c1, c2, c3, c4, c5, c6], _ => exact ⟨c0, c1, c2, c3, c4, c5, c6, rfl⟩
set_option maxRecDepth 100000 in
theorem arg_maxp {base : Nat} {v : Value} {d : DataW H} {p : List MemPlace} (hv : Value.okWide Tryd.prog W .any base 24 v) (h : DataW.Trod enc Tryd.prog W 0 (fun _ => true) true 24 v d p) :
    ∃ b0 b1 b2 b3 b4 b5 b6, v = .agg #[.int .i64 b0, .int .i64 b1, .int .i64 b2, .int .i64 b3, .int .i64 b4, .int .i64 b5, .int .i64 b6] ∧ (Lit.int .i64 b0).wf = true ∧ (Lit.int .i64 b1).wf = true ∧ (Lit.int .i64 b2).wf = true ∧ (Lit.int .i64 b3).wf = true ∧ (Lit.int .i64 b4).wf = true ∧ (Lit.int .i64 b5).wf = true ∧ (Lit.int .i64 b6).wf = true := by
  obtain ⟨cs, n, rfl, hsz, hall⟩ := struct_cells Tryd.underlying24 hv h
  obtain ⟨c0, c1, c2, c3, c4, c5, c6, rfl⟩ := array7 (hsz.trans (show Tryd.prog.cellsOf 24 = 7 by kernel_rfl))
  have hci : Tryd.prog.cellsOf 3 = 1 := by kernel_rfl
  obtain ⟨y0, g0⟩ := hall 0 _ rfl
  obtain ⟨y1, g1⟩ := hall 1 _ rfl
  obtain ⟨y2, g2⟩ := hall 2 _ rfl
  obtain ⟨y3, g3⟩ := hall 3 _ rfl
  obtain ⟨y4, g4⟩ := hall 4 _ rfl
  obtain ⟨y5, g5⟩ := hall 5 _ rfl
  obtain ⟨y6, g6⟩ := hall 6 _ rfl
  simp [hci] at g0 g1 g2 g3 g4 g5 g6
  obtain ⟨b0, e0, _, w0⟩ := DataW.trod_int Tryd.underlying3 g0
  obtain ⟨b1, e1, _, w1⟩ := DataW.trod_int Tryd.underlying3 g1
  obtain ⟨b2, e2, _, w2⟩ := DataW.trod_int Tryd.underlying3 g2
  obtain ⟨b3, e3, _, w3⟩ := DataW.trod_int Tryd.underlying3 g3
  obtain ⟨b4, e4, _, w4⟩ := DataW.trod_int Tryd.underlying3 g4
  obtain ⟨b5, e5, _, w5⟩ := DataW.trod_int Tryd.underlying3 g5
  obtain ⟨b6, e6, _, w6⟩ := DataW.trod_int Tryd.underlying3 g6
  simp at e0 e1 e2 e3 e4 e5 e6
  exact ⟨b0, b1, b2, b3, b4, b5, b6, by rw [e0, e1, e2, e3, e4, e5, e6], w0, w1, w2, w3, w4, w5, w6⟩
end

end Go.Proofs.YtcclmaicdmogjaaDoor.P
