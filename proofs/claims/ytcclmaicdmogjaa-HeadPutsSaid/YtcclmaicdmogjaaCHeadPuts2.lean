/- Part 3 of the proof of the law HeadPuts: head.PutHead answers what the document's reference answers at any bytes and any head, in new memory: what is written into the answer does not change the argument. -/
import Derived.Test.YtcclmaicdmogjaaCHeadPuts0
import Derived.Test.YtcclmaicdmogjaaCHeadPuts1
import Derived.Deep.SlicePairs
import Derived.Deep.Slices
import Derived.Lib.SmallJoins
import Derived.Test.YtcclmaicdmogjaaRows
-- Written by wip/pr.py over the kit's print
namespace Go.Proofs.Ytcclmaicdmogjaa.P
open Go.RowKit Go.Proofs.YtcclmaicdmogjaaW.PrintWords Go.Proofs.YtcclmaicdmogjaaW.PrintLast Go.Proofs.YtcclmaicdmogjaaW.PrintMore
attribute [local go_sem] max2_int min2_int max_two min_two max_three min_three max_four min_four   -- for this text's walks alone
set_option linter.unusedVariables false
set_option linter.unusedSimpArgs false

/-! ### calamuslaw02_BeCuts: function 11 -/
mutual
def calamuslaw02_BeCuts.j0 : Nat → List Int → List Int → List Int → List Int → List Int → List Int → List Int → Bool → Option (Bool)
  | 0, _, _, _, _, _, _, _, _ => none
  | k + 1, x0, x1, x7, x8, x9, x13, x17, x93 => if x93 = true then (some false) else (calamuslaw02_BeCuts.l0 k x0 x1 x7 x8 x9 x13 x17 (x9.length : Int) 0)
def calamuslaw02_BeCuts.l0 : Nat → List Int → List Int → List Int → List Int → List Int → List Int → List Int → Int → Int → Option (Bool)
  | 0, _, _, _, _, _, _, _, _, _ => none
  | k + 1, x0, x1, x7, x8, x9, x13, x17, x95, x96 => if x96 < x95 then (if 0 ≤ x96 then (if x96 < (x9.length : Int) then (calamuslaw02_BeCuts.l0 k x0 x1 x7 x8 (x9.set (x96 : Int).toNat (((rd x9 x96) + 1) % 256)) x13 x17 x95 (wrap64 (x96 + 1))) else (none)) else (none)) else (calamuslaw02_BeCuts.l1 k x0 x1 x7 x8 x13 x17 (x13.length : Int) 0)
def calamuslaw02_BeCuts.l1 : Nat → List Int → List Int → List Int → List Int → List Int → List Int → Int → Int → Option (Bool)
  | 0, _, _, _, _, _, _, _, _ => none
  | k + 1, x0, x1, x7, x8, x13, x17, x109, x110 => if x110 < x109 then (if 0 ≤ x110 then (if x110 < (x13.length : Int) then (calamuslaw02_BeCuts.l1 k x0 x1 x7 x8 (x13.set (x110 : Int).toNat (((rd x13 x110) + 1) % 256)) x17 x109 (wrap64 (x110 + 1))) else (none)) else (none)) else (calamuslaw02_BeCuts.l2 k x0 x1 x7 x8 x17 (x17.length : Int) 0)
def calamuslaw02_BeCuts.l2 : Nat → List Int → List Int → List Int → List Int → List Int → Int → Int → Option (Bool)
  | 0, _, _, _, _, _, _, _ => none
  | k + 1, x0, x1, x7, x8, x17, x123, x124 => if x124 < x123 then (if 0 ≤ x124 then (if x124 < (x17.length : Int) then (calamuslaw02_BeCuts.l2 k x0 x1 x7 x8 (x17.set (x124 : Int).toNat (((rd x17 x124) + 1) % 256)) x123 (wrap64 (x124 + 1))) else (none)) else (none)) else ((calamusref02_Same.f x7 x0).bind fun t320 => (if t320 = true then ((calamusref02_Same.f x8 x1).bind fun t321 => (some t321)) else (some false)))
end
def calamuslaw02_BeCuts.f (k : Nat) (l0 : List Int) (l1 : List Int) (a2_0 : Int) (a2_1 : Int) (a2_2 : Int) : Option (Bool) := (calamuslaw02_alive.f).bind fun t282 => (if t282 = true then ((calamusref02_Copy.f l0).bind fun t283 => ((calamusref02_Copy.f l1).bind fun t286 => ((be_Cut.f t283 a2_0 a2_1).bind fun bt289 => ((calamusref02_Cut.f l0 a2_0 a2_1).bind fun bt293 => ((be_Lay.f t283 a2_0 t286).bind fun bt297 => ((calamusref02_Lay.f k l0 a2_0 l1).bind fun bt301 => ((be_Pad.f t283 a2_2).bind fun t305 => ((calamusref02_Same.f bt289.1 bt293.1).bind fun t308 => (if t308 = true then (if bt289.2 = bt293.2 then ((calamusref02_Same.f bt297.1 bt301.1).bind fun t309 => (if t309 = true then (if bt297.2 = bt301.2 then ((calamusref02_Pad.f k l0 a2_2).bind fun t310 => ((calamusref02_Same.f t305 t310).bind fun t313 => (calamuslaw02_BeCuts.j0 k l0 l1 t283 t286 bt289.1 bt297.1 t305 (!t313)))) else (calamuslaw02_BeCuts.j0 k l0 l1 t283 t286 bt289.1 bt297.1 t305 true)) else (calamuslaw02_BeCuts.j0 k l0 l1 t283 t286 bt289.1 bt297.1 t305 true))) else (calamuslaw02_BeCuts.j0 k l0 l1 t283 t286 bt289.1 bt297.1 t305 true)) else (calamuslaw02_BeCuts.j0 k l0 l1 t283 t286 bt289.1 bt297.1 t305 true)))))))))) else (some false))
theorem calamuslaw02_BeCuts.mono_l : ∀ k, (∀ y0 y1 y2 y3 y4 y5 y6 y7, LeO (calamuslaw02_BeCuts.j0 k y0 y1 y2 y3 y4 y5 y6 y7) (calamuslaw02_BeCuts.j0 (k + 1) y0 y1 y2 y3 y4 y5 y6 y7)) ∧ (∀ y0 y1 y2 y3 y4 y5 y6 y7 y8, LeO (calamuslaw02_BeCuts.l0 k y0 y1 y2 y3 y4 y5 y6 y7 y8) (calamuslaw02_BeCuts.l0 (k + 1) y0 y1 y2 y3 y4 y5 y6 y7 y8)) ∧ (∀ y0 y1 y2 y3 y4 y5 y6 y7, LeO (calamuslaw02_BeCuts.l1 k y0 y1 y2 y3 y4 y5 y6 y7) (calamuslaw02_BeCuts.l1 (k + 1) y0 y1 y2 y3 y4 y5 y6 y7)) ∧ (∀ y0 y1 y2 y3 y4 y5 y6, LeO (calamuslaw02_BeCuts.l2 k y0 y1 y2 y3 y4 y5 y6) (calamuslaw02_BeCuts.l2 (k + 1) y0 y1 y2 y3 y4 y5 y6))
  | 0 => ⟨fun _ _ _ _ _ _ _ _ r h => by simp [calamuslaw02_BeCuts.j0] at h, fun _ _ _ _ _ _ _ _ _ r h => by simp [calamuslaw02_BeCuts.l0] at h, fun _ _ _ _ _ _ _ _ r h => by simp [calamuslaw02_BeCuts.l1] at h, fun _ _ _ _ _ _ _ r h => by simp [calamuslaw02_BeCuts.l2] at h⟩
  | k + 1 => by
    obtain ⟨ih0, ih1, ih2, ih3⟩ := calamuslaw02_BeCuts.mono_l k
    refine ⟨?_, ?_, ?_, ?_⟩
    · intro y0 y1 y2 y3 y4 y5 y6 y7
      unfold calamuslaw02_BeCuts.j0
      repeat' first
      | (with_reducible exact ih0 _ _ _ _ _ _ _ _)
      | (with_reducible exact ih1 _ _ _ _ _ _ _ _ _)
      | (with_reducible exact ih2 _ _ _ _ _ _ _ _)
      | (with_reducible exact ih3 _ _ _ _ _ _ _)
      | (with_reducible exact calamusref02_Lay.mono _ _ _ _)
      | (with_reducible exact calamusref02_Pad.mono _ _ _)
      | (with_reducible exact LeO.refl _)
      | (with_reducible exact LeO.none _)
      | (with_reducible refine LeO.ite ?_ ?_)
      | (with_reducible refine LeO.bind ?_ (fun _ => ?_))
      | exact ih0 _ _ _ _ _ _ _ _
      | exact ih1 _ _ _ _ _ _ _ _ _
      | exact ih2 _ _ _ _ _ _ _ _
      | exact ih3 _ _ _ _ _ _ _
      | exact calamusref02_Lay.mono _ _ _ _
      | exact calamusref02_Pad.mono _ _ _
      | exact LeO.none _
      | refine LeO.ite ?_ ?_
      | refine LeO.bind ?_ (fun _ => ?_)
    · intro y0 y1 y2 y3 y4 y5 y6 y7 y8
      unfold calamuslaw02_BeCuts.l0
      repeat' first
      | (with_reducible exact ih0 _ _ _ _ _ _ _ _)
      | (with_reducible exact ih1 _ _ _ _ _ _ _ _ _)
      | (with_reducible exact ih2 _ _ _ _ _ _ _ _)
      | (with_reducible exact ih3 _ _ _ _ _ _ _)
      | (with_reducible exact calamusref02_Lay.mono _ _ _ _)
      | (with_reducible exact calamusref02_Pad.mono _ _ _)
      | (with_reducible exact LeO.refl _)
      | (with_reducible exact LeO.none _)
      | (with_reducible refine LeO.ite ?_ ?_)
      | (with_reducible refine LeO.bind ?_ (fun _ => ?_))
      | exact ih0 _ _ _ _ _ _ _ _
      | exact ih1 _ _ _ _ _ _ _ _ _
      | exact ih2 _ _ _ _ _ _ _ _
      | exact ih3 _ _ _ _ _ _ _
      | exact calamusref02_Lay.mono _ _ _ _
      | exact calamusref02_Pad.mono _ _ _
      | exact LeO.none _
      | refine LeO.ite ?_ ?_
      | refine LeO.bind ?_ (fun _ => ?_)
    · intro y0 y1 y2 y3 y4 y5 y6 y7
      unfold calamuslaw02_BeCuts.l1
      repeat' first
      | (with_reducible exact ih0 _ _ _ _ _ _ _ _)
      | (with_reducible exact ih1 _ _ _ _ _ _ _ _ _)
      | (with_reducible exact ih2 _ _ _ _ _ _ _ _)
      | (with_reducible exact ih3 _ _ _ _ _ _ _)
      | (with_reducible exact calamusref02_Lay.mono _ _ _ _)
      | (with_reducible exact calamusref02_Pad.mono _ _ _)
      | (with_reducible exact LeO.refl _)
      | (with_reducible exact LeO.none _)
      | (with_reducible refine LeO.ite ?_ ?_)
      | (with_reducible refine LeO.bind ?_ (fun _ => ?_))
      | exact ih0 _ _ _ _ _ _ _ _
      | exact ih1 _ _ _ _ _ _ _ _ _
      | exact ih2 _ _ _ _ _ _ _ _
      | exact ih3 _ _ _ _ _ _ _
      | exact calamusref02_Lay.mono _ _ _ _
      | exact calamusref02_Pad.mono _ _ _
      | exact LeO.none _
      | refine LeO.ite ?_ ?_
      | refine LeO.bind ?_ (fun _ => ?_)
    · intro y0 y1 y2 y3 y4 y5 y6
      unfold calamuslaw02_BeCuts.l2
      repeat' first
      | (with_reducible exact ih0 _ _ _ _ _ _ _ _)
      | (with_reducible exact ih1 _ _ _ _ _ _ _ _ _)
      | (with_reducible exact ih2 _ _ _ _ _ _ _ _)
      | (with_reducible exact ih3 _ _ _ _ _ _ _)
      | (with_reducible exact calamusref02_Lay.mono _ _ _ _)
      | (with_reducible exact calamusref02_Pad.mono _ _ _)
      | (with_reducible exact LeO.refl _)
      | (with_reducible exact LeO.none _)
      | (with_reducible refine LeO.ite ?_ ?_)
      | (with_reducible refine LeO.bind ?_ (fun _ => ?_))
      | exact ih0 _ _ _ _ _ _ _ _
      | exact ih1 _ _ _ _ _ _ _ _ _
      | exact ih2 _ _ _ _ _ _ _ _
      | exact ih3 _ _ _ _ _ _ _
      | exact calamusref02_Lay.mono _ _ _ _
      | exact calamusref02_Pad.mono _ _ _
      | exact LeO.none _
      | refine LeO.ite ?_ ?_
      | refine LeO.bind ?_ (fun _ => ?_)
theorem calamuslaw02_BeCuts.mono : ∀ a0 a1 a2 a3 a4 k, LeO (calamuslaw02_BeCuts.f k a0 a1 a2 a3 a4) (calamuslaw02_BeCuts.f (k + 1) a0 a1 a2 a3 a4) := by
  intro a0 a1 a2 a3 a4 k
  obtain ⟨ih0, ih1, ih2, ih3⟩ := calamuslaw02_BeCuts.mono_l k
  unfold calamuslaw02_BeCuts.f
  repeat' first
      | (with_reducible exact ih0 _ _ _ _ _ _ _ _)
      | (with_reducible exact ih1 _ _ _ _ _ _ _ _ _)
      | (with_reducible exact ih2 _ _ _ _ _ _ _ _)
      | (with_reducible exact ih3 _ _ _ _ _ _ _)
      | (with_reducible exact calamusref02_Lay.mono _ _ _ _)
      | (with_reducible exact calamusref02_Pad.mono _ _ _)
      | (with_reducible exact LeO.refl _)
      | (with_reducible exact LeO.none _)
      | (with_reducible refine LeO.ite ?_ ?_)
      | (with_reducible refine LeO.bind ?_ (fun _ => ?_))
      | exact ih0 _ _ _ _ _ _ _ _
      | exact ih1 _ _ _ _ _ _ _ _ _
      | exact ih2 _ _ _ _ _ _ _ _
      | exact ih3 _ _ _ _ _ _ _
      | exact calamusref02_Lay.mono _ _ _ _
      | exact calamusref02_Pad.mono _ _ _
      | exact LeO.none _
      | refine LeO.ite ?_ ?_
      | refine LeO.bind ?_ (fun _ => ?_)
set_option maxHeartbeats 8000000 in
set_option maxRecDepth 100000 in
theorem calamuslaw02_BeCuts.calls (k : Nat) (A0 : Option Addr) (c0 : Nat) (l0 : List Int) (A1 : Option Addr) (c1 : Nat) (l1 : List Int) (a2_0 : Int) (a2_1 : Int) (a2_2 : Int) (r : Bool) (w : World) (hr0 : Kd.C (Kd.int .u8) w A0 l0.length l0) (hc0 : l0.length ≤ c0) (hr1 : Kd.C (Kd.int .u8) w A1 l1.length l1) (hc1 : l1.length ≤ c1) (h : calamuslaw02_BeCuts.f k l0 l1 a2_0 a2_1 a2_2 = some r) :
    Calls Try.prog 11 #[.slice A0 l0.length c0, .slice A1 l1.length c1, .agg #[.int .i64 a2_0, .int .i64 a2_1, .int .i64 a2_2]] w fun e w' => e = .returned (.bool r) ∧ Below w.heap.size w w' := by
  have hu46 := Try.underlying46
  have HR0 := Aside0.mk hr0
  have HC0 := Aside0.mk hc0
  clear hr0 hc0
  have HR1 := Aside0.mk hr1
  have HC1 := Aside0.mk hc1
  clear hr1 hc1
  have HB := Aside0.mk (Below.refl w.heap.size w)
  have H : ((calamuslaw02_alive.f).bind fun t282 => (if t282 = true then ((calamusref02_Copy.f l0).bind fun t283 => ((calamusref02_Copy.f l1).bind fun t286 => ((be_Cut.f t283 a2_0 a2_1).bind fun bt289 => ((calamusref02_Cut.f l0 a2_0 a2_1).bind fun bt293 => ((be_Lay.f t283 a2_0 t286).bind fun bt297 => ((calamusref02_Lay.f k l0 a2_0 l1).bind fun bt301 => ((be_Pad.f t283 a2_2).bind fun t305 => ((calamusref02_Same.f bt289.1 bt293.1).bind fun t308 => (if t308 = true then (if bt289.2 = bt293.2 then ((calamusref02_Same.f bt297.1 bt301.1).bind fun t309 => (if t309 = true then (if bt297.2 = bt301.2 then ((calamusref02_Pad.f k l0 a2_2).bind fun t310 => ((calamusref02_Same.f t305 t310).bind fun t313 => (calamuslaw02_BeCuts.j0 k l0 l1 t283 t286 bt289.1 bt297.1 t305 (!t313)))) else (calamuslaw02_BeCuts.j0 k l0 l1 t283 t286 bt289.1 bt297.1 t305 true)) else (calamuslaw02_BeCuts.j0 k l0 l1 t283 t286 bt289.1 bt297.1 t305 true))) else (calamuslaw02_BeCuts.j0 k l0 l1 t283 t286 bt289.1 bt297.1 t305 true)) else (calamuslaw02_BeCuts.j0 k l0 l1 t283 t286 bt289.1 bt297.1 t305 true)))))))))) else (some false))) = some r := h
  clear h
  replace H := Option.bind_eq_some_iff.mp H
  obtain ⟨t282, A40, H⟩ := H
  replace H : (if t282 = true then ((calamusref02_Copy.f l0).bind fun t283 => ((calamusref02_Copy.f l1).bind fun t286 => ((be_Cut.f t283 a2_0 a2_1).bind fun bt289 => ((calamusref02_Cut.f l0 a2_0 a2_1).bind fun bt293 => ((be_Lay.f t283 a2_0 t286).bind fun bt297 => ((calamusref02_Lay.f k l0 a2_0 l1).bind fun bt301 => ((be_Pad.f t283 a2_2).bind fun t305 => ((calamusref02_Same.f bt289.1 bt293.1).bind fun t308 => (if t308 = true then (if bt289.2 = bt293.2 then ((calamusref02_Same.f bt297.1 bt301.1).bind fun t309 => (if t309 = true then (if bt297.2 = bt301.2 then ((calamusref02_Pad.f k l0 a2_2).bind fun t310 => ((calamusref02_Same.f t305 t310).bind fun t313 => (calamuslaw02_BeCuts.j0 k l0 l1 t283 t286 bt289.1 bt297.1 t305 (!t313)))) else (calamuslaw02_BeCuts.j0 k l0 l1 t283 t286 bt289.1 bt297.1 t305 true)) else (calamuslaw02_BeCuts.j0 k l0 l1 t283 t286 bt289.1 bt297.1 t305 true))) else (calamuslaw02_BeCuts.j0 k l0 l1 t283 t286 bt289.1 bt297.1 t305 true)) else (calamuslaw02_BeCuts.j0 k l0 l1 t283 t286 bt289.1 bt297.1 t305 true)))))))))) else (some false)) = some r := H
  have A4 := Aside0.mk A40
  clear A40
  by_cases c5 : t282 = true
  · subst c5
    have H1 : ((calamusref02_Copy.f l0).bind fun t283 => ((calamusref02_Copy.f l1).bind fun t286 => ((be_Cut.f t283 a2_0 a2_1).bind fun bt289 => ((calamusref02_Cut.f l0 a2_0 a2_1).bind fun bt293 => ((be_Lay.f t283 a2_0 t286).bind fun bt297 => ((calamusref02_Lay.f k l0 a2_0 l1).bind fun bt301 => ((be_Pad.f t283 a2_2).bind fun t305 => ((calamusref02_Same.f bt289.1 bt293.1).bind fun t308 => (if t308 = true then (if bt289.2 = bt293.2 then ((calamusref02_Same.f bt297.1 bt301.1).bind fun t309 => (if t309 = true then (if bt297.2 = bt301.2 then ((calamusref02_Pad.f k l0 a2_2).bind fun t310 => ((calamusref02_Same.f t305 t310).bind fun t313 => (calamuslaw02_BeCuts.j0 k l0 l1 t283 t286 bt289.1 bt297.1 t305 (!t313)))) else (calamuslaw02_BeCuts.j0 k l0 l1 t283 t286 bt289.1 bt297.1 t305 true)) else (calamuslaw02_BeCuts.j0 k l0 l1 t283 t286 bt289.1 bt297.1 t305 true))) else (calamuslaw02_BeCuts.j0 k l0 l1 t283 t286 bt289.1 bt297.1 t305 true)) else (calamuslaw02_BeCuts.j0 k l0 l1 t283 t286 bt289.1 bt297.1 t305 true)))))))))) = some r := by rw [if_pos rfl] at H; exact H
    clear H
    have H := H1
    clear H1
    replace H := Option.bind_eq_some_iff.mp H
    obtain ⟨t283, A60, H⟩ := H
    replace H : ((calamusref02_Copy.f l1).bind fun t286 => ((be_Cut.f t283 a2_0 a2_1).bind fun bt289 => ((calamusref02_Cut.f l0 a2_0 a2_1).bind fun bt293 => ((be_Lay.f t283 a2_0 t286).bind fun bt297 => ((calamusref02_Lay.f k l0 a2_0 l1).bind fun bt301 => ((be_Pad.f t283 a2_2).bind fun t305 => ((calamusref02_Same.f bt289.1 bt293.1).bind fun t308 => (if t308 = true then (if bt289.2 = bt293.2 then ((calamusref02_Same.f bt297.1 bt301.1).bind fun t309 => (if t309 = true then (if bt297.2 = bt301.2 then ((calamusref02_Pad.f k l0 a2_2).bind fun t310 => ((calamusref02_Same.f t305 t310).bind fun t313 => (calamuslaw02_BeCuts.j0 k l0 l1 t283 t286 bt289.1 bt297.1 t305 (!t313)))) else (calamuslaw02_BeCuts.j0 k l0 l1 t283 t286 bt289.1 bt297.1 t305 true)) else (calamuslaw02_BeCuts.j0 k l0 l1 t283 t286 bt289.1 bt297.1 t305 true))) else (calamuslaw02_BeCuts.j0 k l0 l1 t283 t286 bt289.1 bt297.1 t305 true)) else (calamuslaw02_BeCuts.j0 k l0 l1 t283 t286 bt289.1 bt297.1 t305 true))))))))) = some r := H
    have A6 := Aside0.mk A60
    clear A60
    replace H := Option.bind_eq_some_iff.mp H
    obtain ⟨t286, A70, H⟩ := H
    replace H : ((be_Cut.f t283 a2_0 a2_1).bind fun bt289 => ((calamusref02_Cut.f l0 a2_0 a2_1).bind fun bt293 => ((be_Lay.f t283 a2_0 t286).bind fun bt297 => ((calamusref02_Lay.f k l0 a2_0 l1).bind fun bt301 => ((be_Pad.f t283 a2_2).bind fun t305 => ((calamusref02_Same.f bt289.1 bt293.1).bind fun t308 => (if t308 = true then (if bt289.2 = bt293.2 then ((calamusref02_Same.f bt297.1 bt301.1).bind fun t309 => (if t309 = true then (if bt297.2 = bt301.2 then ((calamusref02_Pad.f k l0 a2_2).bind fun t310 => ((calamusref02_Same.f t305 t310).bind fun t313 => (calamuslaw02_BeCuts.j0 k l0 l1 t283 t286 bt289.1 bt297.1 t305 (!t313)))) else (calamuslaw02_BeCuts.j0 k l0 l1 t283 t286 bt289.1 bt297.1 t305 true)) else (calamuslaw02_BeCuts.j0 k l0 l1 t283 t286 bt289.1 bt297.1 t305 true))) else (calamuslaw02_BeCuts.j0 k l0 l1 t283 t286 bt289.1 bt297.1 t305 true)) else (calamuslaw02_BeCuts.j0 k l0 l1 t283 t286 bt289.1 bt297.1 t305 true)))))))) = some r := H
    have A7 := Aside0.mk A70
    clear A70
    replace H := Option.bind_eq_some_iff.mp H
    obtain ⟨⟨t289, t290⟩, A80, H⟩ := H
    replace H : ((calamusref02_Cut.f l0 a2_0 a2_1).bind fun bt293 => ((be_Lay.f t283 a2_0 t286).bind fun bt297 => ((calamusref02_Lay.f k l0 a2_0 l1).bind fun bt301 => ((be_Pad.f t283 a2_2).bind fun t305 => ((calamusref02_Same.f t289 bt293.1).bind fun t308 => (if t308 = true then (if t290 = bt293.2 then ((calamusref02_Same.f bt297.1 bt301.1).bind fun t309 => (if t309 = true then (if bt297.2 = bt301.2 then ((calamusref02_Pad.f k l0 a2_2).bind fun t310 => ((calamusref02_Same.f t305 t310).bind fun t313 => (calamuslaw02_BeCuts.j0 k l0 l1 t283 t286 t289 bt297.1 t305 (!t313)))) else (calamuslaw02_BeCuts.j0 k l0 l1 t283 t286 t289 bt297.1 t305 true)) else (calamuslaw02_BeCuts.j0 k l0 l1 t283 t286 t289 bt297.1 t305 true))) else (calamuslaw02_BeCuts.j0 k l0 l1 t283 t286 t289 bt297.1 t305 true)) else (calamuslaw02_BeCuts.j0 k l0 l1 t283 t286 t289 bt297.1 t305 true))))))) = some r := H
    have A8 := Aside0.mk A80
    clear A80
    replace H := Option.bind_eq_some_iff.mp H
    obtain ⟨⟨t293, t294⟩, A90, H⟩ := H
    replace H : ((be_Lay.f t283 a2_0 t286).bind fun bt297 => ((calamusref02_Lay.f k l0 a2_0 l1).bind fun bt301 => ((be_Pad.f t283 a2_2).bind fun t305 => ((calamusref02_Same.f t289 t293).bind fun t308 => (if t308 = true then (if t290 = t294 then ((calamusref02_Same.f bt297.1 bt301.1).bind fun t309 => (if t309 = true then (if bt297.2 = bt301.2 then ((calamusref02_Pad.f k l0 a2_2).bind fun t310 => ((calamusref02_Same.f t305 t310).bind fun t313 => (calamuslaw02_BeCuts.j0 k l0 l1 t283 t286 t289 bt297.1 t305 (!t313)))) else (calamuslaw02_BeCuts.j0 k l0 l1 t283 t286 t289 bt297.1 t305 true)) else (calamuslaw02_BeCuts.j0 k l0 l1 t283 t286 t289 bt297.1 t305 true))) else (calamuslaw02_BeCuts.j0 k l0 l1 t283 t286 t289 bt297.1 t305 true)) else (calamuslaw02_BeCuts.j0 k l0 l1 t283 t286 t289 bt297.1 t305 true)))))) = some r := H
    have A9 := Aside0.mk A90
    clear A90
    replace H := Option.bind_eq_some_iff.mp H
    obtain ⟨⟨t297, t298⟩, A100, H⟩ := H
    replace H : ((calamusref02_Lay.f k l0 a2_0 l1).bind fun bt301 => ((be_Pad.f t283 a2_2).bind fun t305 => ((calamusref02_Same.f t289 t293).bind fun t308 => (if t308 = true then (if t290 = t294 then ((calamusref02_Same.f t297 bt301.1).bind fun t309 => (if t309 = true then (if t298 = bt301.2 then ((calamusref02_Pad.f k l0 a2_2).bind fun t310 => ((calamusref02_Same.f t305 t310).bind fun t313 => (calamuslaw02_BeCuts.j0 k l0 l1 t283 t286 t289 t297 t305 (!t313)))) else (calamuslaw02_BeCuts.j0 k l0 l1 t283 t286 t289 t297 t305 true)) else (calamuslaw02_BeCuts.j0 k l0 l1 t283 t286 t289 t297 t305 true))) else (calamuslaw02_BeCuts.j0 k l0 l1 t283 t286 t289 t297 t305 true)) else (calamuslaw02_BeCuts.j0 k l0 l1 t283 t286 t289 t297 t305 true))))) = some r := H
    have A10 := Aside0.mk A100
    clear A100
    replace H := Option.bind_eq_some_iff.mp H
    obtain ⟨⟨t301, t302⟩, A110, H⟩ := H
    replace H : ((be_Pad.f t283 a2_2).bind fun t305 => ((calamusref02_Same.f t289 t293).bind fun t308 => (if t308 = true then (if t290 = t294 then ((calamusref02_Same.f t297 t301).bind fun t309 => (if t309 = true then (if t298 = t302 then ((calamusref02_Pad.f k l0 a2_2).bind fun t310 => ((calamusref02_Same.f t305 t310).bind fun t313 => (calamuslaw02_BeCuts.j0 k l0 l1 t283 t286 t289 t297 t305 (!t313)))) else (calamuslaw02_BeCuts.j0 k l0 l1 t283 t286 t289 t297 t305 true)) else (calamuslaw02_BeCuts.j0 k l0 l1 t283 t286 t289 t297 t305 true))) else (calamuslaw02_BeCuts.j0 k l0 l1 t283 t286 t289 t297 t305 true)) else (calamuslaw02_BeCuts.j0 k l0 l1 t283 t286 t289 t297 t305 true)))) = some r := H
    have A11 := Aside0.mk A110
    clear A110
    replace H := Option.bind_eq_some_iff.mp H
    obtain ⟨t305, A120, H⟩ := H
    replace H : ((calamusref02_Same.f t289 t293).bind fun t308 => (if t308 = true then (if t290 = t294 then ((calamusref02_Same.f t297 t301).bind fun t309 => (if t309 = true then (if t298 = t302 then ((calamusref02_Pad.f k l0 a2_2).bind fun t310 => ((calamusref02_Same.f t305 t310).bind fun t313 => (calamuslaw02_BeCuts.j0 k l0 l1 t283 t286 t289 t297 t305 (!t313)))) else (calamuslaw02_BeCuts.j0 k l0 l1 t283 t286 t289 t297 t305 true)) else (calamuslaw02_BeCuts.j0 k l0 l1 t283 t286 t289 t297 t305 true))) else (calamuslaw02_BeCuts.j0 k l0 l1 t283 t286 t289 t297 t305 true)) else (calamuslaw02_BeCuts.j0 k l0 l1 t283 t286 t289 t297 t305 true))) = some r := H
    have A12 := Aside0.mk A120
    clear A120
    have HC13 := Aside0.mk H
    clear H
    go_enter Try.func11, Try.ntmps11
    go_upto_region 9 with (first | ((with_reducible refine gate_dst (N := 5) rfl ?_); refine box_event ?hg (N := 5) ?hd (cs := #[.int .i64 a2_0, .int .i64 a2_1, .int .i64 a2_2]) (t := 46) ?hr ?_; (case hd => rfl); (case hg => rfl); (case hr => first | (go_simp; done) | (go_simp; rfl)); intro gb281 hg w14 hbox hb; have n0_ := Aside0.mk (below_step (by repeat (first | (with_reducible first | exact HB.out | apply below_alloc | apply pw_below_drewN | apply below_drew1) | exact HB.out)) hb); have n1_ := Aside0.mk (hbox); have n2_ := Aside0.mk ((by rw [hg]; exact (below_size (by repeat (first | (with_reducible first | exact HB.out | apply below_alloc | apply pw_below_drewN | apply below_drew1) | exact HB.out))) : w.heap.size ≤ gb281)); have n3_ := Aside0.mk ((by rw [hg]; exact (below_size (by repeat (first | (with_reducible first | exact HB.out | apply below_alloc | apply pw_below_drewN | apply below_drew1) | exact HB.out))) : w.heap.size ≤ gb281)); clear HB; have HB := n0_; have BK281 := n1_; have GW281 := n2_; have GE281 := n3_; clear n0_ n1_ n2_ n3_; clear hb hbox hg) | ((with_reducible refine gate_callee (f := 35) rfl ?_); refine goesL_ (some 21) rfl rfl Try.func35 (by kernel_rfl) rfl #[] rfl (by (try simp only [List.map_toArray, List.map_cons, List.map_nil]); first | done | rfl | (simp only [List.length_drop, List.length_take]; rfl)) ?_; (with_reducible refine (calamuslaw02_alive.calls  true _ A4.out).mono ?_); rintro e w15 ⟨rfl, hb⟩; refine ⟨_, rfl, ?_⟩; have n0_ := Aside0.mk (blk_below (g := gb281) (o := .cells #[.int .i64 a2_0, .int .i64 a2_1, .int .i64 a2_2] 46 (0, 0)) (by (with_reducible repeat (first | refine blk_drewN ?_ _ | refine blk_drew ?_ | refine blk_alloc ?_ _)); exact BK281.out) hb); have n1_ := Aside0.mk (below_step (by repeat (first | (with_reducible first | exact HB.out | apply below_alloc | apply pw_below_drewN | apply below_drew1 | refine below_set ?_ GE281.out) | exact HB.out)) hb); clear BK281; clear HB; have BK281 := n0_; have HB := n1_; clear n0_ n1_; (try clear hb); (try clear hb2); (try clear hk); (try clear hi)) | ((with_reducible refine gate_callee (f := 26) rfl ?_); refine goesL_ (some 24) rfl rfl Try.func26 (by kernel_rfl) rfl #[.slice A0 l0.length c0] rfl (by (try simp only [List.map_toArray, List.map_cons, List.map_nil]); first | done | rfl | (simp only [List.length_drop, List.length_take]; rfl)) ?_; (with_reducible refine (calamusref02_Copy.calls _ _ l0 t283 _ ?side1 ?side2 A6.out).mono ?_); (case side1 => repeat (first | exact (Kd.C_below HR0.out HB.out) | (with_reducible refine Kd.C_alloc ?_ _) | (with_reducible refine Kd.C_drewN ?_ _) | (with_reducible refine Kd.C_drew ?_))); (case side2 => exact HC0.out); rintro e w16 ⟨v284, rfl, ho0, hb⟩; refine ⟨_, rfl, ?_⟩; have n0_ := Aside0.mk (Kd.R_lower ho0 (below_size (by repeat (first | (with_reducible first | exact HB.out | apply below_alloc | apply pw_below_drewN | apply below_drew1 | refine below_set ?_ GE281.out) | exact HB.out)))); have n1_ := Aside0.mk (blk_below (g := gb281) (o := .cells #[.int .i64 a2_0, .int .i64 a2_1, .int .i64 a2_2] 46 (0, 0)) (by (with_reducible repeat (first | refine blk_drewN ?_ _ | refine blk_drew ?_ | refine blk_alloc ?_ _)); exact BK281.out) hb); have n2_ := Aside0.mk (below_step (by repeat (first | (with_reducible first | exact HB.out | apply below_alloc | apply pw_below_drewN | apply below_drew1 | refine below_set ?_ GE281.out) | exact HB.out)) hb); clear BK281; clear HB; have HO285 := n0_; have BK281 := n1_; have HB := n2_; clear n0_ n1_ n2_; (try clear hb); (try clear hb2); (try clear hk); (try clear hi); (try clear ho0)) | ((with_reducible refine gate_callee (f := 26) rfl ?_); refine goesL_ (some 26) rfl rfl Try.func26 (by kernel_rfl) rfl #[.slice A1 l1.length c1] rfl (by (try simp only [List.map_toArray, List.map_cons, List.map_nil]); first | done | rfl | (simp only [List.length_drop, List.length_take]; rfl)) ?_; (with_reducible refine (calamusref02_Copy.calls _ _ l1 t286 _ ?side1 ?side2 A7.out).mono ?_); (case side1 => repeat (first | exact (Kd.C_below HR1.out HB.out) | (with_reducible refine Kd.C_alloc ?_ _) | (with_reducible refine Kd.C_drewN ?_ _) | (with_reducible refine Kd.C_drew ?_))); (case side2 => exact HC1.out); rintro e w17 ⟨v287, rfl, ho0, hb⟩; refine ⟨_, rfl, ?_⟩; have n0_ := Aside0.mk (Kd.R_elder' (by (with_reducible repeat (first | apply Kd.R_alloc | apply Kd.R_drewN | apply Kd.R_drew)); exact HO285.out) (Kd.R_base ho0) hb); have n1_ := Aside0.mk (Kd.R_lower (Kd.R_new' ho0 (Kd.R_lt (by (with_reducible repeat (first | apply Kd.R_alloc | apply Kd.R_drewN | apply Kd.R_drew)); exact HO285.out))) (below_size (by repeat (first | (with_reducible first | exact HB.out | apply below_alloc | apply pw_below_drewN | apply below_drew1 | refine below_set ?_ GE281.out) | exact HB.out)))); have n2_ := Aside0.mk (blk_below (g := gb281) (o := .cells #[.int .i64 a2_0, .int .i64 a2_1, .int .i64 a2_2] 46 (0, 0)) (by (with_reducible repeat (first | refine blk_drewN ?_ _ | refine blk_drew ?_ | refine blk_alloc ?_ _)); exact BK281.out) hb); have n3_ := Aside0.mk (below_step (by repeat (first | (with_reducible first | exact HB.out | apply below_alloc | apply pw_below_drewN | apply below_drew1 | refine below_set ?_ GE281.out) | exact HB.out)) hb); clear HO285; clear BK281; clear HB; have HO285 := n0_; have HO288 := n1_; have BK281 := n2_; have HB := n3_; clear n0_ n1_ n2_ n3_; (try clear hb); (try clear hb2); (try clear hk); (try clear hi); (try clear ho0); have hcz18_0 : w17.cell? ⟨gb281, 0, none⟩ = some (.int .i64 a2_0) := (blk_cell BK281.out 0).trans rfl; have hcz18_1 : w17.cell? ⟨gb281, 1, none⟩ = some (.int .i64 a2_1) := (blk_cell BK281.out 1).trans rfl; have hcz18_2 : w17.cell? ⟨gb281, 2, none⟩ = some (.int .i64 a2_2) := (blk_cell BK281.out 2).trans rfl; have hfz18_0 := blk_frozen BK281.out 0; have hfz18_1 := blk_frozen BK281.out 1; have hfz18_2 := blk_frozen BK281.out 2; obtain ⟨Ao19, co19, eo19⟩ := Kd.R_slice HO285.out; subst eo19) | ((with_reducible refine gate_callee (f := 41) rfl ?_); refine goesL_ (some 33) rfl rfl Try.func41 (by kernel_rfl) rfl #[.slice Ao19 t283.length co19, .int .i64 a2_0, .int .i64 a2_1] rfl (by (try simp only [List.map_toArray, List.map_cons, List.map_nil]); first | done | rfl | (simp only [List.length_drop, List.length_take]; rfl)) ?_; (with_reducible refine (be_Cut.calls _ _ t283 a2_0 a2_1 t289 t290 _ ?side1 ?side2 A8.out).mono ?_); (case side1 => repeat (first | exact (Kd.R_reads' HO285.out).2.2 | (with_reducible refine Kd.C_alloc ?_ _) | (with_reducible refine Kd.C_drewN ?_ _) | (with_reducible refine Kd.C_drew ?_))); (case side2 => exact (Kd.R_reads' HO285.out).2.1); rintro e w20 ⟨v291, rfl, ho0, hb⟩; refine ⟨_, rfl, ?_⟩; have n0_ := Aside0.mk (Kd.R_elder' (by (with_reducible repeat (first | apply Kd.R_alloc | apply Kd.R_drewN | apply Kd.R_drew)); exact HO285.out) (Kd.R_base ho0) hb); have n1_ := Aside0.mk (Kd.R_elder' (by (with_reducible repeat (first | apply Kd.R_alloc | apply Kd.R_drewN | apply Kd.R_drew)); exact HO288.out) (Kd.R_base ho0) hb); have n2_ := Aside0.mk (Kd.R_lower (Kd.R_new' (Kd.R_new' ho0 (Kd.R_lt (by (with_reducible repeat (first | apply Kd.R_alloc | apply Kd.R_drewN | apply Kd.R_drew)); exact HO285.out))) (Kd.R_lt (by (with_reducible repeat (first | apply Kd.R_alloc | apply Kd.R_drewN | apply Kd.R_drew)); exact HO288.out))) (below_size (by repeat (first | (with_reducible first | exact HB.out | apply below_alloc | apply pw_below_drewN | apply below_drew1 | refine below_set ?_ GE281.out) | exact HB.out)))); have n3_ := Aside0.mk (blk_below (g := gb281) (o := .cells #[.int .i64 a2_0, .int .i64 a2_1, .int .i64 a2_2] 46 (0, 0)) (by (with_reducible repeat (first | refine blk_drewN ?_ _ | refine blk_drew ?_ | refine blk_alloc ?_ _)); exact BK281.out) hb); have n4_ := Aside0.mk (below_step (by repeat (first | (with_reducible first | exact HB.out | apply below_alloc | apply pw_below_drewN | apply below_drew1 | refine below_set ?_ GE281.out) | exact HB.out)) hb); clear HO285; clear HO288; clear BK281; clear HB; have HO285 := n0_; have HO288 := n1_; have HO292 := n2_; have BK281 := n3_; have HB := n4_; clear n0_ n1_ n2_ n3_ n4_; (try clear hb); (try clear hb2); (try clear hk); (try clear hi); (try clear ho0); have hcz21_0 : w20.cell? ⟨gb281, 0, none⟩ = some (.int .i64 a2_0) := (blk_cell BK281.out 0).trans rfl; have hcz21_1 : w20.cell? ⟨gb281, 1, none⟩ = some (.int .i64 a2_1) := (blk_cell BK281.out 1).trans rfl; have hcz21_2 : w20.cell? ⟨gb281, 2, none⟩ = some (.int .i64 a2_2) := (blk_cell BK281.out 2).trans rfl; have hfz21_0 := blk_frozen BK281.out 0; have hfz21_1 := blk_frozen BK281.out 1; have hfz21_2 := blk_frozen BK281.out 2) | ((with_reducible refine gate_callee (f := 42) rfl ?_); refine goesL_ (some 42) rfl rfl Try.func42 (by kernel_rfl) rfl #[.slice A0 l0.length c0, .int .i64 a2_0, .int .i64 a2_1] rfl (by (try simp only [List.map_toArray, List.map_cons, List.map_nil]); first | done | rfl | (simp only [List.length_drop, List.length_take]; rfl)) ?_; (with_reducible refine (calamusref02_Cut.calls _ _ l0 a2_0 a2_1 t293 t294 _ ?side1 ?side2 A9.out).mono ?_); (case side1 => repeat (first | exact (Kd.C_below HR0.out HB.out) | (with_reducible refine Kd.C_alloc ?_ _) | (with_reducible refine Kd.C_drewN ?_ _) | (with_reducible refine Kd.C_drew ?_))); (case side2 => exact HC0.out); rintro e w22 ⟨v295, rfl, ho0, hb⟩; refine ⟨_, rfl, ?_⟩; have n0_ := Aside0.mk (Kd.R_elder' (by (with_reducible repeat (first | apply Kd.R_alloc | apply Kd.R_drewN | apply Kd.R_drew)); exact HO285.out) (Kd.R_base ho0) hb); have n1_ := Aside0.mk (Kd.R_elder' (by (with_reducible repeat (first | apply Kd.R_alloc | apply Kd.R_drewN | apply Kd.R_drew)); exact HO288.out) (Kd.R_base ho0) hb); have n2_ := Aside0.mk (Kd.R_elder' (by (with_reducible repeat (first | apply Kd.R_alloc | apply Kd.R_drewN | apply Kd.R_drew)); exact HO292.out) (Kd.R_base ho0) hb); have n3_ := Aside0.mk (Kd.R_lower (Kd.R_new' (Kd.R_new' (Kd.R_new' ho0 (Kd.R_lt (by (with_reducible repeat (first | apply Kd.R_alloc | apply Kd.R_drewN | apply Kd.R_drew)); exact HO285.out))) (Kd.R_lt (by (with_reducible repeat (first | apply Kd.R_alloc | apply Kd.R_drewN | apply Kd.R_drew)); exact HO288.out))) (Kd.R_lt (by (with_reducible repeat (first | apply Kd.R_alloc | apply Kd.R_drewN | apply Kd.R_drew)); exact HO292.out))) (below_size (by repeat (first | (with_reducible first | exact HB.out | apply below_alloc | apply pw_below_drewN | apply below_drew1 | refine below_set ?_ GE281.out) | exact HB.out)))); have n4_ := Aside0.mk (blk_below (g := gb281) (o := .cells #[.int .i64 a2_0, .int .i64 a2_1, .int .i64 a2_2] 46 (0, 0)) (by (with_reducible repeat (first | refine blk_drewN ?_ _ | refine blk_drew ?_ | refine blk_alloc ?_ _)); exact BK281.out) hb); have n5_ := Aside0.mk (below_step (by repeat (first | (with_reducible first | exact HB.out | apply below_alloc | apply pw_below_drewN | apply below_drew1 | refine below_set ?_ GE281.out) | exact HB.out)) hb); clear HO285; clear HO288; clear HO292; clear BK281; clear HB; have HO285 := n0_; have HO288 := n1_; have HO292 := n2_; have HO296 := n3_; have BK281 := n4_; have HB := n5_; clear n0_ n1_ n2_ n3_ n4_ n5_; (try clear hb); (try clear hb2); (try clear hk); (try clear hi); (try clear ho0); have hcz23_0 : w22.cell? ⟨gb281, 0, none⟩ = some (.int .i64 a2_0) := (blk_cell BK281.out 0).trans rfl; have hcz23_1 : w22.cell? ⟨gb281, 1, none⟩ = some (.int .i64 a2_1) := (blk_cell BK281.out 1).trans rfl; have hcz23_2 : w22.cell? ⟨gb281, 2, none⟩ = some (.int .i64 a2_2) := (blk_cell BK281.out 2).trans rfl; have hfz23_0 := blk_frozen BK281.out 0; have hfz23_1 := blk_frozen BK281.out 1; have hfz23_2 := blk_frozen BK281.out 2; obtain ⟨Ao24, co24, eo24⟩ := Kd.R_slice HO288.out; subst eo24) | ((with_reducible refine gate_callee (f := 43) rfl ?_); refine goesL_ (some 50) rfl rfl Try.func43 (by kernel_rfl) rfl #[.slice Ao19 t283.length co19, .int .i64 a2_0, .slice Ao24 t286.length co24] rfl (by (try simp only [List.map_toArray, List.map_cons, List.map_nil]); first | done | rfl | (simp only [List.length_drop, List.length_take]; rfl)) ?_; (with_reducible refine (be_Lay.calls _ _ t283 a2_0 _ _ t286 t297 t298 _ ?side1 ?side2 ?side3 ?side4 A10.out).mono ?_); (case side1 => repeat (first | exact (Kd.R_reads' HO285.out).2.2 | (with_reducible refine Kd.C_alloc ?_ _) | (with_reducible refine Kd.C_drewN ?_ _) | (with_reducible refine Kd.C_drew ?_))); (case side2 => exact (Kd.R_reads' HO285.out).2.1); (case side3 => repeat (first | exact (Kd.R_reads' HO288.out).2.2 | (with_reducible refine Kd.C_alloc ?_ _) | (with_reducible refine Kd.C_drewN ?_ _) | (with_reducible refine Kd.C_drew ?_))); (case side4 => exact (Kd.R_reads' HO288.out).2.1); rintro e w25 ⟨v299, rfl, ho0, hb⟩; refine ⟨_, rfl, ?_⟩; have n0_ := Aside0.mk (Kd.R_elder' (by (with_reducible repeat (first | apply Kd.R_alloc | apply Kd.R_drewN | apply Kd.R_drew)); exact HO285.out) (Kd.R_base ho0) hb); have n1_ := Aside0.mk (Kd.R_elder' (by (with_reducible repeat (first | apply Kd.R_alloc | apply Kd.R_drewN | apply Kd.R_drew)); exact HO288.out) (Kd.R_base ho0) hb); have n2_ := Aside0.mk (Kd.R_elder' (by (with_reducible repeat (first | apply Kd.R_alloc | apply Kd.R_drewN | apply Kd.R_drew)); exact HO292.out) (Kd.R_base ho0) hb); have n3_ := Aside0.mk (Kd.R_elder' (by (with_reducible repeat (first | apply Kd.R_alloc | apply Kd.R_drewN | apply Kd.R_drew)); exact HO296.out) (Kd.R_base ho0) hb); have n4_ := Aside0.mk (Kd.R_lower (Kd.R_new' (Kd.R_new' (Kd.R_new' (Kd.R_new' ho0 (Kd.R_lt (by (with_reducible repeat (first | apply Kd.R_alloc | apply Kd.R_drewN | apply Kd.R_drew)); exact HO285.out))) (Kd.R_lt (by (with_reducible repeat (first | apply Kd.R_alloc | apply Kd.R_drewN | apply Kd.R_drew)); exact HO288.out))) (Kd.R_lt (by (with_reducible repeat (first | apply Kd.R_alloc | apply Kd.R_drewN | apply Kd.R_drew)); exact HO292.out))) (Kd.R_lt (by (with_reducible repeat (first | apply Kd.R_alloc | apply Kd.R_drewN | apply Kd.R_drew)); exact HO296.out))) (below_size (by repeat (first | (with_reducible first | exact HB.out | apply below_alloc | apply pw_below_drewN | apply below_drew1 | refine below_set ?_ GE281.out) | exact HB.out)))); have n5_ := Aside0.mk (blk_below (g := gb281) (o := .cells #[.int .i64 a2_0, .int .i64 a2_1, .int .i64 a2_2] 46 (0, 0)) (by (with_reducible repeat (first | refine blk_drewN ?_ _ | refine blk_drew ?_ | refine blk_alloc ?_ _)); exact BK281.out) hb); have n6_ := Aside0.mk (below_step (by repeat (first | (with_reducible first | exact HB.out | apply below_alloc | apply pw_below_drewN | apply below_drew1 | refine below_set ?_ GE281.out) | exact HB.out)) hb); clear HO285; clear HO288; clear HO292; clear HO296; clear BK281; clear HB; have HO285 := n0_; have HO288 := n1_; have HO292 := n2_; have HO296 := n3_; have HO300 := n4_; have BK281 := n5_; have HB := n6_; clear n0_ n1_ n2_ n3_ n4_ n5_ n6_; (try clear hb); (try clear hb2); (try clear hk); (try clear hi); (try clear ho0); have hcz26_0 : w25.cell? ⟨gb281, 0, none⟩ = some (.int .i64 a2_0) := (blk_cell BK281.out 0).trans rfl; have hcz26_1 : w25.cell? ⟨gb281, 1, none⟩ = some (.int .i64 a2_1) := (blk_cell BK281.out 1).trans rfl; have hcz26_2 : w25.cell? ⟨gb281, 2, none⟩ = some (.int .i64 a2_2) := (blk_cell BK281.out 2).trans rfl; have hfz26_0 := blk_frozen BK281.out 0; have hfz26_1 := blk_frozen BK281.out 1; have hfz26_2 := blk_frozen BK281.out 2) | ((with_reducible refine gate_callee (f := 44) rfl ?_); refine goesL_ (some 58) rfl rfl Try.func44 (by kernel_rfl) rfl #[.slice A0 l0.length c0, .int .i64 a2_0, .slice A1 l1.length c1] rfl (by (try simp only [List.map_toArray, List.map_cons, List.map_nil]); first | done | rfl | (simp only [List.length_drop, List.length_take]; rfl)) ?_; (with_reducible refine (calamusref02_Lay.calls k _ _ l0 a2_0 _ _ l1 t301 t302 _ ?side1 ?side2 ?side3 ?side4 A11.out).mono ?_); (case side1 => repeat (first | exact (Kd.C_below HR0.out HB.out) | (with_reducible refine Kd.C_alloc ?_ _) | (with_reducible refine Kd.C_drewN ?_ _) | (with_reducible refine Kd.C_drew ?_))); (case side2 => exact HC0.out); (case side3 => repeat (first | exact (Kd.C_below HR1.out HB.out) | (with_reducible refine Kd.C_alloc ?_ _) | (with_reducible refine Kd.C_drewN ?_ _) | (with_reducible refine Kd.C_drew ?_))); (case side4 => exact HC1.out); rintro e w27 ⟨v303, rfl, ho0, hb⟩; refine ⟨_, rfl, ?_⟩; have n0_ := Aside0.mk (Kd.R_elder' (by (with_reducible repeat (first | apply Kd.R_alloc | apply Kd.R_drewN | apply Kd.R_drew)); exact HO285.out) (Kd.R_base ho0) hb); have n1_ := Aside0.mk (Kd.R_elder' (by (with_reducible repeat (first | apply Kd.R_alloc | apply Kd.R_drewN | apply Kd.R_drew)); exact HO288.out) (Kd.R_base ho0) hb); have n2_ := Aside0.mk (Kd.R_elder' (by (with_reducible repeat (first | apply Kd.R_alloc | apply Kd.R_drewN | apply Kd.R_drew)); exact HO292.out) (Kd.R_base ho0) hb); have n3_ := Aside0.mk (Kd.R_elder' (by (with_reducible repeat (first | apply Kd.R_alloc | apply Kd.R_drewN | apply Kd.R_drew)); exact HO296.out) (Kd.R_base ho0) hb); have n4_ := Aside0.mk (Kd.R_elder' (by (with_reducible repeat (first | apply Kd.R_alloc | apply Kd.R_drewN | apply Kd.R_drew)); exact HO300.out) (Kd.R_base ho0) hb); have n5_ := Aside0.mk (Kd.R_lower (Kd.R_new' (Kd.R_new' (Kd.R_new' (Kd.R_new' (Kd.R_new' ho0 (Kd.R_lt (by (with_reducible repeat (first | apply Kd.R_alloc | apply Kd.R_drewN | apply Kd.R_drew)); exact HO285.out))) (Kd.R_lt (by (with_reducible repeat (first | apply Kd.R_alloc | apply Kd.R_drewN | apply Kd.R_drew)); exact HO288.out))) (Kd.R_lt (by (with_reducible repeat (first | apply Kd.R_alloc | apply Kd.R_drewN | apply Kd.R_drew)); exact HO292.out))) (Kd.R_lt (by (with_reducible repeat (first | apply Kd.R_alloc | apply Kd.R_drewN | apply Kd.R_drew)); exact HO296.out))) (Kd.R_lt (by (with_reducible repeat (first | apply Kd.R_alloc | apply Kd.R_drewN | apply Kd.R_drew)); exact HO300.out))) (below_size (by repeat (first | (with_reducible first | exact HB.out | apply below_alloc | apply pw_below_drewN | apply below_drew1 | refine below_set ?_ GE281.out) | exact HB.out)))); have n6_ := Aside0.mk (blk_below (g := gb281) (o := .cells #[.int .i64 a2_0, .int .i64 a2_1, .int .i64 a2_2] 46 (0, 0)) (by (with_reducible repeat (first | refine blk_drewN ?_ _ | refine blk_drew ?_ | refine blk_alloc ?_ _)); exact BK281.out) hb); have n7_ := Aside0.mk (below_step (by repeat (first | (with_reducible first | exact HB.out | apply below_alloc | apply pw_below_drewN | apply below_drew1 | refine below_set ?_ GE281.out) | exact HB.out)) hb); clear HO285; clear HO288; clear HO292; clear HO296; clear HO300; clear BK281; clear HB; have HO285 := n0_; have HO288 := n1_; have HO292 := n2_; have HO296 := n3_; have HO300 := n4_; have HO304 := n5_; have BK281 := n6_; have HB := n7_; clear n0_ n1_ n2_ n3_ n4_ n5_ n6_ n7_; (try clear hb); (try clear hb2); (try clear hk); (try clear hi); (try clear ho0); have hcz28_0 : w27.cell? ⟨gb281, 0, none⟩ = some (.int .i64 a2_0) := (blk_cell BK281.out 0).trans rfl; have hcz28_1 : w27.cell? ⟨gb281, 1, none⟩ = some (.int .i64 a2_1) := (blk_cell BK281.out 1).trans rfl; have hcz28_2 : w27.cell? ⟨gb281, 2, none⟩ = some (.int .i64 a2_2) := (blk_cell BK281.out 2).trans rfl; have hfz28_0 := blk_frozen BK281.out 0; have hfz28_1 := blk_frozen BK281.out 1; have hfz28_2 := blk_frozen BK281.out 2) | ((with_reducible refine gate_callee (f := 45) rfl ?_); refine goesL_ (some 64) rfl rfl Try.func45 (by kernel_rfl) rfl #[.slice Ao19 t283.length co19, .int .i64 a2_2] rfl (by (try simp only [List.map_toArray, List.map_cons, List.map_nil]); first | done | rfl | (simp only [List.length_drop, List.length_take]; rfl)) ?_; (with_reducible refine (be_Pad.calls _ _ t283 a2_2 t305 _ ?side1 ?side2 A12.out).mono ?_); (case side1 => repeat (first | exact (Kd.R_reads' HO285.out).2.2 | (with_reducible refine Kd.C_alloc ?_ _) | (with_reducible refine Kd.C_drewN ?_ _) | (with_reducible refine Kd.C_drew ?_))); (case side2 => exact (Kd.R_reads' HO285.out).2.1); rintro e w29 ⟨v306, rfl, ho0, hb⟩; refine ⟨_, rfl, ?_⟩; have n0_ := Aside0.mk (Kd.R_elder' (by (with_reducible repeat (first | apply Kd.R_alloc | apply Kd.R_drewN | apply Kd.R_drew)); exact HO285.out) (Kd.R_base ho0) hb); have n1_ := Aside0.mk (Kd.R_elder' (by (with_reducible repeat (first | apply Kd.R_alloc | apply Kd.R_drewN | apply Kd.R_drew)); exact HO288.out) (Kd.R_base ho0) hb); have n2_ := Aside0.mk (Kd.R_elder' (by (with_reducible repeat (first | apply Kd.R_alloc | apply Kd.R_drewN | apply Kd.R_drew)); exact HO292.out) (Kd.R_base ho0) hb); have n3_ := Aside0.mk (Kd.R_elder' (by (with_reducible repeat (first | apply Kd.R_alloc | apply Kd.R_drewN | apply Kd.R_drew)); exact HO296.out) (Kd.R_base ho0) hb); have n4_ := Aside0.mk (Kd.R_elder' (by (with_reducible repeat (first | apply Kd.R_alloc | apply Kd.R_drewN | apply Kd.R_drew)); exact HO300.out) (Kd.R_base ho0) hb); have n5_ := Aside0.mk (Kd.R_elder' (by (with_reducible repeat (first | apply Kd.R_alloc | apply Kd.R_drewN | apply Kd.R_drew)); exact HO304.out) (Kd.R_base ho0) hb); have n6_ := Aside0.mk (Kd.R_lower (Kd.R_new' (Kd.R_new' (Kd.R_new' (Kd.R_new' (Kd.R_new' (Kd.R_new' ho0 (Kd.R_lt (by (with_reducible repeat (first | apply Kd.R_alloc | apply Kd.R_drewN | apply Kd.R_drew)); exact HO285.out))) (Kd.R_lt (by (with_reducible repeat (first | apply Kd.R_alloc | apply Kd.R_drewN | apply Kd.R_drew)); exact HO288.out))) (Kd.R_lt (by (with_reducible repeat (first | apply Kd.R_alloc | apply Kd.R_drewN | apply Kd.R_drew)); exact HO292.out))) (Kd.R_lt (by (with_reducible repeat (first | apply Kd.R_alloc | apply Kd.R_drewN | apply Kd.R_drew)); exact HO296.out))) (Kd.R_lt (by (with_reducible repeat (first | apply Kd.R_alloc | apply Kd.R_drewN | apply Kd.R_drew)); exact HO300.out))) (Kd.R_lt (by (with_reducible repeat (first | apply Kd.R_alloc | apply Kd.R_drewN | apply Kd.R_drew)); exact HO304.out))) (below_size (by repeat (first | (with_reducible first | exact HB.out | apply below_alloc | apply pw_below_drewN | apply below_drew1 | refine below_set ?_ GE281.out) | exact HB.out)))); have n7_ := Aside0.mk (blk_below (g := gb281) (o := .cells #[.int .i64 a2_0, .int .i64 a2_1, .int .i64 a2_2] 46 (0, 0)) (by (with_reducible repeat (first | refine blk_drewN ?_ _ | refine blk_drew ?_ | refine blk_alloc ?_ _)); exact BK281.out) hb); have n8_ := Aside0.mk (below_step (by repeat (first | (with_reducible first | exact HB.out | apply below_alloc | apply pw_below_drewN | apply below_drew1 | refine below_set ?_ GE281.out) | exact HB.out)) hb); clear HO285; clear HO288; clear HO292; clear HO296; clear HO300; clear HO304; clear BK281; clear HB; have HO285 := n0_; have HO288 := n1_; have HO292 := n2_; have HO296 := n3_; have HO300 := n4_; have HO304 := n5_; have HO307 := n6_; have BK281 := n7_; have HB := n8_; clear n0_ n1_ n2_ n3_ n4_ n5_ n6_ n7_ n8_; (try clear hb); (try clear hb2); (try clear hk); (try clear hi); (try clear ho0)))
    (try simp only [Act.put, List.setIfInBounds_toArray, List.set_cons_zero, List.set_cons_succ])
    go_cut [93] (fun v93 wc => ∃ (kq : Nat) (x93_12 : Bool), v93 = .bool x93_12 ∧ Aside0 (calamuslaw02_BeCuts.j0 kq l0 l1 t283 t286 t289 t297 t305 x93_12 = some r) ∧ Aside0 (kq ≤ k) ∧ Aside0 (Kd.R (Kd.int .u8) 5 wc w.heap.size (fun k_ => some k_ ≠ ((.slice Ao24 t286.length co24) : Value).ownBlock ∧ some k_ ≠ (v291 : Value).ownBlock ∧ some k_ ≠ (v299 : Value).ownBlock ∧ some k_ ≠ (v306 : Value).ownBlock) (.slice Ao19 t283.length co19) t283) ∧ Aside0 (Kd.R (Kd.int .u8) 5 wc w.heap.size (fun k_ => some k_ ≠ ((.slice Ao19 t283.length co19) : Value).ownBlock ∧ some k_ ≠ (v291 : Value).ownBlock ∧ some k_ ≠ (v299 : Value).ownBlock ∧ some k_ ≠ (v306 : Value).ownBlock) (.slice Ao24 t286.length co24) t286) ∧ Aside0 (Kd.R (Kd.int .u8) 5 wc w.heap.size (fun k_ => some k_ ≠ ((.slice Ao19 t283.length co19) : Value).ownBlock ∧ some k_ ≠ ((.slice Ao24 t286.length co24) : Value).ownBlock ∧ some k_ ≠ (v299 : Value).ownBlock ∧ some k_ ≠ (v306 : Value).ownBlock) v291 t289) ∧ Aside0 (Kd.R (Kd.int .u8) 5 wc w.heap.size (fun k_ => some k_ ≠ ((.slice Ao19 t283.length co19) : Value).ownBlock ∧ some k_ ≠ ((.slice Ao24 t286.length co24) : Value).ownBlock ∧ some k_ ≠ (v291 : Value).ownBlock ∧ some k_ ≠ (v306 : Value).ownBlock) v299 t297) ∧ Aside0 (Kd.R (Kd.int .u8) 5 wc w.heap.size (fun k_ => some k_ ≠ ((.slice Ao19 t283.length co19) : Value).ownBlock ∧ some k_ ≠ ((.slice Ao24 t286.length co24) : Value).ownBlock ∧ some k_ ≠ (v291 : Value).ownBlock ∧ some k_ ≠ (v299 : Value).ownBlock) v306 t305) ∧ Aside0 (wc.heap[gb281]? = some (.cells #[.int .i64 a2_0, .int .i64 a2_1, .int .i64 a2_2] 46 (0, 0))) ∧ Aside0 (Below w.heap.size w wc))
    case first =>
      have H := HC13.out
      clear HC13
      replace H := Option.bind_eq_some_iff.mp H
      obtain ⟨t308, A300, H⟩ := H
      replace H : (if t308 = true then (if t290 = t294 then ((calamusref02_Same.f t297 t301).bind fun t309 => (if t309 = true then (if t298 = t302 then ((calamusref02_Pad.f k l0 a2_2).bind fun t310 => ((calamusref02_Same.f t305 t310).bind fun t313 => (calamuslaw02_BeCuts.j0 k l0 l1 t283 t286 t289 t297 t305 (!t313)))) else (calamuslaw02_BeCuts.j0 k l0 l1 t283 t286 t289 t297 t305 true)) else (calamuslaw02_BeCuts.j0 k l0 l1 t283 t286 t289 t297 t305 true))) else (calamuslaw02_BeCuts.j0 k l0 l1 t283 t286 t289 t297 t305 true)) else (calamuslaw02_BeCuts.j0 k l0 l1 t283 t286 t289 t297 t305 true)) = some r := H
      have A30 := Aside0.mk A300
      clear A300
      by_cases c31 : t308 = true
      · subst c31
        have H1 : (if t290 = t294 then ((calamusref02_Same.f t297 t301).bind fun t309 => (if t309 = true then (if t298 = t302 then ((calamusref02_Pad.f k l0 a2_2).bind fun t310 => ((calamusref02_Same.f t305 t310).bind fun t313 => (calamuslaw02_BeCuts.j0 k l0 l1 t283 t286 t289 t297 t305 (!t313)))) else (calamuslaw02_BeCuts.j0 k l0 l1 t283 t286 t289 t297 t305 true)) else (calamuslaw02_BeCuts.j0 k l0 l1 t283 t286 t289 t297 t305 true))) else (calamuslaw02_BeCuts.j0 k l0 l1 t283 t286 t289 t297 t305 true)) = some r := by rw [if_pos rfl] at H; exact H
        clear H
        have H := H1
        clear H1
        by_cases c32 : t290 = t294
        · rw [if_pos c32] at H
          have c32b0 : (t290 == t294) = true := beq_iff_eq.mpr c32
          have c32b1 : (t290 != t294) = false := bne_eq_false_iff_eq.mpr c32
          clear c32
          (first | rw [c32b0] | (simp only [i64_w, i32_w]; rw [c32b0]) | skip)
          replace H := Option.bind_eq_some_iff.mp H
          obtain ⟨t309, A330, H⟩ := H
          replace H : (if t309 = true then (if t298 = t302 then ((calamusref02_Pad.f k l0 a2_2).bind fun t310 => ((calamusref02_Same.f t305 t310).bind fun t313 => (calamuslaw02_BeCuts.j0 k l0 l1 t283 t286 t289 t297 t305 (!t313)))) else (calamuslaw02_BeCuts.j0 k l0 l1 t283 t286 t289 t297 t305 true)) else (calamuslaw02_BeCuts.j0 k l0 l1 t283 t286 t289 t297 t305 true)) = some r := H
          have A33 := Aside0.mk A330
          clear A330
          by_cases c34 : t309 = true
          · subst c34
            have H1 : (if t298 = t302 then ((calamusref02_Pad.f k l0 a2_2).bind fun t310 => ((calamusref02_Same.f t305 t310).bind fun t313 => (calamuslaw02_BeCuts.j0 k l0 l1 t283 t286 t289 t297 t305 (!t313)))) else (calamuslaw02_BeCuts.j0 k l0 l1 t283 t286 t289 t297 t305 true)) = some r := by rw [if_pos rfl] at H; exact H
            clear H
            have H := H1
            clear H1
            by_cases c35 : t298 = t302
            · rw [if_pos c35] at H
              have c35b0 : (t298 == t302) = true := beq_iff_eq.mpr c35
              have c35b1 : (t298 != t302) = false := bne_eq_false_iff_eq.mpr c35
              clear c35
              replace H := Option.bind_eq_some_iff.mp H
              obtain ⟨t310, A360, H⟩ := H
              replace H : ((calamusref02_Same.f t305 t310).bind fun t313 => (calamuslaw02_BeCuts.j0 k l0 l1 t283 t286 t289 t297 t305 (!t313))) = some r := H
              have A36 := Aside0.mk A360
              clear A360
              replace H := Option.bind_eq_some_iff.mp H
              obtain ⟨t313, A370, H⟩ := H
              replace H : (calamuslaw02_BeCuts.j0 k l0 l1 t283 t286 t289 t297 t305 (!t313)) = some r := H
              have A37 := Aside0.mk A370
              clear A370
              have H' := Aside0.mk H
              clear H
              obtain ⟨Ao38, co38, eo38⟩ := Kd.R_slice HO292.out
              subst eo38
              obtain ⟨Ao39, co39, eo39⟩ := Kd.R_slice HO296.out
              subst eo39
              go_wp2_with (first | ((with_reducible refine gate_callee (f := 33) rfl ?_); refine goesL_ (some 67) rfl rfl Try.func33 (by kernel_rfl) rfl #[.slice Ao38 t289.length co38, .slice Ao39 t293.length co39] rfl (by (try simp only [List.map_toArray, List.map_cons, List.map_nil]); first | done | rfl | (simp only [List.length_drop, List.length_take]; rfl)) ?_; (with_reducible refine (calamusref02_Same.calls _ _ t289 _ _ t293 true _ ?side1 ?side2 ?side3 ?side4 A30.out).mono ?_); (case side1 => repeat (first | exact (Kd.R_reads' HO292.out).2.2 | (with_reducible refine Kd.C_alloc ?_ _) | (with_reducible refine Kd.C_drewN ?_ _) | (with_reducible refine Kd.C_drew ?_))); (case side2 => exact (Kd.R_reads' HO292.out).2.1); (case side3 => repeat (first | exact (Kd.R_reads' HO296.out).2.2 | (with_reducible refine Kd.C_alloc ?_ _) | (with_reducible refine Kd.C_drewN ?_ _) | (with_reducible refine Kd.C_drew ?_))); (case side4 => exact (Kd.R_reads' HO296.out).2.1); rintro e w' ⟨rfl, ⟨nd, rfl⟩⟩; refine ⟨_, rfl, ?_⟩; obtain ⟨Ao40, co40, eo40⟩ := Kd.R_slice HO300.out; subst eo40; obtain ⟨Ao41, co41, eo41⟩ := Kd.R_slice HO304.out; subst eo41) | (go_at_call 33; (with_reducible refine (calamusref02_Same.calls _ _ t297 _ _ t301 true _ ?side1 ?side2 ?side3 ?side4 A33.out).mono ?_); (case side1 => repeat (first | exact (Kd.R_reads' HO300.out).2.2 | (with_reducible refine Kd.C_alloc ?_ _) | (with_reducible refine Kd.C_drewN ?_ _) | (with_reducible refine Kd.C_drew ?_))); (case side2 => exact (Kd.R_reads' HO300.out).2.1); (case side3 => repeat (first | exact (Kd.R_reads' HO304.out).2.2 | (with_reducible refine Kd.C_alloc ?_ _) | (with_reducible refine Kd.C_drewN ?_ _) | (with_reducible refine Kd.C_drew ?_))); (case side4 => exact (Kd.R_reads' HO304.out).2.1); rintro e w' ⟨rfl, ⟨nd, rfl⟩⟩; have hcz42_0 : w29.cell? ⟨gb281, 0, none⟩ = some (.int .i64 a2_0) := (blk_cell BK281.out 0).trans rfl; have hcz42_1 : w29.cell? ⟨gb281, 1, none⟩ = some (.int .i64 a2_1) := (blk_cell BK281.out 1).trans rfl; have hcz42_2 : w29.cell? ⟨gb281, 2, none⟩ = some (.int .i64 a2_2) := (blk_cell BK281.out 2).trans rfl; have hfz42_0 := blk_frozen BK281.out 0; have hfz42_1 := blk_frozen BK281.out 1; have hfz42_2 := blk_frozen BK281.out 2) | (go_at_call 46; (with_reducible refine (calamusref02_Pad.calls k _ _ l0 a2_2 t310 _ ?side1 ?side2 A36.out).mono ?_); (case side1 => repeat (first | exact (Kd.C_below HR0.out (by repeat (first | (with_reducible first | exact HB.out | apply below_alloc | apply pw_below_drewN | apply below_drew1 | refine below_set ?_ GE281.out) | exact HB.out))) | (with_reducible refine Kd.C_alloc ?_ _) | (with_reducible refine Kd.C_drewN ?_ _) | (with_reducible refine Kd.C_drew ?_))); (case side2 => exact HC0.out); rintro e w43 ⟨v311, rfl, ho0, hb⟩; have n0_ := Aside0.mk (Kd.R_elder' (by (with_reducible repeat (first | apply Kd.R_alloc | apply Kd.R_drewN | apply Kd.R_drew)); exact HO285.out) (Kd.R_base ho0) hb); have n1_ := Aside0.mk (Kd.R_elder' (by (with_reducible repeat (first | apply Kd.R_alloc | apply Kd.R_drewN | apply Kd.R_drew)); exact HO288.out) (Kd.R_base ho0) hb); have n2_ := Aside0.mk (Kd.R_elder' (by (with_reducible repeat (first | apply Kd.R_alloc | apply Kd.R_drewN | apply Kd.R_drew)); exact HO292.out) (Kd.R_base ho0) hb); have n3_ := Aside0.mk (Kd.R_elder' (by (with_reducible repeat (first | apply Kd.R_alloc | apply Kd.R_drewN | apply Kd.R_drew)); exact HO296.out) (Kd.R_base ho0) hb); have n4_ := Aside0.mk (Kd.R_elder' (by (with_reducible repeat (first | apply Kd.R_alloc | apply Kd.R_drewN | apply Kd.R_drew)); exact HO300.out) (Kd.R_base ho0) hb); have n5_ := Aside0.mk (Kd.R_elder' (by (with_reducible repeat (first | apply Kd.R_alloc | apply Kd.R_drewN | apply Kd.R_drew)); exact HO304.out) (Kd.R_base ho0) hb); have n6_ := Aside0.mk (Kd.R_elder' (by (with_reducible repeat (first | apply Kd.R_alloc | apply Kd.R_drewN | apply Kd.R_drew)); exact HO307.out) (Kd.R_base ho0) hb); have n7_ := Aside0.mk (Kd.R_lower (Kd.R_new' (Kd.R_new' (Kd.R_new' (Kd.R_new' (Kd.R_new' (Kd.R_new' (Kd.R_new' ho0 (Kd.R_lt (by (with_reducible repeat (first | apply Kd.R_alloc | apply Kd.R_drewN | apply Kd.R_drew)); exact HO285.out))) (Kd.R_lt (by (with_reducible repeat (first | apply Kd.R_alloc | apply Kd.R_drewN | apply Kd.R_drew)); exact HO288.out))) (Kd.R_lt (by (with_reducible repeat (first | apply Kd.R_alloc | apply Kd.R_drewN | apply Kd.R_drew)); exact HO292.out))) (Kd.R_lt (by (with_reducible repeat (first | apply Kd.R_alloc | apply Kd.R_drewN | apply Kd.R_drew)); exact HO296.out))) (Kd.R_lt (by (with_reducible repeat (first | apply Kd.R_alloc | apply Kd.R_drewN | apply Kd.R_drew)); exact HO300.out))) (Kd.R_lt (by (with_reducible repeat (first | apply Kd.R_alloc | apply Kd.R_drewN | apply Kd.R_drew)); exact HO304.out))) (Kd.R_lt (by (with_reducible repeat (first | apply Kd.R_alloc | apply Kd.R_drewN | apply Kd.R_drew)); exact HO307.out))) (below_size (by repeat (first | (with_reducible first | exact HB.out | apply below_alloc | apply pw_below_drewN | apply below_drew1 | refine below_set ?_ GE281.out) | exact HB.out)))); have n8_ := Aside0.mk (blk_below (g := gb281) (o := .cells #[.int .i64 a2_0, .int .i64 a2_1, .int .i64 a2_2] 46 (0, 0)) (by (with_reducible repeat (first | refine blk_drewN ?_ _ | refine blk_drew ?_ | refine blk_alloc ?_ _)); exact BK281.out) hb); have n9_ := Aside0.mk (below_step (by repeat (first | (with_reducible first | exact HB.out | apply below_alloc | apply pw_below_drewN | apply below_drew1 | refine below_set ?_ GE281.out) | exact HB.out)) hb); clear HO285; clear HO288; clear HO292; clear HO296; clear HO300; clear HO304; clear HO307; clear BK281; clear HB; have HO285 := n0_; have HO288 := n1_; have HO292 := n2_; have HO296 := n3_; have HO300 := n4_; have HO304 := n5_; have HO307 := n6_; have HO312 := n7_; have BK281 := n8_; have HB := n9_; clear n0_ n1_ n2_ n3_ n4_ n5_ n6_ n7_ n8_ n9_; (try clear hb); (try clear hb2); (try clear hk); (try clear hi); (try clear ho0); obtain ⟨Ao44, co44, eo44⟩ := Kd.R_slice HO307.out; subst eo44; obtain ⟨Ao45, co45, eo45⟩ := Kd.R_slice HO312.out; subst eo45) | (go_at_call 33; (with_reducible refine (calamusref02_Same.calls _ _ t305 _ _ t310 t313 _ ?side1 ?side2 ?side3 ?side4 A37.out).mono ?_); (case side1 => repeat (first | exact (Kd.R_reads' HO307.out).2.2 | (with_reducible refine Kd.C_alloc ?_ _) | (with_reducible refine Kd.C_drewN ?_ _) | (with_reducible refine Kd.C_drew ?_))); (case side2 => exact (Kd.R_reads' HO307.out).2.1); (case side3 => repeat (first | exact (Kd.R_reads' HO312.out).2.2 | (with_reducible refine Kd.C_alloc ?_ _) | (with_reducible refine Kd.C_drewN ?_ _) | (with_reducible refine Kd.C_drew ?_))); (case side4 => exact (Kd.R_reads' HO312.out).2.1); rintro e w' ⟨rfl, ⟨nd, rfl⟩⟩))
              go_meet
              case rel => exact ⟨_, (!t313), (by first | rfl | (simp; done) | (simp [*]; done)), H', ⟨by first | omega | exact Nat.le_refl _⟩, ⟨by (with_reducible repeat (first | apply Kd.R_alloc | apply Kd.R_drewN | apply Kd.R_drew)); exact Kd.R_mono HO285.out (fun _ hk => ⟨hk.1.1.1.1.1.1.2, ⟨hk.1.1.1.1.1.2, ⟨hk.1.1.1.2, hk.1.2⟩⟩⟩)⟩, ⟨by (with_reducible repeat (first | apply Kd.R_alloc | apply Kd.R_drewN | apply Kd.R_drew)); exact Kd.R_mono HO288.out (fun _ hk => ⟨hk.1.1.1.1.1.1.2, ⟨hk.1.1.1.1.1.2, ⟨hk.1.1.1.2, hk.1.2⟩⟩⟩)⟩, ⟨by (with_reducible repeat (first | apply Kd.R_alloc | apply Kd.R_drewN | apply Kd.R_drew)); exact Kd.R_mono HO292.out (fun _ hk => ⟨hk.1.1.1.1.1.1.2, ⟨hk.1.1.1.1.1.2, ⟨hk.1.1.1.2, hk.1.2⟩⟩⟩)⟩, ⟨by (with_reducible repeat (first | apply Kd.R_alloc | apply Kd.R_drewN | apply Kd.R_drew)); exact Kd.R_mono HO300.out (fun _ hk => ⟨hk.1.1.1.1.1.1.2, ⟨hk.1.1.1.1.1.2, ⟨hk.1.1.1.1.2, hk.1.2⟩⟩⟩)⟩, ⟨by (with_reducible repeat (first | apply Kd.R_alloc | apply Kd.R_drewN | apply Kd.R_drew)); exact Kd.R_mono HO307.out (fun _ hk => ⟨hk.1.1.1.1.1.1.2, ⟨hk.1.1.1.1.1.2, ⟨hk.1.1.1.1.2, hk.1.1.2⟩⟩⟩)⟩, ⟨by (with_reducible repeat (first | refine blk_drewN ?_ _ | refine blk_drew ?_ | refine blk_alloc ?_ _)); exact BK281.out⟩, ⟨by repeat (first | (with_reducible first | exact HB.out | apply below_alloc | apply pw_below_drewN | apply below_drew1 | refine below_set ?_ GE281.out) | exact HB.out)⟩⟩
            · rw [if_neg c35] at H
              have c35b0 : (t298 == t302) = false := beq_eq_false_iff_ne.mpr c35
              have c35b1 : (t298 != t302) = true := bne_iff_ne.mpr c35
              have H' := Aside0.mk H
              clear H
              obtain ⟨Ao46, co46, eo46⟩ := Kd.R_slice HO292.out
              subst eo46
              obtain ⟨Ao47, co47, eo47⟩ := Kd.R_slice HO296.out
              subst eo47
              go_wp2_with (first | ((with_reducible refine gate_callee (f := 33) rfl ?_); refine goesL_ (some 67) rfl rfl Try.func33 (by kernel_rfl) rfl #[.slice Ao46 t289.length co46, .slice Ao47 t293.length co47] rfl (by (try simp only [List.map_toArray, List.map_cons, List.map_nil]); first | done | rfl | (simp only [List.length_drop, List.length_take]; rfl)) ?_; (with_reducible refine (calamusref02_Same.calls _ _ t289 _ _ t293 true _ ?side1 ?side2 ?side3 ?side4 A30.out).mono ?_); (case side1 => repeat (first | exact (Kd.R_reads' HO292.out).2.2 | (with_reducible refine Kd.C_alloc ?_ _) | (with_reducible refine Kd.C_drewN ?_ _) | (with_reducible refine Kd.C_drew ?_))); (case side2 => exact (Kd.R_reads' HO292.out).2.1); (case side3 => repeat (first | exact (Kd.R_reads' HO296.out).2.2 | (with_reducible refine Kd.C_alloc ?_ _) | (with_reducible refine Kd.C_drewN ?_ _) | (with_reducible refine Kd.C_drew ?_))); (case side4 => exact (Kd.R_reads' HO296.out).2.1); rintro e w' ⟨rfl, ⟨nd, rfl⟩⟩; refine ⟨_, rfl, ?_⟩; obtain ⟨Ao48, co48, eo48⟩ := Kd.R_slice HO300.out; subst eo48; obtain ⟨Ao49, co49, eo49⟩ := Kd.R_slice HO304.out; subst eo49) | (go_at_call 33; (with_reducible refine (calamusref02_Same.calls _ _ t297 _ _ t301 true _ ?side1 ?side2 ?side3 ?side4 A33.out).mono ?_); (case side1 => repeat (first | exact (Kd.R_reads' HO300.out).2.2 | (with_reducible refine Kd.C_alloc ?_ _) | (with_reducible refine Kd.C_drewN ?_ _) | (with_reducible refine Kd.C_drew ?_))); (case side2 => exact (Kd.R_reads' HO300.out).2.1); (case side3 => repeat (first | exact (Kd.R_reads' HO304.out).2.2 | (with_reducible refine Kd.C_alloc ?_ _) | (with_reducible refine Kd.C_drewN ?_ _) | (with_reducible refine Kd.C_drew ?_))); (case side4 => exact (Kd.R_reads' HO304.out).2.1); rintro e w' ⟨rfl, ⟨nd, rfl⟩⟩))
              go_meet
              case rel => exact ⟨_, (true), (by first | rfl | (simp; done) | (simp [*]; done)), H', ⟨by first | omega | exact Nat.le_refl _⟩, ⟨by (with_reducible repeat (first | apply Kd.R_alloc | apply Kd.R_drewN | apply Kd.R_drew)); exact Kd.R_mono HO285.out (fun _ hk => ⟨hk.1.1.1.1.1.2, ⟨hk.1.1.1.1.2, ⟨hk.1.1.2, hk.2⟩⟩⟩)⟩, ⟨by (with_reducible repeat (first | apply Kd.R_alloc | apply Kd.R_drewN | apply Kd.R_drew)); exact Kd.R_mono HO288.out (fun _ hk => ⟨hk.1.1.1.1.1.2, ⟨hk.1.1.1.1.2, ⟨hk.1.1.2, hk.2⟩⟩⟩)⟩, ⟨by (with_reducible repeat (first | apply Kd.R_alloc | apply Kd.R_drewN | apply Kd.R_drew)); exact Kd.R_mono HO292.out (fun _ hk => ⟨hk.1.1.1.1.1.2, ⟨hk.1.1.1.1.2, ⟨hk.1.1.2, hk.2⟩⟩⟩)⟩, ⟨by (with_reducible repeat (first | apply Kd.R_alloc | apply Kd.R_drewN | apply Kd.R_drew)); exact Kd.R_mono HO300.out (fun _ hk => ⟨hk.1.1.1.1.1.2, ⟨hk.1.1.1.1.2, ⟨hk.1.1.1.2, hk.2⟩⟩⟩)⟩, ⟨by (with_reducible repeat (first | apply Kd.R_alloc | apply Kd.R_drewN | apply Kd.R_drew)); exact Kd.R_mono HO307.out (fun _ hk => ⟨hk.1.1.1.1.1.2, ⟨hk.1.1.1.1.2, ⟨hk.1.1.1.2, hk.1.2⟩⟩⟩)⟩, ⟨by (with_reducible repeat (first | refine blk_drewN ?_ _ | refine blk_drew ?_ | refine blk_alloc ?_ _)); exact BK281.out⟩, ⟨by repeat (first | (with_reducible first | exact HB.out | apply below_alloc | apply pw_below_drewN | apply below_drew1 | refine below_set ?_ GE281.out) | exact HB.out)⟩⟩
          · replace c34 := Bool.eq_false_iff.mpr c34
            subst c34
            have H1 : (calamuslaw02_BeCuts.j0 k l0 l1 t283 t286 t289 t297 t305 true) = some r := by rw [if_neg (show ¬ (false = true) by decide)] at H; exact H
            clear H
            have H := H1
            clear H1
            have H' := Aside0.mk H
            clear H
            obtain ⟨Ao50, co50, eo50⟩ := Kd.R_slice HO292.out
            subst eo50
            obtain ⟨Ao51, co51, eo51⟩ := Kd.R_slice HO296.out
            subst eo51
            go_wp2_with (first | ((with_reducible refine gate_callee (f := 33) rfl ?_); refine goesL_ (some 67) rfl rfl Try.func33 (by kernel_rfl) rfl #[.slice Ao50 t289.length co50, .slice Ao51 t293.length co51] rfl (by (try simp only [List.map_toArray, List.map_cons, List.map_nil]); first | done | rfl | (simp only [List.length_drop, List.length_take]; rfl)) ?_; (with_reducible refine (calamusref02_Same.calls _ _ t289 _ _ t293 true _ ?side1 ?side2 ?side3 ?side4 A30.out).mono ?_); (case side1 => repeat (first | exact (Kd.R_reads' HO292.out).2.2 | (with_reducible refine Kd.C_alloc ?_ _) | (with_reducible refine Kd.C_drewN ?_ _) | (with_reducible refine Kd.C_drew ?_))); (case side2 => exact (Kd.R_reads' HO292.out).2.1); (case side3 => repeat (first | exact (Kd.R_reads' HO296.out).2.2 | (with_reducible refine Kd.C_alloc ?_ _) | (with_reducible refine Kd.C_drewN ?_ _) | (with_reducible refine Kd.C_drew ?_))); (case side4 => exact (Kd.R_reads' HO296.out).2.1); rintro e w' ⟨rfl, ⟨nd, rfl⟩⟩; refine ⟨_, rfl, ?_⟩; obtain ⟨Ao52, co52, eo52⟩ := Kd.R_slice HO300.out; subst eo52; obtain ⟨Ao53, co53, eo53⟩ := Kd.R_slice HO304.out; subst eo53) | (go_at_call 33; (with_reducible refine (calamusref02_Same.calls _ _ t297 _ _ t301 false _ ?side1 ?side2 ?side3 ?side4 A33.out).mono ?_); (case side1 => repeat (first | exact (Kd.R_reads' HO300.out).2.2 | (with_reducible refine Kd.C_alloc ?_ _) | (with_reducible refine Kd.C_drewN ?_ _) | (with_reducible refine Kd.C_drew ?_))); (case side2 => exact (Kd.R_reads' HO300.out).2.1); (case side3 => repeat (first | exact (Kd.R_reads' HO304.out).2.2 | (with_reducible refine Kd.C_alloc ?_ _) | (with_reducible refine Kd.C_drewN ?_ _) | (with_reducible refine Kd.C_drew ?_))); (case side4 => exact (Kd.R_reads' HO304.out).2.1); rintro e w' ⟨rfl, ⟨nd, rfl⟩⟩))
            go_meet
            case rel => exact ⟨_, (true), (by first | rfl | (simp; done) | (simp [*]; done)), H', ⟨by first | omega | exact Nat.le_refl _⟩, ⟨by (with_reducible repeat (first | apply Kd.R_alloc | apply Kd.R_drewN | apply Kd.R_drew)); exact Kd.R_mono HO285.out (fun _ hk => ⟨hk.1.1.1.1.1.2, ⟨hk.1.1.1.1.2, ⟨hk.1.1.2, hk.2⟩⟩⟩)⟩, ⟨by (with_reducible repeat (first | apply Kd.R_alloc | apply Kd.R_drewN | apply Kd.R_drew)); exact Kd.R_mono HO288.out (fun _ hk => ⟨hk.1.1.1.1.1.2, ⟨hk.1.1.1.1.2, ⟨hk.1.1.2, hk.2⟩⟩⟩)⟩, ⟨by (with_reducible repeat (first | apply Kd.R_alloc | apply Kd.R_drewN | apply Kd.R_drew)); exact Kd.R_mono HO292.out (fun _ hk => ⟨hk.1.1.1.1.1.2, ⟨hk.1.1.1.1.2, ⟨hk.1.1.2, hk.2⟩⟩⟩)⟩, ⟨by (with_reducible repeat (first | apply Kd.R_alloc | apply Kd.R_drewN | apply Kd.R_drew)); exact Kd.R_mono HO300.out (fun _ hk => ⟨hk.1.1.1.1.1.2, ⟨hk.1.1.1.1.2, ⟨hk.1.1.1.2, hk.2⟩⟩⟩)⟩, ⟨by (with_reducible repeat (first | apply Kd.R_alloc | apply Kd.R_drewN | apply Kd.R_drew)); exact Kd.R_mono HO307.out (fun _ hk => ⟨hk.1.1.1.1.1.2, ⟨hk.1.1.1.1.2, ⟨hk.1.1.1.2, hk.1.2⟩⟩⟩)⟩, ⟨by (with_reducible repeat (first | refine blk_drewN ?_ _ | refine blk_drew ?_ | refine blk_alloc ?_ _)); exact BK281.out⟩, ⟨by repeat (first | (with_reducible first | exact HB.out | apply below_alloc | apply pw_below_drewN | apply below_drew1 | refine below_set ?_ GE281.out) | exact HB.out)⟩⟩
        · rw [if_neg c32] at H
          have c32b0 : (t290 == t294) = false := beq_eq_false_iff_ne.mpr c32
          have c32b1 : (t290 != t294) = true := bne_iff_ne.mpr c32
          (first | rw [c32b0] | (simp only [i64_w, i32_w]; rw [c32b0]) | skip)
          have H' := Aside0.mk H
          clear H
          obtain ⟨Ao54, co54, eo54⟩ := Kd.R_slice HO292.out
          subst eo54
          obtain ⟨Ao55, co55, eo55⟩ := Kd.R_slice HO296.out
          subst eo55
          go_wp2_with (first | ((with_reducible refine gate_callee (f := 33) rfl ?_); refine goesL_ (some 67) rfl rfl Try.func33 (by kernel_rfl) rfl #[.slice Ao54 t289.length co54, .slice Ao55 t293.length co55] rfl (by (try simp only [List.map_toArray, List.map_cons, List.map_nil]); first | done | rfl | (simp only [List.length_drop, List.length_take]; rfl)) ?_; (with_reducible refine (calamusref02_Same.calls _ _ t289 _ _ t293 true _ ?side1 ?side2 ?side3 ?side4 A30.out).mono ?_); (case side1 => repeat (first | exact (Kd.R_reads' HO292.out).2.2 | (with_reducible refine Kd.C_alloc ?_ _) | (with_reducible refine Kd.C_drewN ?_ _) | (with_reducible refine Kd.C_drew ?_))); (case side2 => exact (Kd.R_reads' HO292.out).2.1); (case side3 => repeat (first | exact (Kd.R_reads' HO296.out).2.2 | (with_reducible refine Kd.C_alloc ?_ _) | (with_reducible refine Kd.C_drewN ?_ _) | (with_reducible refine Kd.C_drew ?_))); (case side4 => exact (Kd.R_reads' HO296.out).2.1); rintro e w' ⟨rfl, ⟨nd, rfl⟩⟩; refine ⟨_, rfl, ?_⟩))
          go_meet
          case rel => exact ⟨_, (true), (by first | rfl | (simp; done) | (simp [*]; done)), H', ⟨by first | omega | exact Nat.le_refl _⟩, ⟨by (with_reducible repeat (first | apply Kd.R_alloc | apply Kd.R_drewN | apply Kd.R_drew)); exact Kd.R_mono HO285.out (fun _ hk => ⟨hk.1.1.1.1.1.2, ⟨hk.1.1.1.1.2, ⟨hk.1.1.2, hk.2⟩⟩⟩)⟩, ⟨by (with_reducible repeat (first | apply Kd.R_alloc | apply Kd.R_drewN | apply Kd.R_drew)); exact Kd.R_mono HO288.out (fun _ hk => ⟨hk.1.1.1.1.1.2, ⟨hk.1.1.1.1.2, ⟨hk.1.1.2, hk.2⟩⟩⟩)⟩, ⟨by (with_reducible repeat (first | apply Kd.R_alloc | apply Kd.R_drewN | apply Kd.R_drew)); exact Kd.R_mono HO292.out (fun _ hk => ⟨hk.1.1.1.1.1.2, ⟨hk.1.1.1.1.2, ⟨hk.1.1.2, hk.2⟩⟩⟩)⟩, ⟨by (with_reducible repeat (first | apply Kd.R_alloc | apply Kd.R_drewN | apply Kd.R_drew)); exact Kd.R_mono HO300.out (fun _ hk => ⟨hk.1.1.1.1.1.2, ⟨hk.1.1.1.1.2, ⟨hk.1.1.1.2, hk.2⟩⟩⟩)⟩, ⟨by (with_reducible repeat (first | apply Kd.R_alloc | apply Kd.R_drewN | apply Kd.R_drew)); exact Kd.R_mono HO307.out (fun _ hk => ⟨hk.1.1.1.1.1.2, ⟨hk.1.1.1.1.2, ⟨hk.1.1.1.2, hk.1.2⟩⟩⟩)⟩, ⟨by (with_reducible repeat (first | refine blk_drewN ?_ _ | refine blk_drew ?_ | refine blk_alloc ?_ _)); exact BK281.out⟩, ⟨by repeat (first | (with_reducible first | exact HB.out | apply below_alloc | apply pw_below_drewN | apply below_drew1 | refine below_set ?_ GE281.out) | exact HB.out)⟩⟩
      · replace c31 := Bool.eq_false_iff.mpr c31
        subst c31
        have H1 : (calamuslaw02_BeCuts.j0 k l0 l1 t283 t286 t289 t297 t305 true) = some r := by rw [if_neg (show ¬ (false = true) by decide)] at H; exact H
        clear H
        have H := H1
        clear H1
        have H' := Aside0.mk H
        clear H
        obtain ⟨Ao56, co56, eo56⟩ := Kd.R_slice HO292.out
        subst eo56
        obtain ⟨Ao57, co57, eo57⟩ := Kd.R_slice HO296.out
        subst eo57
        go_wp2_with (first | ((with_reducible refine gate_callee (f := 33) rfl ?_); refine goesL_ (some 67) rfl rfl Try.func33 (by kernel_rfl) rfl #[.slice Ao56 t289.length co56, .slice Ao57 t293.length co57] rfl (by (try simp only [List.map_toArray, List.map_cons, List.map_nil]); first | done | rfl | (simp only [List.length_drop, List.length_take]; rfl)) ?_; (with_reducible refine (calamusref02_Same.calls _ _ t289 _ _ t293 false _ ?side1 ?side2 ?side3 ?side4 A30.out).mono ?_); (case side1 => repeat (first | exact (Kd.R_reads' HO292.out).2.2 | (with_reducible refine Kd.C_alloc ?_ _) | (with_reducible refine Kd.C_drewN ?_ _) | (with_reducible refine Kd.C_drew ?_))); (case side2 => exact (Kd.R_reads' HO292.out).2.1); (case side3 => repeat (first | exact (Kd.R_reads' HO296.out).2.2 | (with_reducible refine Kd.C_alloc ?_ _) | (with_reducible refine Kd.C_drewN ?_ _) | (with_reducible refine Kd.C_drew ?_))); (case side4 => exact (Kd.R_reads' HO296.out).2.1); rintro e w' ⟨rfl, ⟨nd, rfl⟩⟩; refine ⟨_, rfl, ?_⟩))
        go_meet
        case rel => exact ⟨_, (true), (by first | rfl | (simp; done) | (simp [*]; done)), H', ⟨by first | omega | exact Nat.le_refl _⟩, ⟨by (with_reducible repeat (first | apply Kd.R_alloc | apply Kd.R_drewN | apply Kd.R_drew)); exact Kd.R_mono HO285.out (fun _ hk => ⟨hk.1.1.1.1.1.2, ⟨hk.1.1.1.1.2, ⟨hk.1.1.2, hk.2⟩⟩⟩)⟩, ⟨by (with_reducible repeat (first | apply Kd.R_alloc | apply Kd.R_drewN | apply Kd.R_drew)); exact Kd.R_mono HO288.out (fun _ hk => ⟨hk.1.1.1.1.1.2, ⟨hk.1.1.1.1.2, ⟨hk.1.1.2, hk.2⟩⟩⟩)⟩, ⟨by (with_reducible repeat (first | apply Kd.R_alloc | apply Kd.R_drewN | apply Kd.R_drew)); exact Kd.R_mono HO292.out (fun _ hk => ⟨hk.1.1.1.1.1.2, ⟨hk.1.1.1.1.2, ⟨hk.1.1.2, hk.2⟩⟩⟩)⟩, ⟨by (with_reducible repeat (first | apply Kd.R_alloc | apply Kd.R_drewN | apply Kd.R_drew)); exact Kd.R_mono HO300.out (fun _ hk => ⟨hk.1.1.1.1.1.2, ⟨hk.1.1.1.1.2, ⟨hk.1.1.1.2, hk.2⟩⟩⟩)⟩, ⟨by (with_reducible repeat (first | apply Kd.R_alloc | apply Kd.R_drewN | apply Kd.R_drew)); exact Kd.R_mono HO307.out (fun _ hk => ⟨hk.1.1.1.1.1.2, ⟨hk.1.1.1.1.2, ⟨hk.1.1.1.2, hk.1.2⟩⟩⟩)⟩, ⟨by (with_reducible repeat (first | refine blk_drewN ?_ _ | refine blk_drew ?_ | refine blk_alloc ?_ _)); exact BK281.out⟩, ⟨by repeat (first | (with_reducible first | exact HB.out | apply below_alloc | apply pw_below_drewN | apply below_drew1 | refine below_set ?_ GE281.out) | exact HB.out)⟩⟩
    case rest =>
      clear HC13
      try clear c1
      try clear c2
      try clear p2
      try clear c3
      try clear c4
      try clear c5
      try clear c11
      try clear c26
      try clear c31
      try clear c32
      try clear c32b0
      try clear c32b1
      try clear c33
      try clear c34
      try clear c35
      try clear c35b0
      try clear c35b1
      try clear c41
      try clear c42
      try clear c43
      try clear c44
      try clear c45
      try clear hcz18_0
      try clear hcz18_1
      try clear hcz18_2
      try clear hcz21_0
      try clear hcz21_1
      try clear hcz21_2
      try clear hcz23_0
      try clear hcz23_1
      try clear hcz23_2
      try clear hcz26_0
      try clear hcz26_1
      try clear hcz26_2
      try clear hcz28_0
      try clear hcz28_1
      try clear hcz28_2
      try clear hcz42_0
      try clear hcz42_1
      try clear hcz42_2
      try clear hfz18_0
      try clear hfz18_1
      try clear hfz18_2
      try clear hfz21_0
      try clear hfz21_1
      try clear hfz21_2
      try clear hfz23_0
      try clear hfz23_1
      try clear hfz23_2
      try clear hfz26_0
      try clear hfz26_1
      try clear hfz26_2
      try clear hfz28_0
      try clear hfz28_1
      try clear hfz28_2
      try clear hfz42_0
      try clear hfz42_1
      try clear hfz42_2
      obtain ⟨kq, x93_12, rfl, HA, HJ12, HO_7, HO_8, HO_9, HO_13, HO_17, BK281, HB⟩ := hcut
      cases kq with
      | zero => exact absurd HA.out (by simp [calamuslaw02_BeCuts.j0])
      | succ kj12 =>
        have H := HA.out
        clear HA
        simp only [calamuslaw02_BeCuts.j0] at H
        by_cases c58 : x93_12 = true
        · subst c58
          have H1 : (some false) = some r := by rw [if_pos rfl] at H; exact H
          clear H
          have H := H1
          clear H1
          obtain rfl := Option.some.inj H
          go_wp2
          go_ret
          exact ⟨by first | rfl | (simp [errW_none, errW_some] <;> rfl) | (simp [*, errW_none, errW_some] <;> rfl), by repeat (first | (with_reducible first | exact HB.out | apply below_alloc | apply pw_below_drewN | apply below_drew1 | refine below_set ?_ GE281.out) | exact HB.out)⟩
        · replace c58 := Bool.eq_false_iff.mpr c58
          subst c58
          have H1 : (calamuslaw02_BeCuts.l0 kj12 l0 l1 t283 t286 t289 t297 t305 (t289.length : Int) 0) = some r := by rw [if_neg (show ¬ (false = true) by decide)] at H; exact H
          clear H
          have H := H1
          clear H1
          have H' := Aside0.mk H
          clear H
          obtain ⟨Ao59, co59, eo59⟩ := Kd.R_slice HO_9.out
          subst eo59
          go_wp2
          go_loopg [96] kj12 (fun kq v96 w' => ∃ (x9_2 : List Int) (x96_2 : Int), v96 = .int .i64 x96_2 ∧ Aside0 (calamuslaw02_BeCuts.l0 kq l0 l1 t283 t286 x9_2 t297 t305 (t289.length : Int) x96_2 = some r) ∧ Aside0 (kq ≤ kj12) ∧ Aside0 (Kd.R (Kd.int .u8) 5 w' w.heap.size (fun k_ => some k_ ≠ ((.slice Ao24 t286.length co24) : Value).ownBlock ∧ some k_ ≠ ((.slice Ao59 t289.length co59) : Value).ownBlock ∧ some k_ ≠ (v299 : Value).ownBlock ∧ some k_ ≠ (v306 : Value).ownBlock) (.slice Ao19 t283.length co19) t283) ∧ Aside0 (Kd.R (Kd.int .u8) 5 w' w.heap.size (fun k_ => some k_ ≠ ((.slice Ao19 t283.length co19) : Value).ownBlock ∧ some k_ ≠ ((.slice Ao59 t289.length co59) : Value).ownBlock ∧ some k_ ≠ (v299 : Value).ownBlock ∧ some k_ ≠ (v306 : Value).ownBlock) (.slice Ao24 t286.length co24) t286) ∧ Aside0 (Kd.R (Kd.int .u8) 5 w' w.heap.size (fun k_ => some k_ ≠ ((.slice Ao19 t283.length co19) : Value).ownBlock ∧ some k_ ≠ ((.slice Ao24 t286.length co24) : Value).ownBlock ∧ some k_ ≠ (v299 : Value).ownBlock ∧ some k_ ≠ (v306 : Value).ownBlock) (.slice Ao59 t289.length co59) x9_2) ∧ Aside0 (Kd.R (Kd.int .u8) 5 w' w.heap.size (fun k_ => some k_ ≠ ((.slice Ao19 t283.length co19) : Value).ownBlock ∧ some k_ ≠ ((.slice Ao24 t286.length co24) : Value).ownBlock ∧ some k_ ≠ ((.slice Ao59 t289.length co59) : Value).ownBlock ∧ some k_ ≠ (v306 : Value).ownBlock) v299 t297) ∧ Aside0 (Kd.R (Kd.int .u8) 5 w' w.heap.size (fun k_ => some k_ ≠ ((.slice Ao19 t283.length co19) : Value).ownBlock ∧ some k_ ≠ ((.slice Ao24 t286.length co24) : Value).ownBlock ∧ some k_ ≠ ((.slice Ao59 t289.length co59) : Value).ownBlock ∧ some k_ ≠ (v299 : Value).ownBlock) v306 t305) ∧ Aside0 (w'.heap[gb281]? = some (.cells #[.int .i64 a2_0, .int .i64 a2_1, .int .i64 a2_2] 46 (0, 0))) ∧ Aside0 (Below w.heap.size w w'))
          case atStart => exact ⟨(t289), (0), (by first | rfl | (simp; done) | (simp [*]; done)), H', ⟨Nat.le_refl _⟩, ⟨by (with_reducible repeat (first | apply Kd.R_alloc | apply Kd.R_drewN | apply Kd.R_drew)); exact HO_7.out⟩, ⟨by (with_reducible repeat (first | apply Kd.R_alloc | apply Kd.R_drewN | apply Kd.R_drew)); exact HO_8.out⟩, ⟨by (with_reducible repeat (first | apply Kd.R_alloc | apply Kd.R_drewN | apply Kd.R_drew)); exact HO_9.out⟩, ⟨by (with_reducible repeat (first | apply Kd.R_alloc | apply Kd.R_drewN | apply Kd.R_drew)); exact HO_13.out⟩, ⟨by (with_reducible repeat (first | apply Kd.R_alloc | apply Kd.R_drewN | apply Kd.R_drew)); exact HO_17.out⟩, ⟨by (with_reducible repeat (first | refine blk_drewN ?_ _ | refine blk_drew ?_ | refine blk_alloc ?_ _)); exact BK281.out⟩, ⟨by repeat (first | (with_reducible first | exact HB.out | apply below_alloc | apply pw_below_drewN | apply below_drew1 | refine below_set ?_ GE281.out) | exact HB.out)⟩⟩
          case round =>
            clear H'
            try clear c1
            try clear c2
            try clear p2
            try clear c3
            try clear c4
            try clear c5
            try clear c11
            try clear c26
            try clear c31
            try clear c32
            try clear c32b0
            try clear c32b1
            try clear c33
            try clear c34
            try clear c35
            try clear c35b0
            try clear c35b1
            try clear c41
            try clear c42
            try clear c43
            try clear c44
            try clear c45
            try clear c58
            try clear hcz18_0
            try clear hcz18_1
            try clear hcz18_2
            try clear hcz21_0
            try clear hcz21_1
            try clear hcz21_2
            try clear hcz23_0
            try clear hcz23_1
            try clear hcz23_2
            try clear hcz26_0
            try clear hcz26_1
            try clear hcz26_2
            try clear hcz28_0
            try clear hcz28_1
            try clear hcz28_2
            try clear hcz42_0
            try clear hcz42_1
            try clear hcz42_2
            try clear hfz18_0
            try clear hfz18_1
            try clear hfz18_2
            try clear hfz21_0
            try clear hfz21_1
            try clear hfz21_2
            try clear hfz23_0
            try clear hfz23_1
            try clear hfz23_2
            try clear hfz26_0
            try clear hfz26_1
            try clear hfz26_2
            try clear hfz28_0
            try clear hfz28_1
            try clear hfz28_2
            try clear hfz42_0
            try clear hfz42_1
            try clear hfz42_2
            try clear p2
            obtain ⟨x9_2, x96_2, rfl, HA, HK2, HO_7, HO_8, HO_9, HO_13, HO_17, BK281, HB⟩ := hrel
            have hl9_2 := (Kd.R_reads' HO_9.out).1
            rw [hl9_2] at HO_9
            (try simp only [hl9_2])
            (try simp only [hl9_2] at BK281)
            (try simp only [hl9_2] at HO_7)
            (try simp only [hl9_2] at HO_8)
            (try simp only [hl9_2] at HO_13)
            (try simp only [hl9_2] at HO_17)
            cases gk with
            | zero => exact absurd HA.out (by simp [calamuslaw02_BeCuts.l0])
            | succ k2 =>
              have H := HA.out
              clear HA
              simp only [calamuslaw02_BeCuts.l0] at H
              by_cases c60 : x96_2 < (t289.length : Int)
              · rw [if_pos c60] at H
                have c60b0 : decide (x96_2 < (t289.length : Int)) = true := decide_eq_true c60
                clear c60
                by_cases c61 : 0 ≤ x96_2
                · rw [if_pos c61] at H
                  have c61b0 : decide (0 ≤ x96_2) = true := decide_eq_true c61
                  clear c61
                  by_cases c62 : x96_2 < (x9_2.length : Int)
                  · rw [if_pos c62] at H
                    have c62b0 : decide (x96_2 < (x9_2.length : Int)) = true := decide_eq_true c62
                    clear c62
                    obtain ⟨y315, hy315⟩ : ∃ y_ : List Int, y_ = (x9_2.set (x96_2 : Int).toNat (((rd x9_2 x96_2) + 1) % 256)) := ⟨_, rfl⟩
                    replace H : (calamuslaw02_BeCuts.l0 k2 l0 l1 t283 t286 y315 t297 t305 (t289.length : Int) (wrap64 (x96_2 + 1))) = some r := by first | (rw [hy315]; with_reducible exact H) | (have H2_ := (Option.bind_some _ _).symm.trans H; rw [hy315]; with_reducible exact H2_) | (have H2_ := (Option.bind_some _ _).symm.trans H; with_reducible exact H2_) | with_reducible exact H | (rw [hy315]; exact H) | exact H
                    have Ny315 := Aside0.mk hy315
                    clear hy315
                    have H' := Aside0.mk H
                    clear H
                    have p314 : 0 ≤ (x96_2 : Int) := of_decide_eq_true (by first | (with_reducible assumption) | assumption)
                    have q314 : x96_2 < (x9_2.length : Int) := of_decide_eq_true (by first | (with_reducible assumption) | assumption)
                    obtain ⟨ad314, e314, hx314_0⟩ := Kd.at_int (Kd.R_reads' HO_9.out).2.2 x96_2 p314 q314
                    cases e314
                    replace p314 := eq_true p314
                    replace q314 := eq_true q314
                    have p63 : 0 ≤ (x96_2 : Int) := of_decide_eq_true (by first | (with_reducible assumption) | assumption)
                    have q63 : (x96_2 : Int) < ((x9_2.length : Int) : Int) := of_decide_eq_true (by first | (with_reducible assumption) | assumption)
                    obtain ⟨go63, co63, eo63, gb63, gl63, cl63, HG63⟩ := Kd.R_form HO_9.out (by omega)
                    (first | cases eo63 | (injection eo63 with ea_ en_ ec_; (first | subst ea_ | (injection ea_ with ea_; subst ea_)); subst ec_; clear en_))
                    have GB63 := Aside0.mk gb63
                    have GG63 := Aside0.mk HG63
                    clear gb63 gl63 HG63
                    (first | simp only [add_plain] at hx314_0 | skip)
                    obtain ⟨hx63_0, hf63_0⟩ := Kd.R_celln 0 HO_9.out (x96_2 : Int) p63 q63
                    replace p63 := eq_true p63
                    replace q63 := eq_true q63
                    have HP64 := Kd.R_putg HO_9.out (x96_2 : Int) (((rd x9_2 x96_2) + 1) % 256)
                    go_wp2_with (first | ((with_reducible refine gate_store (t := 5) (p := 106) rfl ?_); refine store_event (t := 5) (p := 106) (v := ?vo_w65) (w1 := (wr.setCell ⟨go63, (x96_2 : Int).toNat, none⟩ (.int .u8 (((rd x9_2 x96_2) + 1) % 256)))) ?hg ?ho ?hn ?hr ?_; (case ho => rfl); (case hg => rfl); (case hn => rfl); (case hr => first | (go_simp; done) | (go_simp; rfl)); intro w65 hw; have hg : wr.grownBy w65 (some go63) := (by rw [hw]; exact HP64.2); have hp_ : Kd.R (Kd.int .u8) 5 w65 w.heap.size (fun k_ => some k_ ≠ (.slice Ao19 t283.length co19 : Value).ownBlock ∧ some k_ ≠ (.slice Ao24 t286.length co24 : Value).ownBlock ∧ some k_ ≠ (v299 : Value).ownBlock ∧ some k_ ≠ (v306 : Value).ownBlock) (.slice (some ⟨go63, 0, none⟩) x9_2.length co59) y315 := (by rw [hw, Ny315.out]; exact HP64.1); clear HP64; have n0_ := Aside0.mk (Kd.R_after (v := (.slice (some ⟨go63, 0, none⟩) x9_2.length co59)) (v1 := (.slice (some ⟨go63, 0, none⟩) x9_2.length co59)) (ok := (fun k_ => some k_ ≠ (.slice Ao24 t286.length co24 : Value).ownBlock ∧ some k_ ≠ (v299 : Value).ownBlock ∧ some k_ ≠ (v306 : Value).ownBlock)) (by (with_reducible repeat (first | apply Kd.R_alloc | apply Kd.R_drewN | apply Kd.R_drew)); exact Kd.R_mono HO_7.out (fun _ hk => ⟨⟨hk.1, ⟨hk.2.2.1, hk.2.2.2⟩⟩, hk.2.1⟩)) hg (.inl rfl)); have n1_ := Aside0.mk (Kd.R_after (v := (.slice (some ⟨go63, 0, none⟩) x9_2.length co59)) (v1 := (.slice (some ⟨go63, 0, none⟩) x9_2.length co59)) (ok := (fun k_ => some k_ ≠ (.slice Ao19 t283.length co19 : Value).ownBlock ∧ some k_ ≠ (v299 : Value).ownBlock ∧ some k_ ≠ (v306 : Value).ownBlock)) (by (with_reducible repeat (first | apply Kd.R_alloc | apply Kd.R_drewN | apply Kd.R_drew)); exact Kd.R_mono HO_8.out (fun _ hk => ⟨⟨hk.1, ⟨hk.2.2.1, hk.2.2.2⟩⟩, hk.2.1⟩)) hg (.inl rfl)); have n2_ := Aside0.mk (hp_); have n3_ := Aside0.mk (Kd.R_after (v := (.slice (some ⟨go63, 0, none⟩) x9_2.length co59)) (v1 := (.slice (some ⟨go63, 0, none⟩) x9_2.length co59)) (ok := (fun k_ => some k_ ≠ (.slice Ao19 t283.length co19 : Value).ownBlock ∧ some k_ ≠ (.slice Ao24 t286.length co24 : Value).ownBlock ∧ some k_ ≠ (v306 : Value).ownBlock)) (by (with_reducible repeat (first | apply Kd.R_alloc | apply Kd.R_drewN | apply Kd.R_drew)); exact Kd.R_mono HO_13.out (fun _ hk => ⟨⟨hk.1, ⟨hk.2.1, hk.2.2.2⟩⟩, hk.2.2.1⟩)) hg (.inl rfl)); have n4_ := Aside0.mk (Kd.R_after (v := (.slice (some ⟨go63, 0, none⟩) x9_2.length co59)) (v1 := (.slice (some ⟨go63, 0, none⟩) x9_2.length co59)) (ok := (fun k_ => some k_ ≠ (.slice Ao19 t283.length co19 : Value).ownBlock ∧ some k_ ≠ (.slice Ao24 t286.length co24 : Value).ownBlock ∧ some k_ ≠ (v299 : Value).ownBlock)) (by (with_reducible repeat (first | apply Kd.R_alloc | apply Kd.R_drewN | apply Kd.R_drew)); exact Kd.R_mono HO_17.out (fun _ hk => ⟨⟨hk.1, ⟨hk.2.1, hk.2.2.2⟩⟩, hk.2.2.1⟩)) hg (.inl rfl)); have n5_ := Aside0.mk (blk_grown (g := gb281) (o := .cells #[.int .i64 a2_0, .int .i64 a2_1, .int .i64 a2_2] 46 (0, 0)) (by (with_reducible repeat (first | refine blk_drewN ?_ _ | refine blk_drew ?_ | refine blk_alloc ?_ _)); exact BK281.out) hg (Kd.R_ne HO_9.out BK281.out (by decide))); have n6_ := Aside0.mk ((by rw [hw]; exact below_set (HB.out) GB63.out : Below w.heap.size w w65)); clear HO_7; clear HO_8; clear HO_9; clear HO_13; clear HO_17; clear BK281; clear HB; have HO_7 := n0_; have HO_8 := n1_; have HO_9 := n2_; have HO_13 := n3_; have HO_17 := n4_; have BK281 := n5_; have HB := n6_; clear n0_ n1_ n2_ n3_ n4_ n5_ n6_; clear hg hw hp_))
                    (try simp only [← hl9_2])
                    go_roundg k2
                    case measure => have := HJ12.out; have := HK2.out; omega
                    case rel => exact ⟨(y315), (wrap64 (x96_2 + 1)), (by first | rfl | (simp; done) | (simp [*]; done)), H', ⟨by have := HJ12.out; have := HK2.out; omega⟩, ⟨by (try simp only [hl9_2]); (with_reducible repeat (first | apply Kd.R_alloc | apply Kd.R_drewN | apply Kd.R_drew)); exact Kd.R_mono HO_7.out (fun _ hk => ⟨hk.1.1, ⟨hk.2, ⟨hk.1.2.1, hk.1.2.2⟩⟩⟩)⟩, ⟨by (try simp only [hl9_2]); (with_reducible repeat (first | apply Kd.R_alloc | apply Kd.R_drewN | apply Kd.R_drew)); exact Kd.R_mono HO_8.out (fun _ hk => ⟨hk.1.1, ⟨hk.2, ⟨hk.1.2.1, hk.1.2.2⟩⟩⟩)⟩, ⟨by (try simp only [hl9_2]); (with_reducible repeat (first | apply Kd.R_alloc | apply Kd.R_drewN | apply Kd.R_drew)); exact HO_9.out⟩, ⟨by (try simp only [hl9_2]); (with_reducible repeat (first | apply Kd.R_alloc | apply Kd.R_drewN | apply Kd.R_drew)); exact Kd.R_mono HO_13.out (fun _ hk => ⟨hk.1.1, ⟨hk.1.2.1, ⟨hk.2, hk.1.2.2⟩⟩⟩)⟩, ⟨by (try simp only [hl9_2]); (with_reducible repeat (first | apply Kd.R_alloc | apply Kd.R_drewN | apply Kd.R_drew)); exact Kd.R_mono HO_17.out (fun _ hk => ⟨hk.1.1, ⟨hk.1.2.1, ⟨hk.2, hk.1.2.2⟩⟩⟩)⟩, ⟨by (try simp only [hl9_2]); (with_reducible repeat (first | refine blk_drewN ?_ _ | refine blk_drew ?_ | refine blk_alloc ?_ _)); exact BK281.out⟩, ⟨by repeat (first | (with_reducible first | exact HB.out | apply below_alloc | apply pw_below_drewN | apply below_drew1 | refine below_set ?_ GE281.out) | exact HB.out)⟩⟩
                  · rw [if_neg c62] at H
                    exact absurd H (by simp)
                · rw [if_neg c61] at H
                  exact absurd H (by simp)
              · rw [if_neg c60] at H
                have c60b0 : decide (x96_2 < (t289.length : Int)) = false := decide_eq_false c60
                have c60b1 : decide (x96_2 < (x9_2.length : Int)) = false := by rw [← hl9_2]; exact c60b0
                clear c60
                have H' := Aside0.mk H
                clear H
                obtain ⟨Ao66, co66, eo66⟩ := Kd.R_slice HO_13.out
                subst eo66
                go_wp2
                go_loopg [110] k2 (fun kq v110 w' => ∃ (x13_3 : List Int) (x110_3 : Int), v110 = .int .i64 x110_3 ∧ Aside0 (calamuslaw02_BeCuts.l1 kq l0 l1 t283 t286 x13_3 t305 (t297.length : Int) x110_3 = some r) ∧ Aside0 (kq ≤ k2) ∧ Aside0 (Kd.R (Kd.int .u8) 5 w' w.heap.size (fun k_ => some k_ ≠ ((.slice Ao24 t286.length co24) : Value).ownBlock ∧ some k_ ≠ ((.slice Ao66 t297.length co66) : Value).ownBlock ∧ some k_ ≠ (v306 : Value).ownBlock) (.slice Ao19 t283.length co19) t283) ∧ Aside0 (Kd.R (Kd.int .u8) 5 w' w.heap.size (fun k_ => some k_ ≠ ((.slice Ao19 t283.length co19) : Value).ownBlock ∧ some k_ ≠ ((.slice Ao66 t297.length co66) : Value).ownBlock ∧ some k_ ≠ (v306 : Value).ownBlock) (.slice Ao24 t286.length co24) t286) ∧ Aside0 (Kd.R (Kd.int .u8) 5 w' w.heap.size (fun k_ => some k_ ≠ ((.slice Ao19 t283.length co19) : Value).ownBlock ∧ some k_ ≠ ((.slice Ao24 t286.length co24) : Value).ownBlock ∧ some k_ ≠ (v306 : Value).ownBlock) (.slice Ao66 t297.length co66) x13_3) ∧ Aside0 (Kd.R (Kd.int .u8) 5 w' w.heap.size (fun k_ => some k_ ≠ ((.slice Ao19 t283.length co19) : Value).ownBlock ∧ some k_ ≠ ((.slice Ao24 t286.length co24) : Value).ownBlock ∧ some k_ ≠ ((.slice Ao66 t297.length co66) : Value).ownBlock) v306 t305) ∧ Aside0 (w'.heap[gb281]? = some (.cells #[.int .i64 a2_0, .int .i64 a2_1, .int .i64 a2_2] 46 (0, 0))) ∧ Aside0 (Below w.heap.size w w'))
                case atStart => exact ⟨(t297), (0), (by first | rfl | (simp; done) | (simp [*]; done)), H', ⟨Nat.le_refl _⟩, ⟨by (try simp only [hl9_2]); (with_reducible repeat (first | apply Kd.R_alloc | apply Kd.R_drewN | apply Kd.R_drew)); exact Kd.R_mono HO_7.out (fun _ hk => ⟨hk.1, ⟨hk.2.2.1, hk.2.2.2⟩⟩)⟩, ⟨by (try simp only [hl9_2]); (with_reducible repeat (first | apply Kd.R_alloc | apply Kd.R_drewN | apply Kd.R_drew)); exact Kd.R_mono HO_8.out (fun _ hk => ⟨hk.1, ⟨hk.2.2.1, hk.2.2.2⟩⟩)⟩, ⟨by (try simp only [hl9_2]); (with_reducible repeat (first | apply Kd.R_alloc | apply Kd.R_drewN | apply Kd.R_drew)); exact Kd.R_mono HO_13.out (fun _ hk => ⟨hk.1, ⟨hk.2.1, hk.2.2.2⟩⟩)⟩, ⟨by (try simp only [hl9_2]); (with_reducible repeat (first | apply Kd.R_alloc | apply Kd.R_drewN | apply Kd.R_drew)); exact Kd.R_mono HO_17.out (fun _ hk => ⟨hk.1, ⟨hk.2.1, hk.2.2.2⟩⟩)⟩, ⟨by (try simp only [hl9_2]); (with_reducible repeat (first | refine blk_drewN ?_ _ | refine blk_drew ?_ | refine blk_alloc ?_ _)); exact BK281.out⟩, ⟨by repeat (first | (with_reducible first | exact HB.out | apply below_alloc | apply pw_below_drewN | apply below_drew1 | refine below_set ?_ GE281.out) | exact HB.out)⟩⟩
                case round =>
                  clear H'
                  try clear c1
                  try clear c2
                  try clear p2
                  try clear c3
                  try clear p3
                  try clear q3
                  try clear hx3
                  try clear c4
                  try clear c5
                  try clear c6
                  try clear p6
                  try clear q6
                  try clear hx6
                  try clear hf6
                  try clear c11
                  try clear c26
                  try clear c31
                  try clear p31
                  try clear q31
                  try clear hx31
                  try clear c32
                  try clear c32b0
                  try clear c32b1
                  try clear c33
                  try clear c34
                  try clear c35
                  try clear c35b0
                  try clear c35b1
                  try clear c41
                  try clear c42
                  try clear c43
                  try clear c44
                  try clear c45
                  try clear c58
                  try clear c60
                  try clear c60b0
                  try clear c61
                  try clear c61b0
                  try clear c62
                  try clear c62b0
                  try clear p63
                  try clear q63
                  try clear hx63
                  try clear hf63
                  try clear p64
                  try clear hcz18_0
                  try clear hcz18_1
                  try clear hcz18_2
                  try clear hcz21_0
                  try clear hcz21_1
                  try clear hcz21_2
                  try clear hcz23_0
                  try clear hcz23_1
                  try clear hcz23_2
                  try clear hcz26_0
                  try clear hcz26_1
                  try clear hcz26_2
                  try clear hcz28_0
                  try clear hcz28_1
                  try clear hcz28_2
                  try clear hcz42_0
                  try clear hcz42_1
                  try clear hcz42_2
                  try clear hfz18_0
                  try clear hfz18_1
                  try clear hfz18_2
                  try clear hfz21_0
                  try clear hfz21_1
                  try clear hfz21_2
                  try clear hfz23_0
                  try clear hfz23_1
                  try clear hfz23_2
                  try clear hfz26_0
                  try clear hfz26_1
                  try clear hfz26_2
                  try clear hfz28_0
                  try clear hfz28_1
                  try clear hfz28_2
                  try clear hfz42_0
                  try clear hfz42_1
                  try clear hfz42_2
                  try clear hx314_0
                  try clear hx63_0
                  try clear p2
                  try clear p314
                  try clear p63
                  try clear q314
                  try clear q63
                  obtain ⟨x13_3, x110_3, rfl, HA, HK3, HO_7, HO_8, HO_13, HO_17, BK281, HB⟩ := hrel
                  have hl13_3 := (Kd.R_reads' HO_13.out).1
                  rw [hl13_3] at HO_13
                  (try simp only [hl13_3])
                  (try simp only [hl13_3] at BK281)
                  (try simp only [hl13_3] at HO_7)
                  (try simp only [hl13_3] at HO_8)
                  (try simp only [hl13_3] at HO_17)
                  cases gk with
                  | zero => exact absurd HA.out (by simp [calamuslaw02_BeCuts.l1])
                  | succ k3 =>
                    have H := HA.out
                    clear HA
                    simp only [calamuslaw02_BeCuts.l1] at H
                    by_cases c67 : x110_3 < (t297.length : Int)
                    · rw [if_pos c67] at H
                      have c67b0 : decide (x110_3 < (t297.length : Int)) = true := decide_eq_true c67
                      clear c67
                      by_cases c68 : 0 ≤ x110_3
                      · rw [if_pos c68] at H
                        have c68b0 : decide (0 ≤ x110_3) = true := decide_eq_true c68
                        clear c68
                        by_cases c69 : x110_3 < (x13_3.length : Int)
                        · rw [if_pos c69] at H
                          have c69b0 : decide (x110_3 < (x13_3.length : Int)) = true := decide_eq_true c69
                          clear c69
                          obtain ⟨y317, hy317⟩ : ∃ y_ : List Int, y_ = (x13_3.set (x110_3 : Int).toNat (((rd x13_3 x110_3) + 1) % 256)) := ⟨_, rfl⟩
                          replace H : (calamuslaw02_BeCuts.l1 k3 l0 l1 t283 t286 y317 t305 (t297.length : Int) (wrap64 (x110_3 + 1))) = some r := by first | (rw [hy317]; with_reducible exact H) | (have H2_ := (Option.bind_some _ _).symm.trans H; rw [hy317]; with_reducible exact H2_) | (have H2_ := (Option.bind_some _ _).symm.trans H; with_reducible exact H2_) | with_reducible exact H | (rw [hy317]; exact H) | exact H
                          have Ny317 := Aside0.mk hy317
                          clear hy317
                          have H' := Aside0.mk H
                          clear H
                          have p316 : 0 ≤ (x110_3 : Int) := of_decide_eq_true (by first | (with_reducible assumption) | assumption)
                          have q316 : x110_3 < (x13_3.length : Int) := of_decide_eq_true (by first | (with_reducible assumption) | assumption)
                          obtain ⟨ad316, e316, hx316_0⟩ := Kd.at_int (Kd.R_reads' HO_13.out).2.2 x110_3 p316 q316
                          cases e316
                          replace p316 := eq_true p316
                          replace q316 := eq_true q316
                          have p70 : 0 ≤ (x110_3 : Int) := of_decide_eq_true (by first | (with_reducible assumption) | assumption)
                          have q70 : (x110_3 : Int) < ((x13_3.length : Int) : Int) := of_decide_eq_true (by first | (with_reducible assumption) | assumption)
                          obtain ⟨go70, co70, eo70, gb70, gl70, cl70, HG70⟩ := Kd.R_form HO_13.out (by omega)
                          (first | cases eo70 | (injection eo70 with ea_ en_ ec_; (first | subst ea_ | (injection ea_ with ea_; subst ea_)); subst ec_; clear en_))
                          have GB70 := Aside0.mk gb70
                          have GG70 := Aside0.mk HG70
                          clear gb70 gl70 HG70
                          (first | simp only [add_plain] at hx316_0 | skip)
                          obtain ⟨hx70_0, hf70_0⟩ := Kd.R_celln 0 HO_13.out (x110_3 : Int) p70 q70
                          replace p70 := eq_true p70
                          replace q70 := eq_true q70
                          have HP71 := Kd.R_putg HO_13.out (x110_3 : Int) (((rd x13_3 x110_3) + 1) % 256)
                          go_wp2_with (first | ((with_reducible refine gate_store (t := 5) (p := 120) rfl ?_); refine store_event (t := 5) (p := 120) (v := ?vo_w72) (w1 := (wr.setCell ⟨go70, (x110_3 : Int).toNat, none⟩ (.int .u8 (((rd x13_3 x110_3) + 1) % 256)))) ?hg ?ho ?hn ?hr ?_; (case ho => rfl); (case hg => rfl); (case hn => rfl); (case hr => first | (go_simp; done) | (go_simp; rfl)); intro w72 hw; have hg : wr.grownBy w72 (some go70) := (by rw [hw]; exact HP71.2); have hp_ : Kd.R (Kd.int .u8) 5 w72 w.heap.size (fun k_ => some k_ ≠ (.slice Ao19 t283.length co19 : Value).ownBlock ∧ some k_ ≠ (.slice Ao24 t286.length co24 : Value).ownBlock ∧ some k_ ≠ (v306 : Value).ownBlock) (.slice (some ⟨go70, 0, none⟩) x13_3.length co66) y317 := (by rw [hw, Ny317.out]; exact HP71.1); clear HP71; have n0_ := Aside0.mk (Kd.R_after (v := (.slice (some ⟨go70, 0, none⟩) x13_3.length co66)) (v1 := (.slice (some ⟨go70, 0, none⟩) x13_3.length co66)) (ok := (fun k_ => some k_ ≠ (.slice Ao24 t286.length co24 : Value).ownBlock ∧ some k_ ≠ (v306 : Value).ownBlock)) (by (with_reducible repeat (first | apply Kd.R_alloc | apply Kd.R_drewN | apply Kd.R_drew)); exact Kd.R_mono HO_7.out (fun _ hk => ⟨⟨hk.1, hk.2.2⟩, hk.2.1⟩)) hg (.inl rfl)); have n1_ := Aside0.mk (Kd.R_after (v := (.slice (some ⟨go70, 0, none⟩) x13_3.length co66)) (v1 := (.slice (some ⟨go70, 0, none⟩) x13_3.length co66)) (ok := (fun k_ => some k_ ≠ (.slice Ao19 t283.length co19 : Value).ownBlock ∧ some k_ ≠ (v306 : Value).ownBlock)) (by (with_reducible repeat (first | apply Kd.R_alloc | apply Kd.R_drewN | apply Kd.R_drew)); exact Kd.R_mono HO_8.out (fun _ hk => ⟨⟨hk.1, hk.2.2⟩, hk.2.1⟩)) hg (.inl rfl)); have n2_ := Aside0.mk (hp_); have n3_ := Aside0.mk (Kd.R_after (v := (.slice (some ⟨go70, 0, none⟩) x13_3.length co66)) (v1 := (.slice (some ⟨go70, 0, none⟩) x13_3.length co66)) (ok := (fun k_ => some k_ ≠ (.slice Ao19 t283.length co19 : Value).ownBlock ∧ some k_ ≠ (.slice Ao24 t286.length co24 : Value).ownBlock)) (by (with_reducible repeat (first | apply Kd.R_alloc | apply Kd.R_drewN | apply Kd.R_drew)); exact Kd.R_mono HO_17.out (fun _ hk => ⟨⟨hk.1, hk.2.1⟩, hk.2.2⟩)) hg (.inl rfl)); have n4_ := Aside0.mk (blk_grown (g := gb281) (o := .cells #[.int .i64 a2_0, .int .i64 a2_1, .int .i64 a2_2] 46 (0, 0)) (by (with_reducible repeat (first | refine blk_drewN ?_ _ | refine blk_drew ?_ | refine blk_alloc ?_ _)); exact BK281.out) hg (Kd.R_ne HO_13.out BK281.out (by decide))); have n5_ := Aside0.mk ((by rw [hw]; exact below_set (HB.out) GB70.out : Below w.heap.size w w72)); clear HO_7; clear HO_8; clear HO_13; clear HO_17; clear BK281; clear HB; have HO_7 := n0_; have HO_8 := n1_; have HO_13 := n2_; have HO_17 := n3_; have BK281 := n4_; have HB := n5_; clear n0_ n1_ n2_ n3_ n4_ n5_; clear hg hw hp_))
                          (try simp only [← hl13_3])
                          go_roundg k3
                          case measure => have := HJ12.out; have := HK2.out; have := HK3.out; omega
                          case rel => exact ⟨(y317), (wrap64 (x110_3 + 1)), (by first | rfl | (simp; done) | (simp [*]; done)), H', ⟨by have := HJ12.out; have := HK2.out; have := HK3.out; omega⟩, ⟨by (try simp only [hl9_2]); (try simp only [hl13_3]); (with_reducible repeat (first | apply Kd.R_alloc | apply Kd.R_drewN | apply Kd.R_drew)); exact Kd.R_mono HO_7.out (fun _ hk => ⟨hk.1.1, ⟨hk.2, hk.1.2⟩⟩)⟩, ⟨by (try simp only [hl9_2]); (try simp only [hl13_3]); (with_reducible repeat (first | apply Kd.R_alloc | apply Kd.R_drewN | apply Kd.R_drew)); exact Kd.R_mono HO_8.out (fun _ hk => ⟨hk.1.1, ⟨hk.2, hk.1.2⟩⟩)⟩, ⟨by (try simp only [hl9_2]); (try simp only [hl13_3]); (with_reducible repeat (first | apply Kd.R_alloc | apply Kd.R_drewN | apply Kd.R_drew)); exact HO_13.out⟩, ⟨by (try simp only [hl9_2]); (try simp only [hl13_3]); (with_reducible repeat (first | apply Kd.R_alloc | apply Kd.R_drewN | apply Kd.R_drew)); exact Kd.R_mono HO_17.out (fun _ hk => ⟨hk.1.1, ⟨hk.1.2, hk.2⟩⟩)⟩, ⟨by (try simp only [hl9_2]); (try simp only [hl13_3]); (with_reducible repeat (first | refine blk_drewN ?_ _ | refine blk_drew ?_ | refine blk_alloc ?_ _)); exact BK281.out⟩, ⟨by repeat (first | (with_reducible first | exact HB.out | apply below_alloc | apply pw_below_drewN | apply below_drew1 | refine below_set ?_ GE281.out) | exact HB.out)⟩⟩
                        · rw [if_neg c69] at H
                          exact absurd H (by simp)
                      · rw [if_neg c68] at H
                        exact absurd H (by simp)
                    · rw [if_neg c67] at H
                      have c67b0 : decide (x110_3 < (t297.length : Int)) = false := decide_eq_false c67
                      have c67b1 : decide (x110_3 < (x13_3.length : Int)) = false := by rw [← hl13_3]; exact c67b0
                      clear c67
                      have H' := Aside0.mk H
                      clear H
                      obtain ⟨Ao73, co73, eo73⟩ := Kd.R_slice HO_17.out
                      subst eo73
                      go_wp2
                      go_loopg [124] k3 (fun kq v124 w' => ∃ (x17_4 : List Int) (x124_4 : Int), v124 = .int .i64 x124_4 ∧ Aside0 (calamuslaw02_BeCuts.l2 kq l0 l1 t283 t286 x17_4 (t305.length : Int) x124_4 = some r) ∧ Aside0 (kq ≤ k3) ∧ Aside0 (Kd.R (Kd.int .u8) 5 w' w.heap.size (fun k_ => some k_ ≠ ((.slice Ao24 t286.length co24) : Value).ownBlock ∧ some k_ ≠ ((.slice Ao73 t305.length co73) : Value).ownBlock) (.slice Ao19 t283.length co19) t283) ∧ Aside0 (Kd.R (Kd.int .u8) 5 w' w.heap.size (fun k_ => some k_ ≠ ((.slice Ao19 t283.length co19) : Value).ownBlock ∧ some k_ ≠ ((.slice Ao73 t305.length co73) : Value).ownBlock) (.slice Ao24 t286.length co24) t286) ∧ Aside0 (Kd.R (Kd.int .u8) 5 w' w.heap.size (fun k_ => some k_ ≠ ((.slice Ao19 t283.length co19) : Value).ownBlock ∧ some k_ ≠ ((.slice Ao24 t286.length co24) : Value).ownBlock) (.slice Ao73 t305.length co73) x17_4) ∧ Aside0 (w'.heap[gb281]? = some (.cells #[.int .i64 a2_0, .int .i64 a2_1, .int .i64 a2_2] 46 (0, 0))) ∧ Aside0 (Below w.heap.size w w'))
                      case atStart => exact ⟨(t305), (0), (by first | rfl | (simp; done) | (simp [*]; done)), H', ⟨Nat.le_refl _⟩, ⟨by (try simp only [hl9_2]); (try simp only [hl13_3]); (with_reducible repeat (first | apply Kd.R_alloc | apply Kd.R_drewN | apply Kd.R_drew)); exact Kd.R_mono HO_7.out (fun _ hk => ⟨hk.1, hk.2.2⟩)⟩, ⟨by (try simp only [hl9_2]); (try simp only [hl13_3]); (with_reducible repeat (first | apply Kd.R_alloc | apply Kd.R_drewN | apply Kd.R_drew)); exact Kd.R_mono HO_8.out (fun _ hk => ⟨hk.1, hk.2.2⟩)⟩, ⟨by (try simp only [hl9_2]); (try simp only [hl13_3]); (with_reducible repeat (first | apply Kd.R_alloc | apply Kd.R_drewN | apply Kd.R_drew)); exact Kd.R_mono HO_17.out (fun _ hk => ⟨hk.1, hk.2.1⟩)⟩, ⟨by (try simp only [hl9_2]); (try simp only [hl13_3]); (with_reducible repeat (first | refine blk_drewN ?_ _ | refine blk_drew ?_ | refine blk_alloc ?_ _)); exact BK281.out⟩, ⟨by repeat (first | (with_reducible first | exact HB.out | apply below_alloc | apply pw_below_drewN | apply below_drew1 | refine below_set ?_ GE281.out) | exact HB.out)⟩⟩
                      case round =>
                        clear H'
                        try clear c1
                        try clear c2
                        try clear p2
                        try clear c3
                        try clear p3
                        try clear q3
                        try clear hx3
                        try clear c4
                        try clear c5
                        try clear c6
                        try clear p6
                        try clear q6
                        try clear hx6
                        try clear hf6
                        try clear p7
                        try clear q7
                        try clear hx7
                        try clear hf7
                        try clear c11
                        try clear c26
                        try clear c31
                        try clear p31
                        try clear q31
                        try clear hx31
                        try clear c32
                        try clear c32b0
                        try clear c32b1
                        try clear c33
                        try clear c34
                        try clear c35
                        try clear c35b0
                        try clear c35b1
                        try clear c41
                        try clear c42
                        try clear c43
                        try clear c44
                        try clear c45
                        try clear c58
                        try clear c60
                        try clear c60b0
                        try clear c61
                        try clear c61b0
                        try clear c62
                        try clear c62b0
                        try clear p63
                        try clear q63
                        try clear hx63
                        try clear hf63
                        try clear p64
                        try clear c67
                        try clear c67b0
                        try clear c68
                        try clear c68b0
                        try clear c69
                        try clear c69b0
                        try clear p70
                        try clear q70
                        try clear hx70
                        try clear hf70
                        try clear hcz18_0
                        try clear hcz18_1
                        try clear hcz18_2
                        try clear hcz21_0
                        try clear hcz21_1
                        try clear hcz21_2
                        try clear hcz23_0
                        try clear hcz23_1
                        try clear hcz23_2
                        try clear hcz26_0
                        try clear hcz26_1
                        try clear hcz26_2
                        try clear hcz28_0
                        try clear hcz28_1
                        try clear hcz28_2
                        try clear hcz42_0
                        try clear hcz42_1
                        try clear hcz42_2
                        try clear hfz18_0
                        try clear hfz18_1
                        try clear hfz18_2
                        try clear hfz21_0
                        try clear hfz21_1
                        try clear hfz21_2
                        try clear hfz23_0
                        try clear hfz23_1
                        try clear hfz23_2
                        try clear hfz26_0
                        try clear hfz26_1
                        try clear hfz26_2
                        try clear hfz28_0
                        try clear hfz28_1
                        try clear hfz28_2
                        try clear hfz42_0
                        try clear hfz42_1
                        try clear hfz42_2
                        try clear hx314_0
                        try clear hx316_0
                        try clear hx63_0
                        try clear hx70_0
                        try clear p2
                        try clear p3
                        try clear p31
                        try clear p314
                        try clear p316
                        try clear p6
                        try clear p63
                        try clear p64
                        try clear p70
                        try clear q3
                        try clear q31
                        try clear q314
                        try clear q316
                        try clear q6
                        try clear q63
                        try clear q70
                        obtain ⟨x17_4, x124_4, rfl, HA, HK4, HO_7, HO_8, HO_17, BK281, HB⟩ := hrel
                        have hl17_4 := (Kd.R_reads' HO_17.out).1
                        rw [hl17_4] at HO_17
                        (try simp only [hl17_4])
                        (try simp only [hl17_4] at BK281)
                        (try simp only [hl17_4] at HO_7)
                        (try simp only [hl17_4] at HO_8)
                        cases gk with
                        | zero => exact absurd HA.out (by simp [calamuslaw02_BeCuts.l2])
                        | succ k4 =>
                          have H := HA.out
                          clear HA
                          simp only [calamuslaw02_BeCuts.l2] at H
                          by_cases c74 : x124_4 < (t305.length : Int)
                          · rw [if_pos c74] at H
                            have c74b0 : decide (x124_4 < (t305.length : Int)) = true := decide_eq_true c74
                            clear c74
                            by_cases c75 : 0 ≤ x124_4
                            · rw [if_pos c75] at H
                              have c75b0 : decide (0 ≤ x124_4) = true := decide_eq_true c75
                              clear c75
                              by_cases c76 : x124_4 < (x17_4.length : Int)
                              · rw [if_pos c76] at H
                                have c76b0 : decide (x124_4 < (x17_4.length : Int)) = true := decide_eq_true c76
                                clear c76
                                obtain ⟨y319, hy319⟩ : ∃ y_ : List Int, y_ = (x17_4.set (x124_4 : Int).toNat (((rd x17_4 x124_4) + 1) % 256)) := ⟨_, rfl⟩
                                replace H : (calamuslaw02_BeCuts.l2 k4 l0 l1 t283 t286 y319 (t305.length : Int) (wrap64 (x124_4 + 1))) = some r := by first | (rw [hy319]; with_reducible exact H) | (have H2_ := (Option.bind_some _ _).symm.trans H; rw [hy319]; with_reducible exact H2_) | (have H2_ := (Option.bind_some _ _).symm.trans H; with_reducible exact H2_) | with_reducible exact H | (rw [hy319]; exact H) | exact H
                                have Ny319 := Aside0.mk hy319
                                clear hy319
                                have H' := Aside0.mk H
                                clear H
                                have p318 : 0 ≤ (x124_4 : Int) := of_decide_eq_true (by first | (with_reducible assumption) | assumption)
                                have q318 : x124_4 < (x17_4.length : Int) := of_decide_eq_true (by first | (with_reducible assumption) | assumption)
                                obtain ⟨ad318, e318, hx318_0⟩ := Kd.at_int (Kd.R_reads' HO_17.out).2.2 x124_4 p318 q318
                                cases e318
                                replace p318 := eq_true p318
                                replace q318 := eq_true q318
                                have p77 : 0 ≤ (x124_4 : Int) := of_decide_eq_true (by first | (with_reducible assumption) | assumption)
                                have q77 : (x124_4 : Int) < ((x17_4.length : Int) : Int) := of_decide_eq_true (by first | (with_reducible assumption) | assumption)
                                obtain ⟨go77, co77, eo77, gb77, gl77, cl77, HG77⟩ := Kd.R_form HO_17.out (by omega)
                                (first | cases eo77 | (injection eo77 with ea_ en_ ec_; (first | subst ea_ | (injection ea_ with ea_; subst ea_)); subst ec_; clear en_))
                                have GB77 := Aside0.mk gb77
                                have GG77 := Aside0.mk HG77
                                clear gb77 gl77 HG77
                                (first | simp only [add_plain] at hx318_0 | skip)
                                obtain ⟨hx77_0, hf77_0⟩ := Kd.R_celln 0 HO_17.out (x124_4 : Int) p77 q77
                                replace p77 := eq_true p77
                                replace q77 := eq_true q77
                                have HP78 := Kd.R_putg HO_17.out (x124_4 : Int) (((rd x17_4 x124_4) + 1) % 256)
                                go_wp2_with (first | ((with_reducible refine gate_store (t := 5) (p := 134) rfl ?_); refine store_event (t := 5) (p := 134) (v := ?vo_w79) (w1 := (wr.setCell ⟨go77, (x124_4 : Int).toNat, none⟩ (.int .u8 (((rd x17_4 x124_4) + 1) % 256)))) ?hg ?ho ?hn ?hr ?_; (case ho => rfl); (case hg => rfl); (case hn => rfl); (case hr => first | (go_simp; done) | (go_simp; rfl)); intro w79 hw; have hg : wr.grownBy w79 (some go77) := (by rw [hw]; exact HP78.2); have hp_ : Kd.R (Kd.int .u8) 5 w79 w.heap.size (fun k_ => some k_ ≠ (.slice Ao19 t283.length co19 : Value).ownBlock ∧ some k_ ≠ (.slice Ao24 t286.length co24 : Value).ownBlock) (.slice (some ⟨go77, 0, none⟩) x17_4.length co73) y319 := (by rw [hw, Ny319.out]; exact HP78.1); clear HP78; have n0_ := Aside0.mk (Kd.R_after (v := (.slice (some ⟨go77, 0, none⟩) x17_4.length co73)) (v1 := (.slice (some ⟨go77, 0, none⟩) x17_4.length co73)) (ok := (fun k_ => some k_ ≠ (.slice Ao24 t286.length co24 : Value).ownBlock)) (by (with_reducible repeat (first | apply Kd.R_alloc | apply Kd.R_drewN | apply Kd.R_drew)); exact HO_7.out) hg (.inl rfl)); have n1_ := Aside0.mk (Kd.R_after (v := (.slice (some ⟨go77, 0, none⟩) x17_4.length co73)) (v1 := (.slice (some ⟨go77, 0, none⟩) x17_4.length co73)) (ok := (fun k_ => some k_ ≠ (.slice Ao19 t283.length co19 : Value).ownBlock)) (by (with_reducible repeat (first | apply Kd.R_alloc | apply Kd.R_drewN | apply Kd.R_drew)); exact HO_8.out) hg (.inl rfl)); have n2_ := Aside0.mk (hp_); have n3_ := Aside0.mk (blk_grown (g := gb281) (o := .cells #[.int .i64 a2_0, .int .i64 a2_1, .int .i64 a2_2] 46 (0, 0)) (by (with_reducible repeat (first | refine blk_drewN ?_ _ | refine blk_drew ?_ | refine blk_alloc ?_ _)); exact BK281.out) hg (Kd.R_ne HO_17.out BK281.out (by decide))); have n4_ := Aside0.mk ((by rw [hw]; exact below_set (HB.out) GB77.out : Below w.heap.size w w79)); clear HO_7; clear HO_8; clear HO_17; clear BK281; clear HB; have HO_7 := n0_; have HO_8 := n1_; have HO_17 := n2_; have BK281 := n3_; have HB := n4_; clear n0_ n1_ n2_ n3_ n4_; clear hg hw hp_))
                                (try simp only [← hl17_4])
                                go_roundg k4
                                case measure => have := HJ12.out; have := HK2.out; have := HK3.out; have := HK4.out; omega
                                case rel => exact ⟨(y319), (wrap64 (x124_4 + 1)), (by first | rfl | (simp; done) | (simp [*]; done)), H', ⟨by have := HJ12.out; have := HK2.out; have := HK3.out; have := HK4.out; omega⟩, ⟨by (try simp only [hl9_2]); (try simp only [hl13_3]); (try simp only [hl17_4]); (with_reducible repeat (first | apply Kd.R_alloc | apply Kd.R_drewN | apply Kd.R_drew)); exact HO_7.out⟩, ⟨by (try simp only [hl9_2]); (try simp only [hl13_3]); (try simp only [hl17_4]); (with_reducible repeat (first | apply Kd.R_alloc | apply Kd.R_drewN | apply Kd.R_drew)); exact HO_8.out⟩, ⟨by (try simp only [hl9_2]); (try simp only [hl13_3]); (try simp only [hl17_4]); (with_reducible repeat (first | apply Kd.R_alloc | apply Kd.R_drewN | apply Kd.R_drew)); exact HO_17.out⟩, ⟨by (try simp only [hl9_2]); (try simp only [hl13_3]); (try simp only [hl17_4]); (with_reducible repeat (first | refine blk_drewN ?_ _ | refine blk_drew ?_ | refine blk_alloc ?_ _)); exact BK281.out⟩, ⟨by repeat (first | (with_reducible first | exact HB.out | apply below_alloc | apply pw_below_drewN | apply below_drew1 | refine below_set ?_ GE281.out) | exact HB.out)⟩⟩
                              · rw [if_neg c76] at H
                                exact absurd H (by simp)
                            · rw [if_neg c75] at H
                              exact absurd H (by simp)
                          · rw [if_neg c74] at H
                            have c74b0 : decide (x124_4 < (t305.length : Int)) = false := decide_eq_false c74
                            have c74b1 : decide (x124_4 < (x17_4.length : Int)) = false := by rw [← hl17_4]; exact c74b0
                            clear c74
                            replace H := Option.bind_eq_some_iff.mp H
                            obtain ⟨t320, A800, H⟩ := H
                            replace H : (if t320 = true then ((calamusref02_Same.f t286 l1).bind fun t321 => (some t321)) else (some false)) = some r := H
                            have A80 := Aside0.mk A800
                            clear A800
                            by_cases c81 : t320 = true
                            · subst c81
                              have H1 : ((calamusref02_Same.f t286 l1).bind fun t321 => (some t321)) = some r := by rw [if_pos rfl] at H; exact H
                              clear H
                              have H := H1
                              clear H1
                              replace H := Option.bind_eq_some_iff.mp H
                              obtain ⟨t321, A820, H⟩ := H
                              replace H : (some t321) = some r := H
                              have A82 := Aside0.mk A820
                              clear A820
                              obtain rfl := Option.some.inj H
                              go_wp2_with (first | ((with_reducible refine gate_callee (f := 33) rfl ?_); refine goesL_ (some 138) rfl rfl Try.func33 (by kernel_rfl) rfl #[.slice Ao19 t283.length co19, .slice A0 l0.length c0] rfl (by (try simp only [List.map_toArray, List.map_cons, List.map_nil]); first | done | rfl | (simp only [List.length_drop, List.length_take]; rfl)) ?_; (with_reducible refine (calamusref02_Same.calls _ _ t283 _ _ l0 true _ ?side1 ?side2 ?side3 ?side4 A80.out).mono ?_); (case side1 => repeat (first | exact (Kd.R_reads' HO_7.out).2.2 | (with_reducible refine Kd.C_alloc ?_ _) | (with_reducible refine Kd.C_drewN ?_ _) | (with_reducible refine Kd.C_drew ?_))); (case side2 => exact (Kd.R_reads' HO_7.out).2.1); (case side3 => repeat (first | exact (Kd.C_below HR0.out HB.out) | (with_reducible refine Kd.C_alloc ?_ _) | (with_reducible refine Kd.C_drewN ?_ _) | (with_reducible refine Kd.C_drew ?_))); (case side4 => exact HC0.out); rintro e w' ⟨rfl, ⟨nd, rfl⟩⟩; refine ⟨_, rfl, ?_⟩) | (go_at_call 33; (with_reducible refine (calamusref02_Same.calls _ _ t286 _ _ l1 t321 _ ?side1 ?side2 ?side3 ?side4 A82.out).mono ?_); (case side1 => repeat (first | exact (Kd.R_reads' HO_8.out).2.2 | (with_reducible refine Kd.C_alloc ?_ _) | (with_reducible refine Kd.C_drewN ?_ _) | (with_reducible refine Kd.C_drew ?_))); (case side2 => exact (Kd.R_reads' HO_8.out).2.1); (case side3 => repeat (first | exact (Kd.C_below HR1.out (by repeat (first | (with_reducible first | exact HB.out | apply below_alloc | apply pw_below_drewN | apply below_drew1 | refine below_set ?_ GE281.out) | exact HB.out))) | (with_reducible refine Kd.C_alloc ?_ _) | (with_reducible refine Kd.C_drewN ?_ _) | (with_reducible refine Kd.C_drew ?_))); (case side4 => exact HC1.out); rintro e w' ⟨rfl, ⟨nd, rfl⟩⟩))
                              go_ret
                              exact ⟨by first | rfl | (simp [errW_none, errW_some] <;> rfl) | (simp [*, errW_none, errW_some] <;> rfl), by repeat (first | (with_reducible first | exact HB.out | apply below_alloc | apply pw_below_drewN | apply below_drew1 | refine below_set ?_ GE281.out) | exact HB.out)⟩
                            · replace c81 := Bool.eq_false_iff.mpr c81
                              subst c81
                              have H1 : (some false) = some r := by rw [if_neg (show ¬ (false = true) by decide)] at H; exact H
                              clear H
                              have H := H1
                              clear H1
                              obtain rfl := Option.some.inj H
                              go_wp2_with (first | ((with_reducible refine gate_callee (f := 33) rfl ?_); refine goesL_ (some 138) rfl rfl Try.func33 (by kernel_rfl) rfl #[.slice Ao19 t283.length co19, .slice A0 l0.length c0] rfl (by (try simp only [List.map_toArray, List.map_cons, List.map_nil]); first | done | rfl | (simp only [List.length_drop, List.length_take]; rfl)) ?_; (with_reducible refine (calamusref02_Same.calls _ _ t283 _ _ l0 false _ ?side1 ?side2 ?side3 ?side4 A80.out).mono ?_); (case side1 => repeat (first | exact (Kd.R_reads' HO_7.out).2.2 | (with_reducible refine Kd.C_alloc ?_ _) | (with_reducible refine Kd.C_drewN ?_ _) | (with_reducible refine Kd.C_drew ?_))); (case side2 => exact (Kd.R_reads' HO_7.out).2.1); (case side3 => repeat (first | exact (Kd.C_below HR0.out HB.out) | (with_reducible refine Kd.C_alloc ?_ _) | (with_reducible refine Kd.C_drewN ?_ _) | (with_reducible refine Kd.C_drew ?_))); (case side4 => exact HC0.out); rintro e w' ⟨rfl, ⟨nd, rfl⟩⟩; refine ⟨_, rfl, ?_⟩))
                              go_ret
                              exact ⟨by first | rfl | (simp [errW_none, errW_some] <;> rfl) | (simp [*, errW_none, errW_some] <;> rfl), by repeat (first | (with_reducible first | exact HB.out | apply below_alloc | apply pw_below_drewN | apply below_drew1 | refine below_set ?_ GE281.out) | exact HB.out)⟩
  · replace c5 := Bool.eq_false_iff.mpr c5
    subst c5
    have H1 : (some false) = some r := by rw [if_neg (show ¬ (false = true) by decide)] at H; exact H
    clear H
    have H := H1
    clear H1
    obtain rfl := Option.some.inj H
    go_enter Try.func11, Try.ntmps11
    go_wp2_with (first | ((with_reducible refine gate_dst (N := 5) rfl ?_); refine box_event ?hg (N := 5) ?hd (cs := #[.int .i64 a2_0, .int .i64 a2_1, .int .i64 a2_2]) (t := 46) ?hr ?_; (case hd => rfl); (case hg => rfl); (case hr => first | (go_simp; done) | (go_simp; rfl)); intro gb281 hg w83 hbox hb; have n0_ := Aside0.mk (below_step (by repeat (first | (with_reducible first | exact HB.out | apply below_alloc | apply pw_below_drewN | apply below_drew1) | exact HB.out)) hb); have n1_ := Aside0.mk (hbox); have n2_ := Aside0.mk ((by rw [hg]; exact (below_size (by repeat (first | (with_reducible first | exact HB.out | apply below_alloc | apply pw_below_drewN | apply below_drew1) | exact HB.out))) : w.heap.size ≤ gb281)); have n3_ := Aside0.mk ((by rw [hg]; exact (below_size (by repeat (first | (with_reducible first | exact HB.out | apply below_alloc | apply pw_below_drewN | apply below_drew1) | exact HB.out))) : w.heap.size ≤ gb281)); clear HB; have HB := n0_; have BK281 := n1_; have GW281 := n2_; have GE281 := n3_; clear n0_ n1_ n2_ n3_; clear hb hbox hg) | ((with_reducible refine gate_callee (f := 35) rfl ?_); refine goesL_ (some 21) rfl rfl Try.func35 (by kernel_rfl) rfl #[] rfl (by (try simp only [List.map_toArray, List.map_cons, List.map_nil]); first | done | rfl | (simp only [List.length_drop, List.length_take]; rfl)) ?_; (with_reducible refine (calamuslaw02_alive.calls  false _ A4.out).mono ?_); rintro e w84 ⟨rfl, hb⟩; refine ⟨_, rfl, ?_⟩; have n0_ := Aside0.mk (blk_below (g := gb281) (o := .cells #[.int .i64 a2_0, .int .i64 a2_1, .int .i64 a2_2] 46 (0, 0)) (by (with_reducible repeat (first | refine blk_drewN ?_ _ | refine blk_drew ?_ | refine blk_alloc ?_ _)); exact BK281.out) hb); have n1_ := Aside0.mk (below_step (by repeat (first | (with_reducible first | exact HB.out | apply below_alloc | apply pw_below_drewN | apply below_drew1 | refine below_set ?_ GE281.out) | exact HB.out)) hb); clear BK281; clear HB; have BK281 := n0_; have HB := n1_; clear n0_ n1_; (try clear hb); (try clear hb2); (try clear hk); (try clear hi)))
    go_ret
    exact ⟨by first | rfl | (simp [errW_none, errW_some] <;> rfl) | (simp [*, errW_none, errW_some] <;> rfl), by repeat (first | (with_reducible first | exact HB.out | apply below_alloc | apply pw_below_drewN | apply below_drew1 | refine below_set ?_ GE281.out) | exact HB.out)⟩

end Go.Proofs.Ytcclmaicdmogjaa.P

-- Written by wip/pr.py over the kit's print
namespace Go.Proofs.Ytcclmaicdmogjaa.P
open Go.RowKit Go.Proofs.YtcclmaicdmogjaaW.PrintWords Go.Proofs.YtcclmaicdmogjaaW.PrintLast Go.Proofs.YtcclmaicdmogjaaW.PrintMore
attribute [local go_sem] max2_int min2_int max_two min_two max_three min_three max_four min_four   -- for this text's walks alone
set_option linter.unusedVariables false
set_option linter.unusedSimpArgs false

/-! ### calamusref02_U: function 37 -/
mutual
def calamusref02_U.j0 : Nat → List Int → Int → Int → Bool → Option (Int × Int)
  | 0, _, _, _, _ => none
  | k + 1, x0, x1, x2, x15 => if x15 = true then (some (0, 2)) else ((calamusref02_There.f x0 x1 x2).bind fun t203 => (if t203 = true then (calamusref02_U.l0 k x0 x1 x2 0 x1) else (some (0, 3))))
def calamusref02_U.l0 : Nat → List Int → Int → Int → Int → Int → Option (Int × Int)
  | 0, _, _, _, _, _ => none
  | k + 1, x0, x1, x2, x8, x9 => if x9 < (wrap64 (x1 + x2)) then (if 0 ≤ x9 then (if x9 < (x0.length : Int) then (calamusref02_U.l0 k x0 x1 x2 (wrap64 ((wrap64 (256 * x8)) + (wrap64 (rd x0 x9)))) (wrap64 (x9 + 1))) else (none)) else (none)) else (some (x8, 0))
end
def calamusref02_U.f (k : Nat) (l0 : List Int) (a1 : Int) (a2 : Int) : Option (Int × Int) := if a2 < 1 then (calamusref02_U.j0 k l0 a1 a2 true) else (calamusref02_U.j0 k l0 a1 a2 (decide (a2 > 4)))
theorem calamusref02_U.mono_l : ∀ k, (∀ y0 y1 y2 y3, LeO (calamusref02_U.j0 k y0 y1 y2 y3) (calamusref02_U.j0 (k + 1) y0 y1 y2 y3)) ∧ (∀ y0 y1 y2 y3 y4, LeO (calamusref02_U.l0 k y0 y1 y2 y3 y4) (calamusref02_U.l0 (k + 1) y0 y1 y2 y3 y4))
  | 0 => ⟨fun _ _ _ _ r h => by simp [calamusref02_U.j0] at h, fun _ _ _ _ _ r h => by simp [calamusref02_U.l0] at h⟩
  | k + 1 => by
    obtain ⟨ih0, ih1⟩ := calamusref02_U.mono_l k
    refine ⟨?_, ?_⟩
    · intro y0 y1 y2 y3
      unfold calamusref02_U.j0
      repeat' first
      | (with_reducible exact ih0 _ _ _ _)
      | (with_reducible exact ih1 _ _ _ _ _)
      | (with_reducible exact LeO.refl _)
      | (with_reducible exact LeO.none _)
      | (with_reducible refine LeO.ite ?_ ?_)
      | (with_reducible refine LeO.bind ?_ (fun _ => ?_))
      | exact ih0 _ _ _ _
      | exact ih1 _ _ _ _ _
      | exact LeO.none _
      | refine LeO.ite ?_ ?_
      | refine LeO.bind ?_ (fun _ => ?_)
    · intro y0 y1 y2 y3 y4
      unfold calamusref02_U.l0
      repeat' first
      | (with_reducible exact ih0 _ _ _ _)
      | (with_reducible exact ih1 _ _ _ _ _)
      | (with_reducible exact LeO.refl _)
      | (with_reducible exact LeO.none _)
      | (with_reducible refine LeO.ite ?_ ?_)
      | (with_reducible refine LeO.bind ?_ (fun _ => ?_))
      | exact ih0 _ _ _ _
      | exact ih1 _ _ _ _ _
      | exact LeO.none _
      | refine LeO.ite ?_ ?_
      | refine LeO.bind ?_ (fun _ => ?_)
theorem calamusref02_U.mono : ∀ a0 a1 a2 k, LeO (calamusref02_U.f k a0 a1 a2) (calamusref02_U.f (k + 1) a0 a1 a2) := by
  intro a0 a1 a2 k
  obtain ⟨ih0, ih1⟩ := calamusref02_U.mono_l k
  unfold calamusref02_U.f
  repeat' first
      | (with_reducible exact ih0 _ _ _ _)
      | (with_reducible exact ih1 _ _ _ _ _)
      | (with_reducible exact LeO.refl _)
      | (with_reducible exact LeO.none _)
      | (with_reducible refine LeO.ite ?_ ?_)
      | (with_reducible refine LeO.bind ?_ (fun _ => ?_))
      | exact ih0 _ _ _ _
      | exact ih1 _ _ _ _ _
      | exact LeO.none _
      | refine LeO.ite ?_ ?_
      | refine LeO.bind ?_ (fun _ => ?_)
set_option maxHeartbeats 8000000 in
set_option maxRecDepth 100000 in
theorem calamusref02_U.calls (k : Nat) (A0 : Option Addr) (c0 : Nat) (l0 : List Int) (a1 : Int) (a2 : Int) (r1 : Int) (r2 : Int) (w : World) (hr0 : Kd.C (Kd.int .u8) w A0 l0.length l0) (hc0 : l0.length ≤ c0) (h : calamusref02_U.f k l0 a1 a2 = some (r1, r2)) :
    Calls Try.prog 37 #[.slice A0 l0.length c0, .int .i64 a1, .int .i64 a2] w fun e w' => e = .returned (.tuple #[.int .i64 r1, .int .i64 r2]) ∧ Drawn0 w w' := by
  have HR0 := Aside0.mk hr0
  have HC0 := Aside0.mk hc0
  clear hr0 hc0
  have H : (if a2 < 1 then (calamusref02_U.j0 k l0 a1 a2 true) else (calamusref02_U.j0 k l0 a1 a2 (decide (a2 > 4)))) = some (r1, r2) := h
  clear h
  have HC4 := Aside0.mk H
  clear H
  go_enter Try.func37, Try.ntmps37
  go_upto_region 1 with (fail)
  go_cut [15] (fun v15 wc => ∃ (kq : Nat) (x15_3 : Bool), v15 = .bool x15_3 ∧ Aside0 (calamusref02_U.j0 kq l0 a1 a2 x15_3 = some (r1, r2)) ∧ Aside0 (kq ≤ k) ∧ Drawn0 w wc)
  case first =>
    have H := HC4.out
    clear HC4
    by_cases c5 : a2 < 1
    · rw [if_pos c5] at H
      have c5b0 : decide (a2 < 1) = true := decide_eq_true c5
      clear c5
      (first | rw [c5b0] | (simp only [i64_w, i32_w]; rw [c5b0]) | skip)
      have H' := Aside0.mk H
      clear H
      go_wp2
      go_meet
      case rel => exact ⟨_, (true), (by first | rfl | (simp; done) | (simp [*]; done)), H', ⟨by first | omega | exact Nat.le_refl _⟩, by repeat (first | exact Drawn0.refl _ | apply Drawn0.step)⟩
    · rw [if_neg c5] at H
      have c5b0 : decide (a2 < 1) = false := decide_eq_false c5
      clear c5
      (first | rw [c5b0] | (simp only [i64_w, i32_w]; rw [c5b0]) | skip)
      have H' := Aside0.mk H
      clear H
      go_wp2
      go_meet
      case rel => exact ⟨_, (decide (a2 > 4)), (by first | rfl | (simp; done) | (simp [*]; done)), H', ⟨by first | omega | exact Nat.le_refl _⟩, by repeat (first | exact Drawn0.refl _ | apply Drawn0.step)⟩
  case rest =>
    clear HC4
    try clear p2
    try clear c3
    try clear c5
    try clear c5b0
    obtain ⟨kq, x15_3, rfl, HA, HJ3, ⟨mc3, rfl⟩⟩ := hcut
    cases kq with
    | zero => exact absurd HA.out (by simp [calamusref02_U.j0])
    | succ kj3 =>
      have H := HA.out
      clear HA
      simp only [calamusref02_U.j0] at H
      by_cases c6 : x15_3 = true
      · subst c6
        have H1 : (some (0, 2)) = some (r1, r2) := by rw [if_pos rfl] at H; exact H
        clear H
        have H := H1
        clear H1
        simp only [Option.some.injEq, Prod.mk.injEq] at H
        obtain ⟨rfl, rfl⟩ := H
        go_wp2
        go_ret2
        exact ⟨by first | rfl | (simp; done) | (simp [*]; done), by repeat (first | exact Drawn0.refl _ | apply Drawn0.step)⟩
      · replace c6 := Bool.eq_false_iff.mpr c6
        subst c6
        have H1 : ((calamusref02_There.f l0 a1 a2).bind fun t203 => (if t203 = true then (calamusref02_U.l0 kj3 l0 a1 a2 0 a1) else (some (0, 3)))) = some (r1, r2) := by rw [if_neg (show ¬ (false = true) by decide)] at H; exact H
        clear H
        have H := H1
        clear H1
        replace H := Option.bind_eq_some_iff.mp H
        obtain ⟨t203, A70, H⟩ := H
        replace H : (if t203 = true then (calamusref02_U.l0 kj3 l0 a1 a2 0 a1) else (some (0, 3))) = some (r1, r2) := H
        have A7 := Aside0.mk A70
        clear A70
        by_cases c8 : t203 = true
        · subst c8
          have H1 : (calamusref02_U.l0 kj3 l0 a1 a2 0 a1) = some (r1, r2) := by rw [if_pos rfl] at H; exact H
          clear H
          have H := H1
          clear H1
          have H' := Aside0.mk H
          clear H
          go_wp2_with (first | ((with_reducible refine gate_callee (f := 78) rfl ?_); refine goesL_ (some 19) rfl rfl Try.func78 (by kernel_rfl) rfl #[.slice A0 l0.length c0, .int .i64 a1, .int .i64 a2] rfl (by (try simp only [List.map_toArray, List.map_cons, List.map_nil]); first | done | rfl | (simp only [List.length_drop, List.length_take]; rfl)) ?_; (with_reducible refine (calamusref02_There.calls _ _ l0 a1 a2 true _ ?side1 ?side2 A7.out).mono ?_); (case side1 => repeat (first | exact HR0.out | (with_reducible refine Kd.C_alloc ?_ _) | (with_reducible refine Kd.C_drewN ?_ _) | (with_reducible refine Kd.C_drew ?_))); (case side2 => exact HC0.out); rintro e w' ⟨rfl, ⟨nd, rfl⟩⟩; refine ⟨_, rfl, ?_⟩))
          go_loopg [8, 9] kj3 (fun kq v8 v9 w' => ∃ (x8_2 : Int) (x9_2 : Int), v8 = .int .i64 x8_2 ∧ v9 = .int .i64 x9_2 ∧ Aside0 (calamusref02_U.l0 kq l0 a1 a2 x8_2 x9_2 = some (r1, r2)) ∧ Aside0 (kq ≤ kj3) ∧ Drawn0 w w')
          case atStart => exact ⟨(0), (a1), (by first | rfl | (simp; done) | (simp [*]; done)), (by first | rfl | (simp; done) | (simp [*]; done)), H', ⟨Nat.le_refl _⟩, by repeat (first | exact Drawn0.refl _ | apply Drawn0.step)⟩
          case round =>
            clear H'
            try clear p2
            try clear c3
            try clear c5
            try clear c5b0
            try clear c6
            try clear c7
            try clear c8
            try clear p2
            obtain ⟨x8_2, x9_2, rfl, rfl, HA, HK2, ⟨m2, rfl⟩⟩ := hrel
            cases gk with
            | zero => exact absurd HA.out (by simp [calamusref02_U.l0])
            | succ k2 =>
              have H := HA.out
              clear HA
              simp only [calamusref02_U.l0] at H
              by_cases c9 : x9_2 < (wrap64 (a1 + a2))
              · rw [if_pos c9] at H
                have c9b0 : decide (x9_2 < (wrap64 (a1 + a2))) = true := decide_eq_true c9
                clear c9
                by_cases c10 : 0 ≤ x9_2
                · rw [if_pos c10] at H
                  have c10b0 : decide (0 ≤ x9_2) = true := decide_eq_true c10
                  clear c10
                  by_cases c11 : x9_2 < (l0.length : Int)
                  · rw [if_pos c11] at H
                    have c11b0 : decide (x9_2 < (l0.length : Int)) = true := decide_eq_true c11
                    clear c11
                    have H' := Aside0.mk H
                    clear H
                    have p204 : 0 ≤ (x9_2 : Int) := of_decide_eq_true (by first | (with_reducible assumption) | assumption)
                    have q204 : x9_2 < (l0.length : Int) := of_decide_eq_true (by first | (with_reducible assumption) | assumption)
                    obtain ⟨ad204, e204, hx204_0⟩ := Kd.at_int HR0.out x9_2 p204 q204
                    cases e204
                    replace p204 := eq_true p204
                    replace q204 := eq_true q204
                    go_wp2
                    go_roundg k2
                    case measure => have := HJ3.out; have := HK2.out; omega
                    case rel => exact ⟨(wrap64 ((wrap64 (256 * x8_2)) + (wrap64 (rd l0 x9_2)))), (wrap64 (x9_2 + 1)), (by first | rfl | (simp; done) | (simp [*]; done)), (by first | rfl | (simp; done) | (simp [*]; done)), H', ⟨by have := HJ3.out; have := HK2.out; omega⟩, by repeat (first | exact Drawn0.refl _ | apply Drawn0.step)⟩
                  · rw [if_neg c11] at H
                    exact absurd H (by simp)
                · rw [if_neg c10] at H
                  exact absurd H (by simp)
              · rw [if_neg c9] at H
                have c9b0 : decide (x9_2 < (wrap64 (a1 + a2))) = false := decide_eq_false c9
                clear c9
                simp only [Option.some.injEq, Prod.mk.injEq] at H
                obtain ⟨rfl, rfl⟩ := H
                go_wp2
                go_ret2
                exact ⟨by first | rfl | (simp; done) | (simp [*]; done), by repeat (first | exact Drawn0.refl _ | apply Drawn0.step)⟩
        · replace c8 := Bool.eq_false_iff.mpr c8
          subst c8
          have H1 : (some (0, 3)) = some (r1, r2) := by rw [if_neg (show ¬ (false = true) by decide)] at H; exact H
          clear H
          have H := H1
          clear H1
          simp only [Option.some.injEq, Prod.mk.injEq] at H
          obtain ⟨rfl, rfl⟩ := H
          go_wp2_with (first | ((with_reducible refine gate_callee (f := 78) rfl ?_); refine goesL_ (some 19) rfl rfl Try.func78 (by kernel_rfl) rfl #[.slice A0 l0.length c0, .int .i64 a1, .int .i64 a2] rfl (by (try simp only [List.map_toArray, List.map_cons, List.map_nil]); first | done | rfl | (simp only [List.length_drop, List.length_take]; rfl)) ?_; (with_reducible refine (calamusref02_There.calls _ _ l0 a1 a2 false _ ?side1 ?side2 A7.out).mono ?_); (case side1 => repeat (first | exact HR0.out | (with_reducible refine Kd.C_alloc ?_ _) | (with_reducible refine Kd.C_drewN ?_ _) | (with_reducible refine Kd.C_drew ?_))); (case side2 => exact HC0.out); rintro e w' ⟨rfl, ⟨nd, rfl⟩⟩; refine ⟨_, rfl, ?_⟩))
          go_ret2
          exact ⟨by first | rfl | (simp; done) | (simp [*]; done), by repeat (first | exact Drawn0.refl _ | apply Drawn0.step)⟩

end Go.Proofs.Ytcclmaicdmogjaa.P

-- Written by wip/pr.py over the kit's print
namespace Go.Proofs.Ytcclmaicdmogjaa.P
open Go.RowKit Go.Proofs.YtcclmaicdmogjaaW.PrintWords Go.Proofs.YtcclmaicdmogjaaW.PrintLast Go.Proofs.YtcclmaicdmogjaaW.PrintMore
attribute [local go_sem] max2_int min2_int max_two min_two max_three min_three max_four min_four   -- for this text's walks alone
set_option linter.unusedVariables false
set_option linter.unusedSimpArgs false

/-! ### calamusref02_S: function 39 -/
def calamusref02_S.l0 : Nat → Int → Int → Int → Int → Option (Int × Int)
  | 0, _, _, _, _ => none
  | k + 1, x2, x8, x10, x11 => if x11 < x2 then (calamusref02_S.l0 k x2 x8 (wrap64 (x10 * 256)) (wrap64 (x11 + 1))) else (if (wrap64 (2 * x8)) ≥ x10 then (some (wrap64 (x8 - x10), 0)) else (some (x8, 0)))
def calamusref02_S.f (k : Nat) (l0 : List Int) (a1 : Int) (a2 : Int) : Option (Int × Int) := (calamusref02_U.f k l0 a1 a2).bind fun bt205 => (if bt205.2 = 0 then (calamusref02_S.l0 k a2 bt205.1 1 0) else (some (0, bt205.2)))
theorem calamusref02_S.mono_l : ∀ k, (∀ y0 y1 y2 y3, LeO (calamusref02_S.l0 k y0 y1 y2 y3) (calamusref02_S.l0 (k + 1) y0 y1 y2 y3))
  | 0 => fun _ _ _ _ r h => by simp [calamusref02_S.l0] at h
  | k + 1 => by
    have ih0 := calamusref02_S.mono_l k
    · intro y0 y1 y2 y3
      unfold calamusref02_S.l0
      repeat' first
      | (with_reducible exact ih0 _ _ _ _)
      | (with_reducible exact calamusref02_U.mono _ _ _ _)
      | (with_reducible exact LeO.refl _)
      | (with_reducible exact LeO.none _)
      | (with_reducible refine LeO.ite ?_ ?_)
      | (with_reducible refine LeO.bind ?_ (fun _ => ?_))
      | exact ih0 _ _ _ _
      | exact calamusref02_U.mono _ _ _ _
      | exact LeO.none _
      | refine LeO.ite ?_ ?_
      | refine LeO.bind ?_ (fun _ => ?_)
theorem calamusref02_S.mono : ∀ a0 a1 a2 k, LeO (calamusref02_S.f k a0 a1 a2) (calamusref02_S.f (k + 1) a0 a1 a2) := by
  intro a0 a1 a2 k
  have ih0 := calamusref02_S.mono_l k
  unfold calamusref02_S.f
  repeat' first
      | (with_reducible exact ih0 _ _ _ _)
      | (with_reducible exact calamusref02_U.mono _ _ _ _)
      | (with_reducible exact LeO.refl _)
      | (with_reducible exact LeO.none _)
      | (with_reducible refine LeO.ite ?_ ?_)
      | (with_reducible refine LeO.bind ?_ (fun _ => ?_))
      | exact ih0 _ _ _ _
      | exact calamusref02_U.mono _ _ _ _
      | exact LeO.none _
      | refine LeO.ite ?_ ?_
      | refine LeO.bind ?_ (fun _ => ?_)
set_option maxHeartbeats 8000000 in
set_option maxRecDepth 100000 in
theorem calamusref02_S.calls (k : Nat) (A0 : Option Addr) (c0 : Nat) (l0 : List Int) (a1 : Int) (a2 : Int) (r1 : Int) (r2 : Int) (w : World) (hr0 : Kd.C (Kd.int .u8) w A0 l0.length l0) (hc0 : l0.length ≤ c0) (h : calamusref02_S.f k l0 a1 a2 = some (r1, r2)) :
    Calls Try.prog 39 #[.slice A0 l0.length c0, .int .i64 a1, .int .i64 a2] w fun e w' => e = .returned (.tuple #[.int .i64 r1, .int .i64 r2]) ∧ Drawn0 w w' := by
  have HR0 := Aside0.mk hr0
  have HC0 := Aside0.mk hc0
  clear hr0 hc0
  have H : ((calamusref02_U.f k l0 a1 a2).bind fun bt205 => (if bt205.2 = 0 then (calamusref02_S.l0 k a2 bt205.1 1 0) else (some (0, bt205.2)))) = some (r1, r2) := h
  clear h
  replace H := Option.bind_eq_some_iff.mp H
  obtain ⟨⟨t205, t206⟩, A40, H⟩ := H
  replace H : (if t206 = 0 then (calamusref02_S.l0 k a2 t205 1 0) else (some (0, t206))) = some (r1, r2) := H
  have A4 := Aside0.mk A40
  clear A40
  by_cases c5 : t206 = 0
  · rw [if_pos c5] at H
    have c5b0 : (t206 == 0) = true := beq_iff_eq.mpr c5
    have c5b1 : (t206 != 0) = false := bne_eq_false_iff_eq.mpr c5
    clear c5
    have H' := Aside0.mk H
    clear H
    go_enter Try.func39, Try.ntmps39
    go_wp2_with (first | ((with_reducible refine gate_callee (f := 37) rfl ?_); refine goesL_ (some 16) rfl rfl Try.func37 (by kernel_rfl) rfl #[.slice A0 l0.length c0, .int .i64 a1, .int .i64 a2] rfl (by (try simp only [List.map_toArray, List.map_cons, List.map_nil]); first | done | rfl | (simp only [List.length_drop, List.length_take]; rfl)) ?_; (with_reducible refine (calamusref02_U.calls k _ _ l0 a1 a2 t205 t206 _ ?side1 ?side2 A4.out).mono ?_); (case side1 => repeat (first | exact HR0.out | (with_reducible refine Kd.C_alloc ?_ _) | (with_reducible refine Kd.C_drewN ?_ _) | (with_reducible refine Kd.C_drew ?_))); (case side2 => exact HC0.out); rintro e w' ⟨rfl, ⟨nd, rfl⟩⟩; refine ⟨_, rfl, ?_⟩))
    go_loopg [10, 11] k (fun kq v10 v11 w' => ∃ (x10_1 : Int) (x11_1 : Int), v10 = .int .i64 x10_1 ∧ v11 = .int .i64 x11_1 ∧ Aside0 (calamusref02_S.l0 kq a2 t205 x10_1 x11_1 = some (r1, r2)) ∧ Aside0 (kq ≤ k) ∧ Drawn0 w w')
    case atStart => exact ⟨(1), (0), (by first | rfl | (simp; done) | (simp [*]; done)), (by first | rfl | (simp; done) | (simp [*]; done)), H', ⟨Nat.le_refl _⟩, by repeat (first | exact Drawn0.refl _ | apply Drawn0.step)⟩
    case round =>
      clear H'
      try clear p2
      try clear c3
      try clear c5
      try clear c5b0
      try clear c5b1
      obtain ⟨x10_1, x11_1, rfl, rfl, HA, HK1, ⟨m1, rfl⟩⟩ := hrel
      cases gk with
      | zero => exact absurd HA.out (by simp [calamusref02_S.l0])
      | succ k1 =>
        have H := HA.out
        clear HA
        simp only [calamusref02_S.l0] at H
        by_cases c6 : x11_1 < a2
        · rw [if_pos c6] at H
          have c6b0 : decide (x11_1 < a2) = true := decide_eq_true c6
          clear c6
          have H' := Aside0.mk H
          clear H
          go_wp2
          go_roundg k1
          case measure => have := HK1.out; omega
          case rel => exact ⟨(wrap64 (x10_1 * 256)), (wrap64 (x11_1 + 1)), (by first | rfl | (simp; done) | (simp [*]; done)), (by first | rfl | (simp; done) | (simp [*]; done)), H', ⟨by have := HK1.out; omega⟩, by repeat (first | exact Drawn0.refl _ | apply Drawn0.step)⟩
        · rw [if_neg c6] at H
          have c6b0 : decide (x11_1 < a2) = false := decide_eq_false c6
          clear c6
          by_cases c7 : (wrap64 (2 * t205)) ≥ x10_1
          · rw [if_pos c7] at H
            have c7b0 : decide (x10_1 ≤ (wrap64 (2 * t205))) = true := decide_eq_true c7
            clear c7
            simp only [Option.some.injEq, Prod.mk.injEq] at H
            obtain ⟨rfl, rfl⟩ := H
            go_wp2
            go_ret2
            exact ⟨by first | rfl | (simp; done) | (simp [*]; done), by repeat (first | exact Drawn0.refl _ | apply Drawn0.step)⟩
          · rw [if_neg c7] at H
            have c7b0 : decide (x10_1 ≤ (wrap64 (2 * t205))) = false := decide_eq_false c7
            clear c7
            simp only [Option.some.injEq, Prod.mk.injEq] at H
            obtain ⟨rfl, rfl⟩ := H
            go_wp2
            go_ret2
            exact ⟨by first | rfl | (simp; done) | (simp [*]; done), by repeat (first | exact Drawn0.refl _ | apply Drawn0.step)⟩
  · rw [if_neg c5] at H
    have c5b0 : (t206 == 0) = false := beq_eq_false_iff_ne.mpr c5
    have c5b1 : (t206 != 0) = true := bne_iff_ne.mpr c5
    simp only [Option.some.injEq, Prod.mk.injEq] at H
    obtain ⟨rfl, rfl⟩ := H
    go_enter Try.func39, Try.ntmps39
    go_wp2_with (first | ((with_reducible refine gate_callee (f := 37) rfl ?_); refine goesL_ (some 16) rfl rfl Try.func37 (by kernel_rfl) rfl #[.slice A0 l0.length c0, .int .i64 a1, .int .i64 a2] rfl (by (try simp only [List.map_toArray, List.map_cons, List.map_nil]); first | done | rfl | (simp only [List.length_drop, List.length_take]; rfl)) ?_; (with_reducible refine (calamusref02_U.calls k _ _ l0 a1 a2 t205 t206 _ ?side1 ?side2 A4.out).mono ?_); (case side1 => repeat (first | exact HR0.out | (with_reducible refine Kd.C_alloc ?_ _) | (with_reducible refine Kd.C_drewN ?_ _) | (with_reducible refine Kd.C_drew ?_))); (case side2 => exact HC0.out); rintro e w' ⟨rfl, ⟨nd, rfl⟩⟩; refine ⟨_, rfl, ?_⟩))
    go_ret2
    exact ⟨by first | rfl | (simp; done) | (simp [*]; done), by repeat (first | exact Drawn0.refl _ | apply Drawn0.step)⟩

end Go.Proofs.Ytcclmaicdmogjaa.P

namespace Go.Proofs.Ytcclmaicdmogjaa.P
open Go.RowKit Go.Proofs.YtcclmaicdmogjaaW.PrintWords Go.Proofs.YtcclmaicdmogjaaW.PrintLast Go.Proofs.YtcclmaicdmogjaaW.PrintMore
set_option linter.unusedVariables false
set_option linter.unusedSimpArgs false

-- USES calamusref02_Copy calamusref02_Same
theorem copy_eq (l : List Int) (h : l.length < 140737488355328) : calamusref02_Copy.f l = some l := by
  unfold calamusref02_Copy.f; simp [h]
theorem same_refl (l : List Int) : calamusref02_Same.f l l = some true := by
  unfold calamusref02_Same.f; simp
theorem bytes_of_wf {l : List Int} (h : ∀ x ∈ l, (Lit.int .u8 x).wf = true) : isBytes l := fun x hx => by
  have := h x hx
  simp [Lit.wf, IntKind.min, IntKind.max, IntKind.bits, IntKind.signed] at this
  omega
theorem isBytes_zeros (n : Nat) : isBytes (List.replicate n 0) := fun x hx => by rw [List.mem_replicate] at hx; omega
theorem isBytes_set {l : List Int} (h : isBytes l) (i : Nat) (v : Int) (hv : 0 ≤ v ∧ v ≤ 255) : isBytes (l.set i v) := fun x hx => by
  rcases List.mem_or_eq_of_mem_set hx with h' | h'
  · exact h x h'
  · omega
theorem wf_u8_out {n : Int} (h : (Lit.int .u8 n).wf = true) : 0 ≤ n ∧ n ≤ 255 := by
  simp [Lit.wf, IntKind.min, IntKind.max, IntKind.bits, IntKind.signed] at h; omega
theorem wf_u16_out {n : Int} (h : (Lit.int .u16 n).wf = true) : 0 ≤ n ∧ n ≤ 65535 := by
  simp [Lit.wf, IntKind.min, IntKind.max, IntKind.bits, IntKind.signed] at h; omega
theorem wf_u32_out {n : Int} (h : (Lit.int .u32 n).wf = true) : 0 ≤ n ∧ n ≤ 4294967295 := by
  simp [Lit.wf, IntKind.min, IntKind.max, IntKind.bits, IntKind.signed] at h; omega
theorem wf_i32_out {n : Int} (h : (Lit.int .i32 n).wf = true) : -2147483648 ≤ n ∧ n ≤ 2147483647 := by
  simp [Lit.wf, IntKind.min, IntKind.max, IntKind.bits, IntKind.signed] at h; omega
theorem wf_i64_out {n : Int} (h : (Lit.int .i64 n).wf = true) : -9223372036854775808 ≤ n ∧ n ≤ 9223372036854775807 := by
  simp [Lit.wf, IntKind.min, IntKind.max, IntKind.bits, IntKind.signed] at h; omega

end Go.Proofs.Ytcclmaicdmogjaa.P

namespace Go.Proofs.Ytcclmaicdmogjaa.P
open Go.RowKit Go.Proofs.YtcclmaicdmogjaaW.PrintWords Go.Proofs.YtcclmaicdmogjaaW.PrintLast Go.Proofs.YtcclmaicdmogjaaW.PrintMore
set_option linter.unusedVariables false
set_option linter.unusedSimpArgs false

-- USES be_U be_S be_Put be_there calamusref02_U calamusref02_S calamusref02_There calamusref02_Put
-- NEEDS gen
theorem there_eq (l0 : List Int) (a1 a2 : Int) (hm : l0.length ≤ 9223372036854775807) (h1 : inI a1) (h2 : inI a2) : be_there.f l0 a1 a2 = some (decide (0 ≤ a1 ∧ 0 ≤ a2 ∧ a1 + a2 ≤ l0.length)) := by
  unfold inI at h1 h2
  unfold be_there.f
  by_cases c1 : a1 ≥ 0
  · rw [if_pos c1]
    by_cases c2 : a2 ≥ 0
    · rw [if_pos c2]
      by_cases c3 : a1 ≤ (l0.length : Int)
      · rw [if_pos c3, IntWalk.wrap64_in _ ⟨by omega, by omega⟩]
        congr 1
        rw [decide_eq_decide]; omega
      · rw [if_neg c3]; simp; omega
    · rw [if_neg c2]; simp; omega
  · rw [if_neg c1]; simp; omega
theorem refthere_eq (l0 : List Int) (a1 a2 : Int) (hm : l0.length ≤ 9223372036854775807) (h1 : inI a1) (h2 : inI a2) : calamusref02_There.f l0 a1 a2 = some (decide (0 ≤ a1 ∧ 0 ≤ a2 ∧ a1 + a2 ≤ l0.length)) := there_eq l0 a1 a2 hm h1 h2
theorem rd_nat (l : List Int) (i : Nat) : rd l (i : Int) = l.getD i 0 := rfl
theorem getD_drop (l : List Int) (a j : Nat) : (l.drop a).getD j 0 = l.getD (a + j) 0 := by simp [List.getD_eq_getElem?_getD, List.getElem?_drop]
theorem refU_loop (l : List Int) (hb : isBytes l) (hm : l.length ≤ 4611686018427387904) (a w : Nat) (hw : w ≤ 4) (hf : a + w ≤ l.length) (d : Nat) : ∀ (j k : Nat), j + d = w → d < k →
    calamusref02_U.l0 k l (a : Int) (w : Int) (pre (l.drop a) j) (((a + j : Nat)) : Int) = some (pre (l.drop a) w, 0) := by
  induction d with
  | zero =>
    intro j k hj hk
    obtain ⟨k, rfl⟩ : ∃ m, k = m + 1 := ⟨k - 1, by omega⟩
    obtain rfl : j = w := by omega
    simp only [calamusref02_U.l0]
    rw [IntWalk.wrap64_in _ ⟨by omega, by omega⟩, if_neg (by omega)]
  | succ d ih =>
    intro j k hj hk
    obtain ⟨k, rfl⟩ : ∃ m, k = m + 1 := ⟨k - 1, by omega⟩
    simp only [calamusref02_U.l0]
    have hp := pre_bd (l.drop a) (hb.drop a) j (by rw [List.length_drop]; omega)
    have h256 : (256 : Int) ^ j ≤ 256 ^ 3 := by
      have : j = 0 ∨ j = 1 ∨ j = 2 ∨ j = 3 := by omega
      rcases this with rfl | rfl | rfl | rfl <;> decide
    have hg := hb.get (a + j)
    rw [IntWalk.wrap64_in ((a : Int) + w) ⟨by omega, by omega⟩, if_pos (by omega), if_pos (by omega), if_pos (by omega), rd_nat]
    rw [IntWalk.wrap64_in (256 * _) ⟨by omega, by omega⟩, IntWalk.wrap64_in (l.getD (a + j) 0) ⟨by omega, by omega⟩, IntWalk.wrap64_in _ ⟨by omega, by omega⟩, IntWalk.wrap64_in _ ⟨by omega, by omega⟩]
    have := ih (j + 1) k (by omega) (by omega)
    rw [← this, pre_succ _ _ (by rw [List.length_drop]; omega), getD_drop, show ((a + (j + 1) : Nat) : Int) = ((a + j : Nat) : Int) + 1 by omega, Int.mul_comm 256]
theorem refU_eq (l : List Int) (hb : isBytes l) (hm : l.length ≤ 4611686018427387904) (a1 a2 : Int) (h1 : inI a1) (h2 : inI a2) (k : Nat) (hk : 8 ≤ k) : calamusref02_U.f k l a1 a2 = be_U.f l a1 a2 := by
  unfold be_U.f calamusref02_U.f
  rw [if_pos (show isBytes l ∧ inI a1 ∧ inI a2 from ⟨hb, h1, h2⟩)]
  obtain ⟨k, rfl⟩ : ∃ m, k = m + 1 := ⟨k - 1, by omega⟩
  simp only [calamusref02_U.j0]
  by_cases c1 : a2 < 1
  · rw [if_pos c1, if_pos (show a2 < 1 ∨ a2 > 4 from .inl c1)]; rfl
  · rw [if_neg c1]
    by_cases c2 : a2 > 4
    · rw [if_pos (show decide (a2 > 4) = true by simpa using c2), if_pos (show a2 < 1 ∨ a2 > 4 from .inr c2)]
    · rw [if_neg (show ¬ decide (a2 > 4) = true by simpa using c2), if_neg (show ¬ (a2 < 1 ∨ a2 > 4) by omega), refthere_eq l a1 a2 (by omega) h1 h2]
      simp only [Option.bind_some]
      by_cases c3 : 0 ≤ a1 ∧ a1 + a2 ≤ l.length
      · rw [if_pos (decide_eq_true (show 0 ≤ a1 ∧ 0 ≤ a2 ∧ a1 + a2 ≤ (l.length : Int) by omega)), if_pos c3]
        obtain ⟨a, rfl⟩ := Int.eq_ofNat_of_zero_le c3.1
        obtain ⟨w, rfl⟩ := Int.eq_ofNat_of_zero_le (show 0 ≤ a2 by omega)
        have := refU_loop l hb hm a w (by omega) (by omega) w 0 k (by omega) (by omega)
        rw [pre_zero, Nat.add_zero] at this
        exact this
      · rw [if_neg (show ¬ decide (0 ≤ a1 ∧ 0 ≤ a2 ∧ a1 + a2 ≤ (l.length : Int)) = true by simp; omega), if_neg c3]
/-- A number of w bytes, with its sign. -/
def sgnB (n : Int) (w : Nat) : Int := if 2 * n ≥ 256 ^ w then n - 256 ^ w else n
theorem shifts_eq (n w : Int) (hw : w = 1 ∨ w = 2 ∨ w = 3 ∨ w = 4) (h0 : 0 ≤ n) (h1 : n < 256 ^ w.toNat) : shr .i64 (shl .i64 n (wrap64 (64 - (wrap64 (8 * w))))) (wrap64 (64 - (wrap64 (8 * w)))) = sgnB n w.toNat := by
  have hW : ∀ x : Int, -100 ≤ x → x ≤ 100 → wrap64 x = x := fun x h1 h2 => IntWalk.wrap64_in x ⟨by omega, by omega⟩
  rcases hw with rfl | rfl | rfl | rfl <;> (rw [hW (8 * _) (by omega) (by omega), hW (64 - 8 * _) (by omega) (by omega)]; unfold shr shl sgnB; rw [IntKind.wrap_i64]; simp [IntKind.bits] at *; (repeat' split) <;> omega)
theorem beU_eq (l : List Int) (hb : isBytes l) (a1 a2 : Int) (h1 : inI a1) (h2 : inI a2) : be_U.f l a1 a2 = (if a2 < 1 ∨ a2 > 4 then some (0, 2) else if 0 ≤ a1 ∧ a1 + a2 ≤ l.length then some (pre (l.drop a1.toNat) a2.toNat, 0) else some (0, 3)) := by
  unfold be_U.f; rw [if_pos (show isBytes l ∧ inI a1 ∧ inI a2 from ⟨hb, h1, h2⟩)]
theorem pre_range (l : List Int) (hb : isBytes l) (a w : Int) (h0 : 0 ≤ a) (hw : 1 ≤ w) (hf : a + w ≤ l.length) : 0 ≤ pre (l.drop a.toNat) w.toNat ∧ pre (l.drop a.toNat) w.toNat < 256 ^ w.toNat :=
  pre_bd _ (hb.drop _) _ (by rw [List.length_drop]; omega)
theorem beS_eq (l : List Int) (hb : isBytes l) (a1 a2 : Int) (h1 : inI a1) (h2 : inI a2) : be_S.f l a1 a2 = (if a2 < 1 ∨ a2 > 4 then some (0, 2) else if 0 ≤ a1 ∧ a1 + a2 ≤ l.length then some (sgnB (pre (l.drop a1.toNat) a2.toNat) a2.toNat, 0) else some (0, 3)) := by
  unfold be_S.f
  rw [beU_eq l hb a1 a2 h1 h2]
  by_cases c1 : a2 < 1 ∨ a2 > 4
  · rw [if_pos c1, if_pos c1]; simp
  · rw [if_neg c1, if_neg c1]
    by_cases c2 : 0 ≤ a1 ∧ a1 + a2 ≤ l.length
    · rw [if_pos c2, if_pos c2]
      have hp := pre_range l hb a1 a2 c2.1 (by omega) c2.2
      have hw : a2 = 1 ∨ a2 = 2 ∨ a2 = 3 ∨ a2 = 4 := by omega
      simp only [Option.bind_some, if_true]
      rw [shifts_eq _ a2 hw hp.1 hp.2, IntWalk.wrap64_in (8 * a2) ⟨by omega, by omega⟩, IntWalk.wrap64_in _ ⟨by omega, by omega⟩, if_pos (by omega)]
    · rw [if_neg c2, if_neg c2]; simp
theorem refS_loop (w : Nat) (n : Int) (hw : w ≤ 4) (h0 : 0 ≤ n) (h1 : n < 256 ^ w) (d : Nat) : ∀ (i k : Nat), i + d = w → d < k → calamusref02_S.l0 k (w : Int) n (256 ^ i) (i : Int) = some (sgnB n w, 0) := by
  have hb4 : ∀ i : Nat, i ≤ 4 → (256 : Int) ^ i ≤ 4294967296 ∧ (1 : Int) ≤ 256 ^ i := by
    intro i hi
    have : i = 0 ∨ i = 1 ∨ i = 2 ∨ i = 3 ∨ i = 4 := by omega
    rcases this with rfl | rfl | rfl | rfl | rfl <;> decide
  induction d with
  | zero =>
    intro i k hi hk
    obtain ⟨k, rfl⟩ : ∃ m, k = m + 1 := ⟨k - 1, by omega⟩
    obtain rfl : i = w := by omega
    have := hb4 i hw
    simp only [calamusref02_S.l0]
    rw [if_neg (by omega), IntWalk.wrap64_in (2 * n) ⟨by omega, by omega⟩, IntWalk.wrap64_in (n - _) ⟨by omega, by omega⟩]
    unfold sgnB
    split <;> rfl
  | succ d ih =>
    intro i k hi hk
    obtain ⟨k, rfl⟩ : ∃ m, k = m + 1 := ⟨k - 1, by omega⟩
    have := hb4 i (by omega)
    simp only [calamusref02_S.l0]
    rw [if_pos (by omega), IntWalk.wrap64_in (_ * 256) ⟨by omega, by omega⟩, IntWalk.wrap64_in _ ⟨by omega, by omega⟩]
    exact ih (i + 1) k (by omega) (by omega)
theorem refS_eq (l : List Int) (hb : isBytes l) (hm : l.length ≤ 4611686018427387904) (a1 a2 : Int) (h1 : inI a1) (h2 : inI a2) (k : Nat) (hk : 8 ≤ k) : calamusref02_S.f k l a1 a2 = be_S.f l a1 a2 := by
  unfold calamusref02_S.f
  rw [refU_eq l hb hm a1 a2 h1 h2 k hk, beU_eq l hb a1 a2 h1 h2, beS_eq l hb a1 a2 h1 h2]
  by_cases c1 : a2 < 1 ∨ a2 > 4
  · rw [if_pos c1, if_pos c1]; simp
  · rw [if_neg c1, if_neg c1]
    by_cases c2 : 0 ≤ a1 ∧ a1 + a2 ≤ l.length
    · rw [if_pos c2, if_pos c2]
      have hp := pre_range l hb a1 a2 c2.1 (by omega) c2.2
      obtain ⟨w, rfl⟩ := Int.eq_ofNat_of_zero_le (show 0 ≤ a2 by omega)
      simp only [Option.bind_some, if_true]
      exact refS_loop w _ (by omega) hp.1 hp.2 w 0 k (by omega) (by omega)
    · rw [if_neg c2, if_neg c2]; simp
theorem widthB_mx (a : Int) : mx 0 (mn a 8) = (widthB a : Int) ∧ widthB a ≤ 8 := by
  unfold mx mn widthB
  (repeat' split) <;> omega
theorem bePut_eq (n a : Int) (h : inI n) (h2 : inI a) : be_Put.f n a = some (putB n (widthB a)) := by
  unfold be_Put.f; rw [if_pos (show inI n ∧ inI a from ⟨h, h2⟩)]
theorem emod_pow (n : Int) (k : Nat) : (n % 18446744073709551616) / 256 ^ k % 256 = n / 256 ^ k % 256 ∨ 8 ≤ k := by
  have : k = 0 ∨ k = 1 ∨ k = 2 ∨ k = 3 ∨ k = 4 ∨ k = 5 ∨ k = 6 ∨ k = 7 ∨ 8 ≤ k := by omega
  rcases this with rfl | rfl | rfl | rfl | rfl | rfl | rfl | rfl | h
  all_goals first | exact .inr h | (refine .inl ?_; simp; try omega)
theorem refPut_loop (n : Int) (W : Nat) (hW : W ≤ 8) (d : Nat) : ∀ (k m : Nat), d + m = W → d < k →
    calamusref02_Put.l0 k (List.replicate d 0 ++ putB n m) (n % 18446744073709551616 / 256 ^ m) ((d : Int) - 1) = some (putB n W) := by
  induction d with
  | zero =>
    intro k m hm hk
    obtain ⟨k, rfl⟩ : ∃ j, k = j + 1 := ⟨k - 1, by omega⟩
    obtain rfl : m = W := by omega
    simp only [calamusref02_Put.l0]
    rw [if_neg (by omega)]
    simp
  | succ d ih =>
    intro k m hm hk
    obtain ⟨k, rfl⟩ : ∃ j, k = j + 1 := ⟨k - 1, by omega⟩
    have hx0 : 0 ≤ n % 18446744073709551616 / 256 ^ m := Int.ediv_nonneg (by omega) (Int.pow_nonneg (by decide))
    have hx1 : n % 18446744073709551616 / 256 ^ m ≤ n % 18446744073709551616 := Int.ediv_le_self _ (by omega)
    simp only [calamusref02_Put.l0]
    rw [if_pos (by omega), if_pos (by omega), if_pos (by simp [putB_length]; omega), Int.tmod_eq_emod_of_nonneg hx0, Int.tdiv_eq_ediv_of_nonneg hx0, IntWalk.u64_in _ ⟨by omega, by omega⟩, IntWalk.wrap64_in _ ⟨by omega, by omega⟩]
    have e1 : n % 18446744073709551616 / 256 ^ m / 256 = n % 18446744073709551616 / 256 ^ (m + 1) := by rw [Int.pow_succ, Int.ediv_ediv_of_nonneg (Int.pow_nonneg (by decide))]
    have e2 : n % 18446744073709551616 / 256 ^ m % 256 % 256 = n / 256 ^ m % 256 := by
      rcases emod_pow n m with h | h
      · omega
      · omega
    have e3 := put_step n (d + 1 + m) m (by omega)
    rw [show d + 1 + m - m = d + 1 by omega, show d + 1 + m - 1 - m = d by omega, show d + 1 + m - (m + 1) = d by omega] at e3
    rw [e1, e2, show (((d + 1 : Nat) : Int) - 1).toNat = d by omega, e3, show ((d + 1 : Nat) : Int) - 1 - 1 = (d : Int) - 1 by omega]
    exact ih k (m + 1) (by omega) (by omega)
theorem refPut_eq (n a : Int) (h : inI n) (k : Nat) (hk : 9 ≤ k) : calamusref02_Put.f k n a = some (putB n (widthB a)) := by
  obtain ⟨h1, h2⟩ := widthB_mx a
  unfold calamusref02_Put.f
  rw [h1, if_pos (by omega), if_pos (by omega)]
  have := refPut_loop n (widthB a) h2 (widthB a) k 0 (by omega) (by omega)
  rw [show IntKind.u64.wrap n = n % 18446744073709551616 by simp [IntKind.wrap, IntKind.bits, IntKind.signed]]
  simpa [putB] using this

end Go.Proofs.Ytcclmaicdmogjaa.P

namespace Go.Proofs.Ytcclmaicdmogjaa.P
open Go.RowKit Go.Proofs.YtcclmaicdmogjaaW.PrintWords Go.Proofs.YtcclmaicdmogjaaW.PrintLast Go.Proofs.YtcclmaicdmogjaaW.PrintMore
set_option linter.unusedVariables false
set_option linter.unusedSimpArgs false

-- USES calamuslaw02_BeCuts calamuslaw02_alive calamusref02_Cut calamusref02_Lay calamusref02_Pad be_Cut be_Lay be_Pad
-- NEEDS be gen
theorem cut_eq (l : List Int) (hm : l.length < 140737488355328) (a n : Int) (ha : inI a) (hn : inI n) : be_Cut.f l a n = if 0 ≤ a ∧ 0 ≤ n ∧ a + n ≤ l.length then some ((l.take (a + n).toNat).drop a.toNat, 0) else some ([], 3) := by
  unfold be_Cut.f
  rw [there_eq l a n (by omega) ha hn]
  simp only [Option.bind_some]
  by_cases h : 0 ≤ a ∧ 0 ≤ n ∧ a + n ≤ l.length
  · rw [if_pos (decide_eq_true h), if_pos h, IntWalk.wrap64_in (a + n) ⟨by omega, by omega⟩, if_pos h.1, if_pos (by omega), if_pos h.2.2, if_pos]
    · rfl
    · simp only [List.length_nil, List.length_drop, List.length_take]; omega
  · rw [if_neg (by simpa using h), if_neg h]
theorem refcut_eq (l : List Int) (hm : l.length < 140737488355328) (a n : Int) (ha : inI a) (hn : inI n) : calamusref02_Cut.f l a n = be_Cut.f l a n := by
  rw [cut_eq l hm a n ha hn]
  unfold calamusref02_Cut.f
  rw [refthere_eq l a n (by omega) ha hn]
  simp only [Option.bind_some]
  by_cases h : 0 ≤ a ∧ 0 ≤ n ∧ a + n ≤ l.length
  · rw [if_pos (decide_eq_true h), if_pos h, IntWalk.wrap64_in (a + n) ⟨by omega, by omega⟩, if_pos h.1, if_pos (by omega), if_pos h.2.2, copy_eq _ (by simp only [List.length_drop, List.length_take]; omega)]
    rfl
  · rw [if_neg (by simpa using h), if_neg h]
theorem refLay_loop (l o : List Int) (a : Nat) (hm : l.length < 140737488355328) (h : a + o.length ≤ l.length) (d : Nat) : ∀ (i k : Nat), i + d = o.length → d < k →
    calamusref02_Lay.l0 k (a : Int) o (l.take a ++ o.take i ++ l.drop (a + i)) (o.length : Int) (i : Int) = some (l.take a ++ o ++ l.drop (a + o.length), 0) := by
  induction d with
  | zero =>
    intro i k hi hk
    obtain ⟨k, rfl⟩ : ∃ m, k = m + 1 := ⟨k - 1, by omega⟩
    obtain rfl : i = o.length := by omega
    rw [calamusref02_Lay.l0, if_neg (by omega), List.take_length]
  | succ d ih =>
    intro i k hi hk
    obtain ⟨k, rfl⟩ : ∃ m, k = m + 1 := ⟨k - 1, by omega⟩
    have hlt : i < o.length := by omega
    have hlen : (l.take a ++ o.take i).length = a + i := by simp only [List.length_append, List.length_take]; omega
    rw [calamusref02_Lay.l0, if_pos (by omega), if_pos (by omega), if_pos (by omega), IntWalk.wrap64_in ((a : Int) + (i : Int)) ⟨by omega, by omega⟩, if_pos (by omega), if_pos (by simp only [List.length_append, List.length_take, List.length_drop]; omega), IntWalk.wrap64_in ((i : Int) + 1) ⟨by omega, by omega⟩]
    have e : (l.take a ++ o.take i ++ l.drop (a + i)).set ((a : Int) + (i : Int)).toNat (rd o (i : Int)) = l.take a ++ o.take (i + 1) ++ l.drop (a + (i + 1)) := by
      rw [show ((a : Int) + (i : Int)).toNat = a + i by omega, List.set_append_right _ _ (by omega), hlen, Nat.sub_self, List.drop_eq_getElem_cons (show a + i < l.length by omega), List.set_cons_zero, List.take_succ_eq_append_getElem hlt]
      rw [rd_nat, List.getD_eq_getElem?_getD, List.getElem?_eq_getElem hlt, List.append_assoc, List.append_assoc, List.append_assoc]
      rfl
    rw [e]
    exact ih (i + 1) k (by omega) (by omega)
theorem reflay_eq (l : List Int) (hm : l.length < 140737488355328) (a : Int) (ha : inI a) (o : List Int) (k : Nat) (hk : o.length < k) (ho : o.length ≤ 9223372036854775807) : calamusref02_Lay.f k l a o = be_Lay.f l a o := by
  unfold calamusref02_Lay.f be_Lay.f
  rw [if_pos ⟨hm, ha⟩, refthere_eq l a o.length (by omega) ha ⟨by omega, by omega⟩, Option.bind_some]
  by_cases h : 0 ≤ a ∧ a + o.length ≤ l.length
  · rw [if_pos h, if_pos (decide_eq_true ⟨h.1, by omega, h.2⟩), copy_eq l hm, Option.bind_some]
    obtain ⟨n, rfl⟩ := Int.eq_ofNat_of_zero_le h.1
    have := refLay_loop l o n hm (by omega) o.length 0 k (by omega) hk
    rw [List.take_zero, List.append_nil, Nat.add_zero, List.take_append_drop] at this
    exact this
  · rw [if_neg h, if_neg]
    rw [decide_eq_true_eq]
    exact fun hc => h ⟨hc.1, hc.2.2⟩
theorem padTo_mx (a : Int) : mx 1 (mn a 16) = padTo a := by unfold mx mn padTo; (repeat' split) <;> omega
theorem padTo_bd (a : Int) : 1 ≤ padTo a ∧ padTo a ≤ 16 := by unfold padTo; omega
theorem mult_no (t m q : Nat) (ht : 1 ≤ t) (h1 : m < q * t) (h2 : q * t < m + t) (h3 : m % t = 0) : False := by
  have e : m = t * (m / t) := by have := Nat.mod_add_div m t; omega
  have h4 : t * (m / t) < t * q := by rw [← e, Nat.mul_comm t]; exact h1
  have h5 : m / t < q := Nat.lt_of_mul_lt_mul_left h4
  have h6 : t * (m / t + 1) ≤ t * q := Nat.mul_le_mul_left _ h5
  rw [Nat.mul_add, Nat.mul_one, ← e, Nat.mul_comm t] at h6
  omega
theorem refPad_loop (l : List Int) (a : Int) (hm : l.length ≤ 140737488351232) (q t : Nat) (ht : padTo a = t) (h1 : l.length ≤ q * t) (h2 : q * t < l.length + t) (d : Nat) : ∀ (j k : Nat), l.length + j + d = q * t → d < k →
    calamusref02_Pad.l0 k a (l ++ List.replicate j 0) = some (l ++ List.replicate (q * t - l.length) 0) := by
  have hb := padTo_bd a
  induction d with
  | zero =>
    intro j k hj hk
    obtain ⟨k, rfl⟩ : ∃ m, k = m + 1 := ⟨k - 1, by omega⟩
    rw [calamusref02_Pad.l0, padTo_mx, ht, if_neg (by omega), if_pos, show q * t - l.length = j by omega]
    rw [List.length_append, List.length_replicate, show l.length + j = q * t by omega, ← Int.natCast_emod, Nat.mul_mod_left]
    rfl
  | succ d ih =>
    intro j k hj hk
    obtain ⟨k, rfl⟩ : ∃ m, k = m + 1 := ⟨k - 1, by omega⟩
    rw [calamusref02_Pad.l0, padTo_mx, ht, if_neg (by omega), if_neg, if_pos (by rw [List.length_append, List.length_replicate]; omega), List.append_assoc, ← List.replicate_succ']
    · exact ih (j + 1) k (by omega) (by omega)
    · rw [List.length_append, List.length_replicate, ← Int.natCast_emod]
      intro hc
      exact mult_no t (l.length + j) q (by omega) (by omega) (by omega) (by omega)
theorem refpad_eq (l : List Int) (a : Int) (ha : inI a) (hm : l.length ≤ 140737488351232) (k : Nat) (hk : 16 < k) : calamusref02_Pad.f k l a = be_Pad.f l a ∧ padN l.length a ≤ l.length + 15 ∧ l.length ≤ padN l.length a := by
  have hb := padTo_bd a
  obtain ⟨t, ht⟩ := Int.eq_ofNat_of_zero_le (show 0 ≤ padTo a by omega)
  have hp : padN l.length a = (l.length + t - 1) / t * t := by
    unfold padN
    rw [ht]
    have : ((l.length : Int) + (t : Int) - 1) = ((l.length + t - 1 : Nat) : Int) := by omega
    rw [this]
    rfl
  obtain ⟨q, hq⟩ : ∃ q, (l.length + t - 1) / t = q := ⟨_, rfl⟩
  rw [hq] at hp
  have h1 := Nat.div_mul_le_self (l.length + t - 1) t
  have h2 := Nat.lt_div_mul_add (a := l.length + t - 1) (show 0 < t by omega)
  rw [hq] at h1 h2
  refine ⟨?_, by omega, by omega⟩
  unfold calamusref02_Pad.f be_Pad.f
  rw [copy_eq l (by omega), Option.bind_some, if_pos ⟨by omega, ha⟩, hp]
  have := refPad_loop l a hm q t (by omega) (by omega) (by omega) (q * t - l.length) 0 k (by omega) (by omega)
  rw [List.replicate_zero, List.append_nil] at this
  exact this
theorem cuts_l2 (b over i o : List Int) (hi : calamusref02_Same.f i b = some true) (ho : calamusref02_Same.f o over = some true) (n : Nat) (hn : n ≤ 140737488355347) (d : Nat) : ∀ (j k : Nat) (p : List Int), p.length = n → j + d = n → d < k →
    calamuslaw02_BeCuts.l2 k b over i o p (n : Int) (j : Int) = some true := by
  induction d with
  | zero =>
    intro j k p hp hj hk
    obtain ⟨k, rfl⟩ : ∃ m, k = m + 1 := ⟨k - 1, by omega⟩
    rw [calamuslaw02_BeCuts.l2, if_neg (by omega), hi, Option.bind_some, if_pos (Eq.refl _), ho, Option.bind_some]
  | succ d ih =>
    intro j k p hp hj hk
    obtain ⟨k, rfl⟩ : ∃ m, k = m + 1 := ⟨k - 1, by omega⟩
    rw [calamuslaw02_BeCuts.l2, if_pos (by omega), if_pos (by omega), if_pos (by omega), IntWalk.wrap64_in ((j : Int) + 1) ⟨by omega, by omega⟩]
    exact ih (j + 1) k _ (by rw [List.length_set]; exact hp) (by omega) (by omega)
theorem cuts_l1 (b over i o p : List Int) (hi : calamusref02_Same.f i b = some true) (ho : calamusref02_Same.f o over = some true) (hpn : p.length ≤ 140737488355347) (n : Nat) (hn : n ≤ 140737488355347) (d : Nat) : ∀ (j k : Nat) (x : List Int), x.length = n → j + d = n → d + p.length + 1 < k →
    calamuslaw02_BeCuts.l1 k b over i o x p (n : Int) (j : Int) = some true := by
  induction d with
  | zero =>
    intro j k x hp hj hk
    obtain ⟨k, rfl⟩ : ∃ m, k = m + 1 := ⟨k - 1, by omega⟩
    rw [calamuslaw02_BeCuts.l1, if_neg (by omega)]
    exact cuts_l2 b over i o hi ho p.length hpn p.length 0 k p rfl (by omega) (by omega)
  | succ d ih =>
    intro j k x hp hj hk
    obtain ⟨k, rfl⟩ : ∃ m, k = m + 1 := ⟨k - 1, by omega⟩
    rw [calamuslaw02_BeCuts.l1, if_pos (by omega), if_pos (by omega), if_pos (by omega), IntWalk.wrap64_in ((j : Int) + 1) ⟨by omega, by omega⟩]
    exact ih (j + 1) k _ (by rw [List.length_set]; exact hp) (by omega) (by omega)
theorem cuts_l0 (b over i o y p : List Int) (hi : calamusref02_Same.f i b = some true) (ho : calamusref02_Same.f o over = some true) (hpn : p.length ≤ 140737488355347) (hyn : y.length ≤ 140737488355347) (n : Nat) (hn : n ≤ 140737488355347) (d : Nat) : ∀ (j k : Nat) (x : List Int), x.length = n → j + d = n → d + y.length + p.length + 2 < k →
    calamuslaw02_BeCuts.l0 k b over i o x y p (n : Int) (j : Int) = some true := by
  induction d with
  | zero =>
    intro j k x hp hj hk
    obtain ⟨k, rfl⟩ : ∃ m, k = m + 1 := ⟨k - 1, by omega⟩
    rw [calamuslaw02_BeCuts.l0, if_neg (by omega)]
    exact cuts_l1 b over i o p hi ho hpn y.length hyn y.length 0 k y rfl (by omega) (by omega)
  | succ d ih =>
    intro j k x hp hj hk
    obtain ⟨k, rfl⟩ : ∃ m, k = m + 1 := ⟨k - 1, by omega⟩
    rw [calamuslaw02_BeCuts.l0, if_pos (by omega), if_pos (by omega), if_pos (by omega), IntWalk.wrap64_in ((j : Int) + 1) ⟨by omega, by omega⟩]
    exact ih (j + 1) k _ (by rw [List.length_set]; exact hp) (by omega) (by omega)
theorem beCuts_all (l o : List Int) (x y z : Int) (hx : inI x) (hy : inI y) (hz : inI z) (hl : l.length ≤ 140737488351232) (ho : o.length ≤ 140737488351232) : ∃ k, calamuslaw02_BeCuts.f k l o x y z = some true := by
  refine ⟨4 * l.length + o.length + 100, ?_⟩
  obtain ⟨K, hK⟩ : ∃ K, 4 * l.length + o.length + 100 = K := ⟨_, rfl⟩
  rw [hK]
  have hal : calamuslaw02_alive.f = some true := by decide +kernel
  unfold calamuslaw02_BeCuts.f
  obtain ⟨hp1, hp2, hp3⟩ := refpad_eq l z hz hl K (by omega)
  obtain ⟨c, e, hc, hcl⟩ : ∃ (c : List Int) (e : Int), be_Cut.f l x y = some (c, e) ∧ c.length ≤ l.length := by
    rw [cut_eq l (by omega) x y hx hy]
    split
    · exact ⟨_, _, rfl, by simp only [List.length_drop, List.length_take]; omega⟩
    · exact ⟨_, _, rfl, by simp⟩
  obtain ⟨m, g, hm, hml⟩ : ∃ (c : List Int) (e : Int), be_Lay.f l x o = some (c, e) ∧ c.length ≤ l.length := by
    unfold be_Lay.f
    rw [if_pos ⟨by omega, hx⟩]
    split
    · exact ⟨_, _, rfl, by simp only [List.length_append, List.length_drop, List.length_take]; omega⟩
    · exact ⟨_, _, rfl, by simp⟩
  obtain ⟨p, hp, hpl⟩ : ∃ p : List Int, be_Pad.f l z = some p ∧ p.length ≤ l.length + 15 := by
    unfold be_Pad.f
    rw [if_pos ⟨by omega, hz⟩]
    exact ⟨_, rfl, by rw [List.length_append, List.length_replicate]; omega⟩
  rw [hal, Option.bind_some, if_pos (Eq.refl _), copy_eq l (by omega), Option.bind_some, copy_eq o (by omega), Option.bind_some, refcut_eq l (by omega) x y hx hy, reflay_eq l (by omega) x hx o K (by omega) (by omega), hp1]
  rw [hc, Option.bind_some, Option.bind_some, hm, Option.bind_some, Option.bind_some, hp, Option.bind_some, same_refl, Option.bind_some, if_pos (Eq.refl _), if_pos (Eq.refl _), same_refl, Option.bind_some, if_pos (Eq.refl _), if_pos (Eq.refl _), Option.bind_some, same_refl, Option.bind_some]
  obtain ⟨K, rfl⟩ : ∃ m, K = m + 1 := ⟨K - 1, by omega⟩
  show calamuslaw02_BeCuts.j0 (K + 1) l o l o c m p false = some true
  rw [calamuslaw02_BeCuts.j0, if_neg (by decide)]
  exact cuts_l0 l o l o m p (same_refl l) (same_refl o) (by omega) (by omega) c.length (by omega) c.length 0 K c rfl (by omega) (by omega)

end Go.Proofs.Ytcclmaicdmogjaa.P

namespace Go.Proofs.Ytcclmaicdmogjaa.P
open Go.RowKit Go.Proofs.YtcclmaicdmogjaaW.PrintWords Go.Proofs.YtcclmaicdmogjaaW.PrintLast Go.Proofs.YtcclmaicdmogjaaW.PrintMore
set_option linter.unusedVariables false
set_option linter.unusedSimpArgs false

-- USES calamuslaw05_HeadPuts calamusref05_PutHead calamusref05_lay calamusref05_short head_PutHead
-- NEEDS becuts
theorem ref05lay_eq (l : List Int) (a : Nat) (n : Int) (hn : inI n) (hm : l.length < 140737488355328) (h : a + 2 ≤ l.length) (k : Nat) (hk : 9 ≤ k) (x : Int) (hx : x = a) : calamusref05_lay.f k l x n = some (lay2 l a n) := by
  subst hx
  unfold calamusref05_lay.f
  rw [refPut_eq n 2 hn k hk, Option.bind_some, show widthB 2 = 2 by decide, reflay_eq l hm (a : Int) ⟨by omega, by omega⟩ (putB n 2) k (by rw [putB_length]; omega) (by rw [putB_length]; omega)]
  unfold be_Lay.f
  rw [if_pos ⟨hm, by constructor <;> omega⟩, if_pos (by rw [putB_length]; omega), Option.bind_some, putB_length]
  rfl
theorem ref05short_eq (n : Int) : calamusref05_short.f n = some (decide (okS n)) := by
  unfold calamusref05_short.f
  by_cases h : n ≥ -32768
  · rw [if_pos h, show decide (okS n) = decide (n ≤ 32767) from decide_eq_decide.2 ⟨fun hc => hc.2, fun hc => ⟨h, hc⟩⟩]
  · rw [if_neg h, decide_eq_false (show ¬ okS n from fun hc => h hc.1)]
theorem refPutHead_eq (l : List Int) (b0 b1 b2 b3 b4 : Int) (b5 : Bool) (hm : l.length < 140737488355328) (h0 : inI b0) (h1 : inI b1) (h2 : inI b2) (h3 : inI b3) (h4 : inI b4) (k : Nat) (hk : 20 ≤ k) :
    calamusref05_PutHead.f k l b0 b1 b2 b3 b4 b5 = some (putHeadR l b0 b1 b2 b3 b4 b5) := by
  obtain ⟨k, rfl⟩ : ∃ m, k = m + 1 := ⟨k - 1, by omega⟩
  unfold calamusref05_PutHead.f putHeadR
  have jt : calamusref05_PutHead.j0 (k + 1) l true b0 b1 b2 b3 b4 b5 = some ([], 6) := by rw [calamusref05_PutHead.j0, if_pos (Eq.refl _)]
  by_cases c : l.length < 54
  · rw [if_pos c, if_pos (by omega)]
  rw [if_neg c, if_neg (by omega)]
  by_cases e0 : b0 < 16
  · rw [if_pos e0, if_pos (.inl e0), jt]
  rw [if_neg e0]
  by_cases e1 : b0 > 16384
  · rw [if_pos e1, if_pos (.inr e1), jt]
  rw [if_neg e1, if_neg (show ¬ (b0 < 16 ∨ b0 > 16384) by omega), ref05short_eq, ref05short_eq, ref05short_eq, ref05short_eq, Option.bind_some]
  by_cases s1 : ¬ okS b1
  · rw [if_neg (by simpa using s1), jt, if_neg (fun hc => s1 hc.1)]
  rw [if_pos (decide_eq_true (Classical.not_not.1 s1)), Option.bind_some]
  by_cases s2 : ¬ okS b2
  · rw [if_neg (by simpa using s2), jt, if_neg (fun hc => s2 hc.2.1)]
  rw [if_pos (decide_eq_true (Classical.not_not.1 s2)), Option.bind_some]
  by_cases s3 : ¬ okS b3
  · rw [if_neg (by simpa using s3), jt, if_neg (fun hc => s3 hc.2.2.1)]
  rw [if_pos (decide_eq_true (Classical.not_not.1 s3)), Option.bind_some]
  by_cases s4 : ¬ okS b4
  · rw [decide_eq_false s4]
    show calamusref05_PutHead.j0 (k + 1) l true b0 b1 b2 b3 b4 b5 = _
    rw [jt, if_neg (fun hc => s4 hc.2.2.2)]
  rw [decide_eq_true (Classical.not_not.1 s4), if_pos ⟨Classical.not_not.1 s1, Classical.not_not.1 s2, Classical.not_not.1 s3, Classical.not_not.1 s4⟩]
  show calamusref05_PutHead.j0 (k + 1) l false b0 b1 b2 b3 b4 b5 = _
  rw [calamusref05_PutHead.j0, if_neg (by decide)]
  have L : ∀ (x : List Int) (a : Nat) (n : Int), x.length = l.length → a + 2 ≤ 54 → (lay2 x a n).length = l.length := fun x a n hx ha => by rw [lay2_length _ _ _ (by omega)]; exact hx
  have l1 := L l 18 b0 rfl (by omega)
  have l2 := L _ 36 b1 l1 (by omega)
  have l3 := L _ 38 b2 l2 (by omega)
  have l4 := L _ 40 b3 l3 (by omega)
  have l5 := L _ 42 b4 l4 (by omega)
  rw [ref05lay_eq l 18 b0 h0 hm (by omega) k (by omega) 18 rfl, Option.bind_some, ref05lay_eq _ 36 b1 h1 (by omega) (by omega) k (by omega) 36 rfl, Option.bind_some, ref05lay_eq _ 38 b2 h2 (by omega) (by omega) k (by omega) 38 rfl, Option.bind_some, ref05lay_eq _ 40 b3 h3 (by omega) (by omega) k (by omega) 40 rfl, Option.bind_some, ref05lay_eq _ 42 b4 h4 (by omega) (by omega) k (by omega) 42 rfl, Option.bind_some]
  cases b5 with
  | true => rw [if_pos (Eq.refl _), ref05lay_eq _ 50 1 ⟨by decide, by decide⟩ (by omega) (by omega) k (by omega) 50 rfl]; rfl
  | false => rw [if_neg (by decide), ref05lay_eq _ 50 0 ⟨by decide, by decide⟩ (by omega) (by omega) k (by omega) 50 rfl]; rfl
theorem putHeadR_length (l : List Int) (b0 b1 b2 b3 b4 : Int) (b5 : Bool) : (putHeadR l b0 b1 b2 b3 b4 b5).1.length ≤ l.length := by
  unfold putHeadR
  split
  · simp
  · split
    · simp
    · split
      · rename_i h _ _
        have h1 := lay2_length l 18 b0 (by omega)
        have h2 := layN_length (lay2 l 18 b0) [b1, b2, b3, b4] (by omega) 4 (by omega)
        show (lay2 (layN (lay2 l 18 b0) [b1, b2, b3, b4] 4) 50 _).length ≤ _
        rw [lay2_length _ _ _ (by omega)]
        omega
      · simp
theorem hputs_l0 (b i : List Int) (hi : calamusref02_Same.f i b = some true) (n : Nat) (hn : n ≤ 140737488355347) (d : Nat) : ∀ (j k : Nat) (p : List Int), p.length = n → j + d = n → d < k →
    calamuslaw05_HeadPuts.l0 k b i p (n : Int) (j : Int) = some true := by
  induction d with
  | zero =>
    intro j k p hp hj hk
    obtain ⟨k, rfl⟩ : ∃ m, k = m + 1 := ⟨k - 1, by omega⟩
    rw [calamuslaw05_HeadPuts.l0, if_neg (by omega), hi, Option.bind_some]
  | succ d ih =>
    intro j k p hp hj hk
    obtain ⟨k, rfl⟩ : ∃ m, k = m + 1 := ⟨k - 1, by omega⟩
    rw [calamuslaw05_HeadPuts.l0, if_pos (by omega), if_pos (by omega), if_pos (by omega), IntWalk.wrap64_in ((j : Int) + 1) ⟨by omega, by omega⟩]
    exact ih (j + 1) k _ (by rw [List.length_set]; exact hp) (by omega) (by omega)
theorem headPuts_all (l : List Int) (b0 b1 b2 b3 b4 : Int) (b5 : Bool) (hm : l.length ≤ 140737488351232) (h0 : inI b0) (h1 : inI b1) (h2 : inI b2) (h3 : inI b3) (h4 : inI b4) : ∃ k, calamuslaw05_HeadPuts.f k l b0 b1 b2 b3 b4 b5 = some true := by
  refine ⟨l.length + 100, ?_⟩
  obtain ⟨K, hK⟩ : ∃ K, l.length + 99 = K := ⟨_, rfl⟩
  rw [show l.length + 100 = K + 1 by omega]
  unfold calamuslaw05_HeadPuts.f
  have hal : calamuslaw05_alive.f = some true := rfl
  rw [hal, Option.bind_some, if_pos (Eq.refl _), copy_eq l (by omega), Option.bind_some, refPutHead_eq l b0 b1 b2 b3 b4 b5 (by omega) h0 h1 h2 h3 h4 (K + 1) (by omega)]
  have hp : head_PutHead.f l b0 b1 b2 b3 b4 b5 = some (putHeadR l b0 b1 b2 b3 b4 b5) := by unfold head_PutHead.f; rw [if_pos ⟨by omega, h0, h1, h2, h3, h4⟩]
  have hl := putHeadR_length l b0 b1 b2 b3 b4 b5
  rw [hp]
  generalize putHeadR l b0 b1 b2 b3 b4 b5 = r at hl
  obtain ⟨c, e⟩ := r
  rw [Option.bind_some, Option.bind_some, if_pos (Eq.refl _), same_refl, Option.bind_some]
  show calamuslaw05_HeadPuts.j0 (K + 1) l l c false = some true
  rw [calamuslaw05_HeadPuts.j0, if_neg (by decide)]
  have hl' : c.length ≤ l.length := hl
  exact hputs_l0 l l (same_refl l) c.length (by omega) c.length 0 K c rfl (by omega) (by omega)

end Go.Proofs.Ytcclmaicdmogjaa.P

namespace Go.Proofs.Ytcclmaicdmogjaa.P
open Go.RowKit Go.Proofs.YtcclmaicdmogjaaW.PrintWords Go.Proofs.YtcclmaicdmogjaaW.PrintLast Go.Proofs.YtcclmaicdmogjaaW.PrintMore
set_option linter.unusedVariables false
set_option linter.unusedSimpArgs false

-- ALSO Derived.Deep.SlicePairs Derived.Deep.Slices Derived.Lib.SmallJoins Derived.Test.YtcclmaicdmogjaaRows
open Go.Deep Go.ChangeShapes Go.WideShapes
section
variable {H : Type} {enc : TypeId × Value → H} {W : World} {α : Type}
/-- What the cells of a type hold: something that the kind reads, good, and at most as great as the datum. -/
def Op (enc : TypeId × Value → H) (W : World) (t : TypeId) (k : Kd α) (okp : α → Prop) (sz : α → Nat) : Prop :=
  ∀ (fuel : Nat) (cs : List Value) (d : DataW H) (p : List MemPlace), DataW.trod enc Try.prog W 0 (fun _ => true) true fuel t cs = some (d, p) → ∃ y, k.K W y cs ∧ okp y ∧ sz y ≤ Rows.uptoBulk d
def szL (sz : α → Nat) : List α → Nat
  | [] => 1
  | y :: r => sz y + szL sz r
theorem szL_le (sz : α → Nat) (h : ∀ y, 1 ≤ sz y) (ys : List α) : ys.length + 1 ≤ szL sz ys := by
  induction ys with
  | nil => simp [szL]
  | cons y r ih => have := h y; simp only [szL, List.length_cons]; omega
theorem op_int {t : TypeId} {kd : IntKind} (ht : Try.prog.underlying t = some (.int kd)) : Op enc W t (Kd.int kd) (fun x => (Lit.int kd x).wf = true) (fun _ => 1) := by
  intro fuel cs d p h
  obtain ⟨n, rfl, hx, hw⟩ := DataW.trod_int ht h
  obtain ⟨rfl, _⟩ := Prod.mk.inj hx
  exact ⟨n, rfl, hw, by simp [Rows.uptoBulk]⟩
theorem op_bool {t : TypeId} (ht : Try.prog.underlying t = some .bool) : Op enc W t Kd.bool (fun _ => True) (fun _ => 1) := by
  intro fuel cs d p h
  obtain ⟨n, rfl, hx⟩ := DataW.trod_bool ht h
  obtain ⟨rfl, _⟩ := Prod.mk.inj hx
  exact ⟨n, rfl, trivial, by simp [Rows.uptoBulk]⟩
theorem op_string {t : TypeId} (ht : Try.prog.underlying t = some .string) : Op enc W t Kd.string (fun s => s.size ≤ maxLen) (fun s => s.size + 1) := by
  intro fuel cs d p h
  obtain ⟨s, rfl, hx, hw⟩ := DataW.trod_string ht h
  obtain ⟨rfl, _⟩ := Prod.mk.inj hx
  refine ⟨s, rfl, hw, ?_⟩
  simp only [Rows.uptoBulk, Array.length_toList]
  exact Nat.le_refl _
theorem slice_form {t e : TypeId} {k : Kd α} {okp : α → Prop} {sz : α → Nat} (ht : Try.prog.underlying t = some (.slice e)) (hc : Try.prog.cellsOf e = k.sz) (ho : Op enc W e k okp sz)
    {fuel : Nat} {cs : List Value} {d : DataW H} {p : List MemPlace} (h : DataW.trod enc Try.prog W 0 (fun _ => true) true fuel t cs = some (d, p)) :
    ∃ (A : Option Addr) (c : Nat) (ys : List α), cs = [.slice A ys.length c] ∧ ys.length ≤ c ∧ k.C W A ys.length ys ∧ (∀ y ∈ ys, okp y) ∧ szL sz ys ≤ Rows.uptoBulk d ∧ (ys = [] ∨ ∃ elems spare, d = .slice elems spare ∧ elems.length = ys.length) := by
  rcases open_slice ht h with ⟨rfl, hx⟩ | ⟨a, len, cap, m, n, D, Pl, rfl, hb, hl, hm, hmm, hx, hall⟩
  · obtain ⟨rfl, _⟩ := Prod.mk.inj hx
    exact ⟨none, 0, [], rfl, Nat.le_refl _, ⟨rfl, by simp, fun h => absurd h (by simp)⟩, fun y hy => by simp at hy, by simp [szL, Rows.uptoBulk], .inl rfl⟩
  · obtain ⟨rfl, _⟩ := Prod.mk.inj hx
    have hlm : len ≤ m := by rw [hmm]; split <;> omega
    have each : ∀ i, i < len → ∃ y : α, (∃ cs', (cs'.length = k.sz ∧ ∀ j, j < k.sz → W.cell? ((a.add (i * k.sz)).add j) = cs'[j]?) ∧ k.K W y cs') ∧ okp y ∧ sz y ≤ Rows.uptoBulk (D i) := fun i hi => by
      obtain ⟨cs', h1, h2⟩ := hall i (by omega)
      rw [hc] at h1
      obtain ⟨_, h3, h4⟩ := World.cells?_some h1
      obtain ⟨y, g1, g2, g3⟩ := ho n cs' (D i) (Pl i) h2
      exact ⟨y, ⟨cs', ⟨h3, h4⟩, g1⟩, g2, g3⟩
    rcases Nat.eq_zero_or_pos len with h0 | hpos
    · subst h0
      exact ⟨some a, cap, [], rfl, Nat.zero_le _, ⟨rfl, by simp, fun h => absurd h (by simp)⟩, fun y hy => by simp at hy, by simp only [szL, Rows.uptoBulk]; omega, .inl rfl⟩
    · have : Nonempty α := ⟨(each 0 hpos).choose⟩
      have := Classical.inhabited_of_nonempty this
      obtain ⟨f, hf⟩ := choose_lt each
      have hlen : ((List.range len).map f).length = len := by simp
      refine ⟨some a, cap, (List.range len).map f, by rw [hlen], by rw [hlen]; exact hl, ⟨rfl, ?_, fun _ => ⟨a, rfl, fun j q hj => ?_⟩⟩, fun y hy => ?_, ?_, .inr ⟨_, _, rfl, by simp⟩⟩
      · rw [hlen]; unfold maxLen at hm; omega
      · have hjl : j < len := by
          have := (List.getElem?_eq_some_iff.1 hj).1
          simpa using this
        rw [List.getElem?_map, List.getElem?_range hjl] at hj
        obtain rfl := Option.some.inj hj
        obtain ⟨⟨cs', ⟨h3, h4⟩, h5⟩, _⟩ := hf j hjl
        refine ⟨cs', h3, h5, fun i u hu => ?_⟩
        have hi : i < k.sz := by rw [← h3]; exact (List.getElem?_eq_some_iff.1 hu).1
        rw [← hu, ← h4 i hi, Deep.add_add]
      · obtain ⟨i, hi, rfl⟩ := List.mem_map.1 hy
        exact (hf i (List.mem_range.1 hi)).2.1
      · have : ∀ l : List Nat, (∀ i ∈ l, i < len) → szL sz (l.map f) ≤ Rows.uptoBulkAll (l.map D) + 1 := by
          intro l
          induction l with
          | nil => intro _; simp [szL, Rows.uptoBulkAll]
          | cons i r ih =>
            intro h
            have h1 := (hf i (h i (by simp))).2.2
            have h2 := ih (fun j hj => h j (by simp [hj]))
            simp only [List.map_cons, szL, Rows.uptoBulkAll]
            omega
        have := this (List.range len) (fun i hi => List.mem_range.1 hi)
        simp only [Rows.uptoBulk]
        omega
theorem op_slice {t e : TypeId} {k : Kd α} {okp : α → Prop} {sz : α → Nat} (ht : Try.prog.underlying t = some (.slice e)) (hc : Try.prog.cellsOf e = k.sz) (ho : Op enc W e k okp sz) :
    Op enc W t (Kd.slice e k) (fun ys => ∀ y ∈ ys, okp y) (szL sz) := by
  intro fuel cs d p h
  obtain ⟨A, c, ys, rfl, h1, h2, h3, h4, _⟩ := slice_form ht hc ho h
  exact ⟨ys, ⟨A, c, rfl, h1, h2⟩, h3, h4⟩
set_option maxRecDepth 100000 in
/-- An argument that is a slice. -/
theorem arg_slice {t e : TypeId} {k : Kd α} {okp : α → Prop} {sz : α → Nat} (ht : Try.prog.underlying t = some (.slice e)) (hc : Try.prog.cellsOf e = k.sz) (ho : Op enc W e k okp sz) {base : Nat}
    {v : Value} {d : DataW H} {p : List MemPlace} (hv : Value.okWide Try.prog W .any base t v) (h : DataW.Trod enc Try.prog W 0 (fun _ => true) true t v d p) :
    ∃ (A : Option Addr) (c : Nat) (ys : List α), v = .slice A ys.length c ∧ ys.length ≤ c ∧ k.C W A ys.length ys ∧ (∀ y ∈ ys, okp y) ∧ szL sz ys ≤ Rows.uptoBulk d ∧ (ys = [] ∨ ∃ elems spare, d = .slice elems spare ∧ elems.length = ys.length) := by
  obtain ⟨a, len, cap, rfl⟩ := okWide_slice ht hv
  obtain ⟨fuel, hf⟩ := h
  obtain ⟨A, c, ys, hcs, r⟩ := slice_form ht hc ho hf
  simp [Value.cells] at hcs
  obtain ⟨rfl, rfl, rfl⟩ := hcs
  exact ⟨_, _, ys, rfl, r⟩
set_option maxRecDepth 100000 in
theorem arg_int {t : TypeId} {kd : IntKind} (ht : Try.prog.underlying t = some (.int kd)) {base : Nat} {v : Value} {d : DataW H} {p : List MemPlace} (hv : Value.okWide Try.prog W .any base t v) (h : DataW.Trod enc Try.prog W 0 (fun _ => true) true t v d p) :
    ∃ a, v = .int kd a ∧ (Lit.int kd a).wf = true := by
  obtain ⟨a, h1, _, _, h2⟩ := open_int ht hv h
  exact ⟨a, h1, h2⟩
set_option maxRecDepth 100000 in
theorem arg_bool {t : TypeId} (ht : Try.prog.underlying t = some .bool) {base : Nat} {v : Value} {d : DataW H} {p : List MemPlace} (hv : Value.okWide Try.prog W .any base t v) (h : DataW.Trod enc Try.prog W 0 (fun _ => true) true t v d p) :
    ∃ b, v = .bool b := by
  obtain ⟨b, h1⟩ := okWide_bool ht hv
  exact ⟨b, h1⟩
theorem one_le (d : DataW H) : 1 ≤ Rows.uptoBulk d := by
  cases d with
  | lit l => cases l <;> simp [Rows.uptoBulk]
  | nil => simp [Rows.uptoBulk]
  | ptr d => simp [Rows.uptoBulk]
  | slice elems spare => simp [Rows.uptoBulk]
  | agg parts => simp [Rows.uptoBulk]
  | iface t d => simp [Rows.uptoBulk]
  | map entries => simp [Rows.uptoBulk]
  | held h => simp [Rows.uptoBulk]
theorem bulk_bound {l : List (DataW H)} (hk : Rows.uptoSmall H l = true) : Rows.uptoBulkAll l ≤ 1048576 := of_decide_eq_true hk
theorem trod_lt_ {t : TypeId} {v : Value} {d : DataW H} {p : List MemPlace} (h : DataW.Trod enc Try.prog W 0 (fun _ => true) true t v d p) : ∀ x ∈ p, x.block < W.heap.size := by
  obtain ⟨m, hm⟩ := h; exact DataW.trod_lt m _ _ _ hm
end
section
variable {H : Type} {enc : TypeId × Value → H} {W : World} {α : Type}
set_option maxRecDepth 100000 in
theorem arg_arr3 {t : TypeId} (ht : Try.prog.underlying t = some (.array 3 3)) (hce : Try.prog.cellsOf 3 = 1) (hct : Try.prog.cellsOf t = 3) {base : Nat} {v : Value} {d : DataW H} {p : List MemPlace} (hv : Value.okWide Try.prog W .any base t v) (h : DataW.Trod enc Try.prog W 0 (fun _ => true) true t v d p) :
    ∃ a b c, v = .agg #[.int .i64 a, .int .i64 b, .int .i64 c] ∧ (Lit.int .i64 a).wf = true ∧ (Lit.int .i64 b).wf = true ∧ (Lit.int .i64 c).wf = true := by
  unfold Value.okWide at hv
  rw [ht] at hv
  obtain ⟨cs, rfl, hsz, _⟩ := hv
  obtain ⟨c0, c1, c2, rfl⟩ := Go.Joins.array3 (hsz.trans hct)
  obtain ⟨fuel, hf⟩ := h
  obtain ⟨xs, n, _, hx, hl, hlen, hall⟩ := DataW.trod_array ht hf
  have g : ∀ i, i < 3 → ∃ y, DataW.trod enc Try.prog W 0 (fun _ => true) true n 3 ((([c0, c1, c2] : List Value).drop i).take 1) = some y := fun i hi => by
    have hy := hall i hi
    rw [hce, Nat.mul_one, List.getElem?_eq_getElem (by omega)] at hy
    exact ⟨_, hy⟩
  obtain ⟨y0, g0⟩ := g 0 (by omega)
  obtain ⟨y1, g1⟩ := g 1 (by omega)
  obtain ⟨y2, g2⟩ := g 2 (by omega)
  obtain ⟨a, e0, _, w0⟩ := DataW.trod_int Try.underlying3 g0
  obtain ⟨b, e1, _, w1⟩ := DataW.trod_int Try.underlying3 g1
  obtain ⟨c, e2, _, w2⟩ := DataW.trod_int Try.underlying3 g2
  simp at e0 e1 e2
  exact ⟨a, b, c, by rw [e0, e1, e2], w0, w1, w2⟩
end
section
variable {H : Type} {enc : TypeId × Value → H} {W : World} {α : Type}
set_option maxRecDepth 100000 in
/-- The cells of a struct, one a field, at its fields' places. -/
theorem struct_cells {t : TypeId} {fs : Array Field} (ht : Try.prog.underlying t = some (.struct fs)) {base : Nat} {v : Value} {d : DataW H} {p : List MemPlace} (hv : Value.okWide Try.prog W .any base t v) (h : DataW.Trod enc Try.prog W 0 (fun _ => true) true t v d p) :
    ∃ (cs : Array Value) (n : Nat), v = .agg cs ∧ cs.size = Try.prog.cellsOf t ∧ ∀ (i : Nat) (f : Field), fs[i]? = some f → ∃ y, DataW.trod enc Try.prog W 0 (fun _ => true) true n f.type ((cs.toList.drop f.offset).take (Try.prog.cellsOf f.type)) = some y := by
  obtain ⟨cs, rfl, hsz⟩ := okWide_struct ht hv
  obtain ⟨fuel, hf⟩ := h
  obtain ⟨xs, n, _, _, _, hlen, hall⟩ := DataW.trod_struct ht hf
  refine ⟨cs, n, rfl, hsz, fun i f hi => ?_⟩
  have := hall i f hi
  have hlt : i < xs.length := by
    have h1 := (Array.getElem?_eq_some_iff.1 hi).1
    rw [hlen]; simpa using h1
  rw [List.getElem?_eq_getElem hlt] at this
  exact ⟨_, this⟩
end
section
variable {H : Type} {enc : TypeId × Value → H} {W : World} {α : Type}
theorem array6 {α : Type} {cs : Array α} (h : cs.size = 6) : ∃ c0 c1 c2 c3 c4 c5, cs = #[c0, c1, c2, c3, c4, c5] := by
  obtain ⟨l⟩ := cs
  match l, h with
  | [c0, c1, c2, c3, c4, c5], _ => exact ⟨c0, c1, c2, c3, c4, c5, rfl⟩
set_option maxRecDepth 100000 in
theorem arg_head {base : Nat} {v : Value} {d : DataW H} {p : List MemPlace} (hv : Value.okWide Try.prog W .any base 57 v) (h : DataW.Trod enc Try.prog W 0 (fun _ => true) true 57 v d p) :
    ∃ b0 b1 b2 b3 b4 b5, v = .agg #[.int .i64 b0, .int .i64 b1, .int .i64 b2, .int .i64 b3, .int .i64 b4, .bool b5] ∧ (Lit.int .i64 b0).wf = true ∧ (Lit.int .i64 b1).wf = true ∧ (Lit.int .i64 b2).wf = true ∧ (Lit.int .i64 b3).wf = true ∧ (Lit.int .i64 b4).wf = true := by
  obtain ⟨cs, n, rfl, hsz, hall⟩ := struct_cells Try.underlying57 hv h
  obtain ⟨c0, c1, c2, c3, c4, c5, rfl⟩ := array6 (hsz.trans (show Try.prog.cellsOf 57 = 6 by kernel_rfl))
  have hci : Try.prog.cellsOf 3 = 1 := by kernel_rfl
  have hcb : Try.prog.cellsOf 4 = 1 := by kernel_rfl
  obtain ⟨y0, g0⟩ := hall 0 _ rfl
  obtain ⟨y1, g1⟩ := hall 1 _ rfl
  obtain ⟨y2, g2⟩ := hall 2 _ rfl
  obtain ⟨y3, g3⟩ := hall 3 _ rfl
  obtain ⟨y4, g4⟩ := hall 4 _ rfl
  obtain ⟨y5, g5⟩ := hall 5 _ rfl
  simp [hci, hcb] at g0 g1 g2 g3 g4 g5
  obtain ⟨b0, e0, _, w0⟩ := DataW.trod_int Try.underlying3 g0
  obtain ⟨b1, e1, _, w1⟩ := DataW.trod_int Try.underlying3 g1
  obtain ⟨b2, e2, _, w2⟩ := DataW.trod_int Try.underlying3 g2
  obtain ⟨b3, e3, _, w3⟩ := DataW.trod_int Try.underlying3 g3
  obtain ⟨b4, e4, _, w4⟩ := DataW.trod_int Try.underlying3 g4
  obtain ⟨b5, e5, _⟩ := DataW.trod_bool Try.underlying4 g5
  simp at e0 e1 e2 e3 e4 e5
  exact ⟨b0, b1, b2, b3, b4, b5, by rw [e0, e1, e2, e3, e4, e5], w0, w1, w2, w3, w4⟩
end

end Go.Proofs.Ytcclmaicdmogjaa.P
