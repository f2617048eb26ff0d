/- Part 2 of the proof of the law BeLaid: what be.Lay answers has the new bytes at the place and the old ones before and behind, with the length that was; or it answers no bytes exactly where they do not lie within. -/
import Derived.Test.YtcclmaicdmogjaaCBeLaid0
-- Written by wip/pr.py over the kit's print
namespace Go.Proofs.Ytcclmaicdmogjaa.P
open Go.RowKit Go.Proofs.YtcclmaicdmogjaaW.PrintWords Go.Proofs.YtcclmaicdmogjaaW.PrintLast Go.Proofs.YtcclmaicdmogjaaW.PrintMore
attribute [local go_sem] max2_int min2_int max_two min_two max_three min_three max_four min_four   -- for this text's walks alone
set_option linter.unusedVariables false
set_option linter.unusedSimpArgs false

/-! ### calamusref02_S: function 39 -/
def calamusref02_S.l0 : Nat → Int → Int → Int → Int → Option (Int × Int)
  | 0, _, _, _, _ => none
  | k + 1, x2, x8, x10, x11 => if x11 < x2 then (calamusref02_S.l0 k x2 x8 (wrap64 (x10 * 256)) (wrap64 (x11 + 1))) else (if (wrap64 (2 * x8)) ≥ x10 then (some (wrap64 (x8 - x10), 0)) else (some (x8, 0)))
def calamusref02_S.f (k : Nat) (l0 : List Int) (a1 : Int) (a2 : Int) : Option (Int × Int) := (calamusref02_U.f k l0 a1 a2).bind fun bt205 => (if bt205.2 = 0 then (calamusref02_S.l0 k a2 bt205.1 1 0) else (some (0, bt205.2)))
theorem calamusref02_S.mono_l : ∀ k, (∀ y0 y1 y2 y3, LeO (calamusref02_S.l0 k y0 y1 y2 y3) (calamusref02_S.l0 (k + 1) y0 y1 y2 y3))
  | 0 => fun _ _ _ _ r h => by simp [calamusref02_S.l0] at h
  | k + 1 => by
    have ih0 := calamusref02_S.mono_l k
    · intro y0 y1 y2 y3
      unfold calamusref02_S.l0
      repeat' first
      | (with_reducible exact ih0 _ _ _ _)
      | (with_reducible exact calamusref02_U.mono _ _ _ _)
      | (with_reducible exact LeO.refl _)
      | (with_reducible exact LeO.none _)
      | (with_reducible refine LeO.ite ?_ ?_)
      | (with_reducible refine LeO.bind ?_ (fun _ => ?_))
      | exact ih0 _ _ _ _
      | exact calamusref02_U.mono _ _ _ _
      | exact LeO.none _
      | refine LeO.ite ?_ ?_
      | refine LeO.bind ?_ (fun _ => ?_)
theorem calamusref02_S.mono : ∀ a0 a1 a2 k, LeO (calamusref02_S.f k a0 a1 a2) (calamusref02_S.f (k + 1) a0 a1 a2) := by
  intro a0 a1 a2 k
  have ih0 := calamusref02_S.mono_l k
  unfold calamusref02_S.f
  repeat' first
      | (with_reducible exact ih0 _ _ _ _)
      | (with_reducible exact calamusref02_U.mono _ _ _ _)
      | (with_reducible exact LeO.refl _)
      | (with_reducible exact LeO.none _)
      | (with_reducible refine LeO.ite ?_ ?_)
      | (with_reducible refine LeO.bind ?_ (fun _ => ?_))
      | exact ih0 _ _ _ _
      | exact calamusref02_U.mono _ _ _ _
      | exact LeO.none _
      | refine LeO.ite ?_ ?_
      | refine LeO.bind ?_ (fun _ => ?_)
set_option maxHeartbeats 8000000 in
set_option maxRecDepth 100000 in
theorem calamusref02_S.calls (k : Nat) (A0 : Option Addr) (c0 : Nat) (l0 : List Int) (a1 : Int) (a2 : Int) (r1 : Int) (r2 : Int) (w : World) (hr0 : Kd.C (Kd.int .u8) w A0 l0.length l0) (hc0 : l0.length ≤ c0) (h : calamusref02_S.f k l0 a1 a2 = some (r1, r2)) :
    Calls Try.prog 39 #[.slice A0 l0.length c0, .int .i64 a1, .int .i64 a2] w fun e w' => e = .returned (.tuple #[.int .i64 r1, .int .i64 r2]) ∧ Drawn0 w w' := by
  have HR0 := Aside0.mk hr0
  have HC0 := Aside0.mk hc0
  clear hr0 hc0
  have H : ((calamusref02_U.f k l0 a1 a2).bind fun bt205 => (if bt205.2 = 0 then (calamusref02_S.l0 k a2 bt205.1 1 0) else (some (0, bt205.2)))) = some (r1, r2) := h
  clear h
  replace H := Option.bind_eq_some_iff.mp H
  obtain ⟨⟨t205, t206⟩, A40, H⟩ := H
  replace H : (if t206 = 0 then (calamusref02_S.l0 k a2 t205 1 0) else (some (0, t206))) = some (r1, r2) := H
  have A4 := Aside0.mk A40
  clear A40
  by_cases c5 : t206 = 0
  · rw [if_pos c5] at H
    have c5b0 : (t206 == 0) = true := beq_iff_eq.mpr c5
    have c5b1 : (t206 != 0) = false := bne_eq_false_iff_eq.mpr c5
    clear c5
    have H' := Aside0.mk H
    clear H
    go_enter Try.func39, Try.ntmps39
    go_wp2_with (first | ((with_reducible refine gate_callee (f := 37) rfl ?_); refine goesL_ (some 16) rfl rfl Try.func37 (by kernel_rfl) rfl #[.slice A0 l0.length c0, .int .i64 a1, .int .i64 a2] rfl (by (try simp only [List.map_toArray, List.map_cons, List.map_nil]); first | done | rfl | (simp only [List.length_drop, List.length_take]; rfl)) ?_; (with_reducible refine (calamusref02_U.calls k _ _ l0 a1 a2 t205 t206 _ ?side1 ?side2 A4.out).mono ?_); (case side1 => repeat (first | exact HR0.out | (with_reducible refine Kd.C_alloc ?_ _) | (with_reducible refine Kd.C_drewN ?_ _) | (with_reducible refine Kd.C_drew ?_))); (case side2 => exact HC0.out); rintro e w' ⟨rfl, ⟨nd, rfl⟩⟩; refine ⟨_, rfl, ?_⟩))
    go_loopg [10, 11] k (fun kq v10 v11 w' => ∃ (x10_1 : Int) (x11_1 : Int), v10 = .int .i64 x10_1 ∧ v11 = .int .i64 x11_1 ∧ Aside0 (calamusref02_S.l0 kq a2 t205 x10_1 x11_1 = some (r1, r2)) ∧ Aside0 (kq ≤ k) ∧ Drawn0 w w')
    case atStart => exact ⟨(1), (0), (by first | rfl | (simp; done) | (simp [*]; done)), (by first | rfl | (simp; done) | (simp [*]; done)), H', ⟨Nat.le_refl _⟩, by repeat (first | exact Drawn0.refl _ | apply Drawn0.step)⟩
    case round =>
      clear H'
      try clear p2
      try clear c3
      try clear c5
      try clear c5b0
      try clear c5b1
      obtain ⟨x10_1, x11_1, rfl, rfl, HA, HK1, ⟨m1, rfl⟩⟩ := hrel
      cases gk with
      | zero => exact absurd HA.out (by simp [calamusref02_S.l0])
      | succ k1 =>
        have H := HA.out
        clear HA
        simp only [calamusref02_S.l0] at H
        by_cases c6 : x11_1 < a2
        · rw [if_pos c6] at H
          have c6b0 : decide (x11_1 < a2) = true := decide_eq_true c6
          clear c6
          have H' := Aside0.mk H
          clear H
          go_wp2
          go_roundg k1
          case measure => have := HK1.out; omega
          case rel => exact ⟨(wrap64 (x10_1 * 256)), (wrap64 (x11_1 + 1)), (by first | rfl | (simp; done) | (simp [*]; done)), (by first | rfl | (simp; done) | (simp [*]; done)), H', ⟨by have := HK1.out; omega⟩, by repeat (first | exact Drawn0.refl _ | apply Drawn0.step)⟩
        · rw [if_neg c6] at H
          have c6b0 : decide (x11_1 < a2) = false := decide_eq_false c6
          clear c6
          by_cases c7 : (wrap64 (2 * t205)) ≥ x10_1
          · rw [if_pos c7] at H
            have c7b0 : decide (x10_1 ≤ (wrap64 (2 * t205))) = true := decide_eq_true c7
            clear c7
            simp only [Option.some.injEq, Prod.mk.injEq] at H
            obtain ⟨rfl, rfl⟩ := H
            go_wp2
            go_ret2
            exact ⟨by first | rfl | (simp; done) | (simp [*]; done), by repeat (first | exact Drawn0.refl _ | apply Drawn0.step)⟩
          · rw [if_neg c7] at H
            have c7b0 : decide (x10_1 ≤ (wrap64 (2 * t205))) = false := decide_eq_false c7
            clear c7
            simp only [Option.some.injEq, Prod.mk.injEq] at H
            obtain ⟨rfl, rfl⟩ := H
            go_wp2
            go_ret2
            exact ⟨by first | rfl | (simp; done) | (simp [*]; done), by repeat (first | exact Drawn0.refl _ | apply Drawn0.step)⟩
  · rw [if_neg c5] at H
    have c5b0 : (t206 == 0) = false := beq_eq_false_iff_ne.mpr c5
    have c5b1 : (t206 != 0) = true := bne_iff_ne.mpr c5
    simp only [Option.some.injEq, Prod.mk.injEq] at H
    obtain ⟨rfl, rfl⟩ := H
    go_enter Try.func39, Try.ntmps39
    go_wp2_with (first | ((with_reducible refine gate_callee (f := 37) rfl ?_); refine goesL_ (some 16) rfl rfl Try.func37 (by kernel_rfl) rfl #[.slice A0 l0.length c0, .int .i64 a1, .int .i64 a2] rfl (by (try simp only [List.map_toArray, List.map_cons, List.map_nil]); first | done | rfl | (simp only [List.length_drop, List.length_take]; rfl)) ?_; (with_reducible refine (calamusref02_U.calls k _ _ l0 a1 a2 t205 t206 _ ?side1 ?side2 A4.out).mono ?_); (case side1 => repeat (first | exact HR0.out | (with_reducible refine Kd.C_alloc ?_ _) | (with_reducible refine Kd.C_drewN ?_ _) | (with_reducible refine Kd.C_drew ?_))); (case side2 => exact HC0.out); rintro e w' ⟨rfl, ⟨nd, rfl⟩⟩; refine ⟨_, rfl, ?_⟩))
    go_ret2
    exact ⟨by first | rfl | (simp; done) | (simp [*]; done), by repeat (first | exact Drawn0.refl _ | apply Drawn0.step)⟩

end Go.Proofs.Ytcclmaicdmogjaa.P

-- Written by wip/pr.py over the kit's print
namespace Go.Proofs.Ytcclmaicdmogjaa.P
open Go.RowKit Go.Proofs.YtcclmaicdmogjaaW.PrintWords Go.Proofs.YtcclmaicdmogjaaW.PrintLast Go.Proofs.YtcclmaicdmogjaaW.PrintMore
attribute [local go_sem] max2_int min2_int max_two min_two max_three min_three max_four min_four   -- for this text's walks alone
set_option linter.unusedVariables false
set_option linter.unusedSimpArgs false

/-! ### calamusref02_Copy: function 26 -/
def calamusref02_Copy.f (l0 : List Int) : Option (List Int) := (some (([] : List Int) : List Int)).bind fun y108 => (if y108.length + l0.length < 140737488355328 then (some (y108 ++ l0)) else (none))
set_option maxHeartbeats 8000000 in
set_option maxRecDepth 100000 in
theorem calamusref02_Copy.calls (A0 : Option Addr) (c0 : Nat) (l0 : List Int) (r : List Int) (w : World) (hr0 : Kd.C (Kd.int .u8) w A0 l0.length l0) (hc0 : l0.length ≤ c0) (h : calamusref02_Copy.f l0 = some r) :
    Calls Try.prog 26 #[.slice A0 l0.length c0] w fun e w' => ∃ v0_ : Value, e = .returned (v0_) ∧ Kd.R (Kd.int .u8) 5 w' w.heap.size (fun _ => True) v0_ r ∧ Below w.heap.size w w' := by
  have HR0 := Aside0.mk hr0
  have HC0 := Aside0.mk hc0
  clear hr0 hc0
  have HB := Aside0.mk (Below.refl w.heap.size w)
  have H : ((some (([] : List Int) : List Int)).bind fun y108 => (if y108.length + l0.length < 140737488355328 then (some (y108 ++ l0)) else (none))) = some r := h
  clear h
  obtain ⟨y108, hy108⟩ : ∃ y_ : List Int, y_ = (([] : List Int)) := ⟨_, rfl⟩
  replace H : (if y108.length + l0.length < 140737488355328 then (some (y108 ++ l0)) else (none)) = some r := by first | (rw [hy108]; with_reducible exact H) | (have H2_ := (Option.bind_some _ _).symm.trans H; rw [hy108]; with_reducible exact H2_) | (have H2_ := (Option.bind_some _ _).symm.trans H; with_reducible exact H2_) | with_reducible exact H | (rw [hy108]; exact H) | exact H
  have Ny108 := Aside0.mk hy108
  clear hy108
  by_cases c2 : y108.length + l0.length < 140737488355328
  · rw [if_pos c2] at H
    have LMc2 := Aside0.mk c2
    clear c2
    obtain ⟨y111, hy111⟩ : ∃ y_ : List Int, y_ = (y108 ++ l0) := ⟨_, rfl⟩
    replace H : (some y111) = some r := by first | (rw [hy111]; with_reducible exact H) | (have H2_ := (Option.bind_some _ _).symm.trans H; rw [hy111]; with_reducible exact H2_) | (have H2_ := (Option.bind_some _ _).symm.trans H; with_reducible exact H2_) | with_reducible exact H | (rw [hy111]; exact H) | exact H
    have Ny111 := Aside0.mk hy111
    clear hy111
    obtain rfl := Option.some.inj H
    go_enter Try.func26, Try.ntmps26
    go_wp2_with (first | ((with_reducible refine gate_dst (N := 3) rfl ?_); refine Kd.R_lit (Kd.int .u8) _ 5 ?hg (N := 3) ?hd (xs := ([] : List Int)) (inner := []) (ok := fun _ => True) (okp := fun _ => True) ?hr ?hp (fun _ hk => hk) trivial (Below.refl _ _) (Nat.le_refl _) (by simp) ?_; (case hd => rfl); (case hg => rfl); (case hr => first | (go_simp; done) | (go_simp; rfl)); (case hp => exact (Reps.none _ _)); intro v109 w3 ho4 hb hg_ hnew_; clear hg_ hnew_; (first | rw [← Ny108.out] at ho4 | (simp only [Int.reduceToNat] at ho4; rw [← Ny108.out] at ho4)); have n0_ := Aside0.mk (Kd.R_lower ho4 (below_size (by repeat (first | (with_reducible first | exact HB.out | apply below_alloc | apply pw_below_drewN | apply below_drew1) | exact HB.out)))); have n1_ := Aside0.mk (below_step (by repeat (first | (with_reducible first | exact HB.out | apply below_alloc | apply pw_below_drewN | apply below_drew1) | exact HB.out)) hb); clear HB; have HO110 := n0_; have HB := n1_; clear n0_ n1_; clear hb ho4) | ((with_reducible refine gate_builtin (b := .append) (xs := #[.tmp 3, .tmp 4]) rfl ?_); at_builtin; refine Kd.R_append_rows (Kd.int .u8) (w0 := w) w.heap.size rfl (.tmp 3) (.tmp 4) 23 5 (.int .u8 0) 1 rfl Try.underlying23 info5 rfl (by decide) (by omega) v109 y108 l0 _ _ _ (fun _ => True) (fun _ => False) rfl rfl ?aO ?aR (fun _ _ h => h) (fun _ h => h.elim) ?aF ?aB ?aS ?aL ?_; (case aR => repeat (first | exact (Kd.C_below HR0.out HB.out) | (with_reducible refine Kd.C_alloc ?_ _) | (with_reducible refine Kd.C_drewN ?_ _) | (with_reducible refine Kd.C_drew ?_))); (case aB => exact (by repeat (first | (with_reducible first | exact HB.out | apply below_alloc | apply pw_below_drewN | apply below_drew1) | exact HB.out))); (case aF => exact (fun _ _ => trivial)); (case aO => exact (by (with_reducible repeat (first | apply Kd.R_alloc | apply Kd.R_drewN | apply Kd.R_drew)); exact HO110.out)); (case aS => exact (below_size (by repeat (first | (with_reducible first | exact HB.out | apply below_alloc | apply pw_below_drewN | apply below_drew1) | exact HB.out)))); (case aL => have := LMc2.out; omega); intro v112 w5 ho hb hg hat; rw [← Ny111.out] at ho; have n0_ := Aside0.mk (hb); have n1_ := Aside0.mk (ho); clear HB; clear HO110; have HB := n0_; have HO113 := n1_; clear n0_ n1_; clear ho hb hg hat))
    go_ret
    exact ⟨_, by first | rfl | (simp [errW_none, errW_some] <;> rfl) | (simp [*, errW_none, errW_some] <;> rfl), by (with_reducible repeat (first | apply Kd.R_alloc | apply Kd.R_drewN | apply Kd.R_drew)); exact HO113.out, by repeat (first | (with_reducible first | exact HB.out | apply below_alloc | apply pw_below_drewN | apply below_drew1) | exact HB.out)⟩
  · rw [if_neg c2] at H
    exact absurd H (by simp)

end Go.Proofs.Ytcclmaicdmogjaa.P

namespace Go.Proofs.Ytcclmaicdmogjaa.P
open Go.RowKit Go.Proofs.YtcclmaicdmogjaaW.PrintWords Go.Proofs.YtcclmaicdmogjaaW.PrintLast Go.Proofs.YtcclmaicdmogjaaW.PrintMore
set_option linter.unusedVariables false
set_option linter.unusedSimpArgs false

-- USES calamusref02_Copy calamusref02_Same
theorem copy_eq (l : List Int) (h : l.length < 140737488355328) : calamusref02_Copy.f l = some l := by
  unfold calamusref02_Copy.f; simp [h]
theorem same_refl (l : List Int) : calamusref02_Same.f l l = some true := by
  unfold calamusref02_Same.f; simp
theorem bytes_of_wf {l : List Int} (h : ∀ x ∈ l, (Lit.int .u8 x).wf = true) : isBytes l := fun x hx => by
  have := h x hx
  simp [Lit.wf, IntKind.min, IntKind.max, IntKind.bits, IntKind.signed] at this
  omega
theorem isBytes_zeros (n : Nat) : isBytes (List.replicate n 0) := fun x hx => by rw [List.mem_replicate] at hx; omega
theorem isBytes_set {l : List Int} (h : isBytes l) (i : Nat) (v : Int) (hv : 0 ≤ v ∧ v ≤ 255) : isBytes (l.set i v) := fun x hx => by
  rcases List.mem_or_eq_of_mem_set hx with h' | h'
  · exact h x h'
  · omega
theorem wf_u8_out {n : Int} (h : (Lit.int .u8 n).wf = true) : 0 ≤ n ∧ n ≤ 255 := by
  simp [Lit.wf, IntKind.min, IntKind.max, IntKind.bits, IntKind.signed] at h; omega
theorem wf_u16_out {n : Int} (h : (Lit.int .u16 n).wf = true) : 0 ≤ n ∧ n ≤ 65535 := by
  simp [Lit.wf, IntKind.min, IntKind.max, IntKind.bits, IntKind.signed] at h; omega
theorem wf_u32_out {n : Int} (h : (Lit.int .u32 n).wf = true) : 0 ≤ n ∧ n ≤ 4294967295 := by
  simp [Lit.wf, IntKind.min, IntKind.max, IntKind.bits, IntKind.signed] at h; omega
theorem wf_i32_out {n : Int} (h : (Lit.int .i32 n).wf = true) : -2147483648 ≤ n ∧ n ≤ 2147483647 := by
  simp [Lit.wf, IntKind.min, IntKind.max, IntKind.bits, IntKind.signed] at h; omega
theorem wf_i64_out {n : Int} (h : (Lit.int .i64 n).wf = true) : -9223372036854775808 ≤ n ∧ n ≤ 9223372036854775807 := by
  simp [Lit.wf, IntKind.min, IntKind.max, IntKind.bits, IntKind.signed] at h; omega

end Go.Proofs.Ytcclmaicdmogjaa.P

namespace Go.Proofs.Ytcclmaicdmogjaa.P
open Go.RowKit Go.Proofs.YtcclmaicdmogjaaW.PrintWords Go.Proofs.YtcclmaicdmogjaaW.PrintLast Go.Proofs.YtcclmaicdmogjaaW.PrintMore
set_option linter.unusedVariables false
set_option linter.unusedSimpArgs false

-- USES be_U be_S be_Put be_there calamusref02_U calamusref02_S calamusref02_There calamusref02_Put
-- NEEDS gen
theorem there_eq (l0 : List Int) (a1 a2 : Int) (hm : l0.length ≤ 9223372036854775807) (h1 : inI a1) (h2 : inI a2) : be_there.f l0 a1 a2 = some (decide (0 ≤ a1 ∧ 0 ≤ a2 ∧ a1 + a2 ≤ l0.length)) := by
  unfold inI at h1 h2
  unfold be_there.f
  by_cases c1 : a1 ≥ 0
  · rw [if_pos c1]
    by_cases c2 : a2 ≥ 0
    · rw [if_pos c2]
      by_cases c3 : a1 ≤ (l0.length : Int)
      · rw [if_pos c3, IntWalk.wrap64_in _ ⟨by omega, by omega⟩]
        congr 1
        rw [decide_eq_decide]; omega
      · rw [if_neg c3]; simp; omega
    · rw [if_neg c2]; simp; omega
  · rw [if_neg c1]; simp; omega
theorem refthere_eq (l0 : List Int) (a1 a2 : Int) (hm : l0.length ≤ 9223372036854775807) (h1 : inI a1) (h2 : inI a2) : calamusref02_There.f l0 a1 a2 = some (decide (0 ≤ a1 ∧ 0 ≤ a2 ∧ a1 + a2 ≤ l0.length)) := there_eq l0 a1 a2 hm h1 h2
theorem rd_nat (l : List Int) (i : Nat) : rd l (i : Int) = l.getD i 0 := rfl
theorem getD_drop (l : List Int) (a j : Nat) : (l.drop a).getD j 0 = l.getD (a + j) 0 := by simp [List.getD_eq_getElem?_getD, List.getElem?_drop]
theorem refU_loop (l : List Int) (hb : isBytes l) (hm : l.length ≤ 4611686018427387904) (a w : Nat) (hw : w ≤ 4) (hf : a + w ≤ l.length) (d : Nat) : ∀ (j k : Nat), j + d = w → d < k →
    calamusref02_U.l0 k l (a : Int) (w : Int) (pre (l.drop a) j) (((a + j : Nat)) : Int) = some (pre (l.drop a) w, 0) := by
  induction d with
  | zero =>
    intro j k hj hk
    obtain ⟨k, rfl⟩ : ∃ m, k = m + 1 := ⟨k - 1, by omega⟩
    obtain rfl : j = w := by omega
    simp only [calamusref02_U.l0]
    rw [IntWalk.wrap64_in _ ⟨by omega, by omega⟩, if_neg (by omega)]
  | succ d ih =>
    intro j k hj hk
    obtain ⟨k, rfl⟩ : ∃ m, k = m + 1 := ⟨k - 1, by omega⟩
    simp only [calamusref02_U.l0]
    have hp := pre_bd (l.drop a) (hb.drop a) j (by rw [List.length_drop]; omega)
    have h256 : (256 : Int) ^ j ≤ 256 ^ 3 := by
      have : j = 0 ∨ j = 1 ∨ j = 2 ∨ j = 3 := by omega
      rcases this with rfl | rfl | rfl | rfl <;> decide
    have hg := hb.get (a + j)
    rw [IntWalk.wrap64_in ((a : Int) + w) ⟨by omega, by omega⟩, if_pos (by omega), if_pos (by omega), if_pos (by omega), rd_nat]
    rw [IntWalk.wrap64_in (256 * _) ⟨by omega, by omega⟩, IntWalk.wrap64_in (l.getD (a + j) 0) ⟨by omega, by omega⟩, IntWalk.wrap64_in _ ⟨by omega, by omega⟩, IntWalk.wrap64_in _ ⟨by omega, by omega⟩]
    have := ih (j + 1) k (by omega) (by omega)
    rw [← this, pre_succ _ _ (by rw [List.length_drop]; omega), getD_drop, show ((a + (j + 1) : Nat) : Int) = ((a + j : Nat) : Int) + 1 by omega, Int.mul_comm 256]
theorem refU_eq (l : List Int) (hb : isBytes l) (hm : l.length ≤ 4611686018427387904) (a1 a2 : Int) (h1 : inI a1) (h2 : inI a2) (k : Nat) (hk : 8 ≤ k) : calamusref02_U.f k l a1 a2 = be_U.f l a1 a2 := by
  unfold be_U.f calamusref02_U.f
  rw [if_pos (show isBytes l ∧ inI a1 ∧ inI a2 from ⟨hb, h1, h2⟩)]
  obtain ⟨k, rfl⟩ : ∃ m, k = m + 1 := ⟨k - 1, by omega⟩
  simp only [calamusref02_U.j0]
  by_cases c1 : a2 < 1
  · rw [if_pos c1, if_pos (show a2 < 1 ∨ a2 > 4 from .inl c1)]; rfl
  · rw [if_neg c1]
    by_cases c2 : a2 > 4
    · rw [if_pos (show decide (a2 > 4) = true by simpa using c2), if_pos (show a2 < 1 ∨ a2 > 4 from .inr c2)]
    · rw [if_neg (show ¬ decide (a2 > 4) = true by simpa using c2), if_neg (show ¬ (a2 < 1 ∨ a2 > 4) by omega), refthere_eq l a1 a2 (by omega) h1 h2]
      simp only [Option.bind_some]
      by_cases c3 : 0 ≤ a1 ∧ a1 + a2 ≤ l.length
      · rw [if_pos (decide_eq_true (show 0 ≤ a1 ∧ 0 ≤ a2 ∧ a1 + a2 ≤ (l.length : Int) by omega)), if_pos c3]
        obtain ⟨a, rfl⟩ := Int.eq_ofNat_of_zero_le c3.1
        obtain ⟨w, rfl⟩ := Int.eq_ofNat_of_zero_le (show 0 ≤ a2 by omega)
        have := refU_loop l hb hm a w (by omega) (by omega) w 0 k (by omega) (by omega)
        rw [pre_zero, Nat.add_zero] at this
        exact this
      · rw [if_neg (show ¬ decide (0 ≤ a1 ∧ 0 ≤ a2 ∧ a1 + a2 ≤ (l.length : Int)) = true by simp; omega), if_neg c3]
/-- A number of w bytes, with its sign. -/
def sgnB (n : Int) (w : Nat) : Int := if 2 * n ≥ 256 ^ w then n - 256 ^ w else n
theorem shifts_eq (n w : Int) (hw : w = 1 ∨ w = 2 ∨ w = 3 ∨ w = 4) (h0 : 0 ≤ n) (h1 : n < 256 ^ w.toNat) : shr .i64 (shl .i64 n (wrap64 (64 - (wrap64 (8 * w))))) (wrap64 (64 - (wrap64 (8 * w)))) = sgnB n w.toNat := by
  have hW : ∀ x : Int, -100 ≤ x → x ≤ 100 → wrap64 x = x := fun x h1 h2 => IntWalk.wrap64_in x ⟨by omega, by omega⟩
  rcases hw with rfl | rfl | rfl | rfl <;> (rw [hW (8 * _) (by omega) (by omega), hW (64 - 8 * _) (by omega) (by omega)]; unfold shr shl sgnB; rw [IntKind.wrap_i64]; simp [IntKind.bits] at *; (repeat' split) <;> omega)
theorem beU_eq (l : List Int) (hb : isBytes l) (a1 a2 : Int) (h1 : inI a1) (h2 : inI a2) : be_U.f l a1 a2 = (if a2 < 1 ∨ a2 > 4 then some (0, 2) else if 0 ≤ a1 ∧ a1 + a2 ≤ l.length then some (pre (l.drop a1.toNat) a2.toNat, 0) else some (0, 3)) := by
  unfold be_U.f; rw [if_pos (show isBytes l ∧ inI a1 ∧ inI a2 from ⟨hb, h1, h2⟩)]
theorem pre_range (l : List Int) (hb : isBytes l) (a w : Int) (h0 : 0 ≤ a) (hw : 1 ≤ w) (hf : a + w ≤ l.length) : 0 ≤ pre (l.drop a.toNat) w.toNat ∧ pre (l.drop a.toNat) w.toNat < 256 ^ w.toNat :=
  pre_bd _ (hb.drop _) _ (by rw [List.length_drop]; omega)
theorem beS_eq (l : List Int) (hb : isBytes l) (a1 a2 : Int) (h1 : inI a1) (h2 : inI a2) : be_S.f l a1 a2 = (if a2 < 1 ∨ a2 > 4 then some (0, 2) else if 0 ≤ a1 ∧ a1 + a2 ≤ l.length then some (sgnB (pre (l.drop a1.toNat) a2.toNat) a2.toNat, 0) else some (0, 3)) := by
  unfold be_S.f
  rw [beU_eq l hb a1 a2 h1 h2]
  by_cases c1 : a2 < 1 ∨ a2 > 4
  · rw [if_pos c1, if_pos c1]; simp
  · rw [if_neg c1, if_neg c1]
    by_cases c2 : 0 ≤ a1 ∧ a1 + a2 ≤ l.length
    · rw [if_pos c2, if_pos c2]
      have hp := pre_range l hb a1 a2 c2.1 (by omega) c2.2
      have hw : a2 = 1 ∨ a2 = 2 ∨ a2 = 3 ∨ a2 = 4 := by omega
      simp only [Option.bind_some, if_true]
      rw [shifts_eq _ a2 hw hp.1 hp.2, IntWalk.wrap64_in (8 * a2) ⟨by omega, by omega⟩, IntWalk.wrap64_in _ ⟨by omega, by omega⟩, if_pos (by omega)]
    · rw [if_neg c2, if_neg c2]; simp
theorem refS_loop (w : Nat) (n : Int) (hw : w ≤ 4) (h0 : 0 ≤ n) (h1 : n < 256 ^ w) (d : Nat) : ∀ (i k : Nat), i + d = w → d < k → calamusref02_S.l0 k (w : Int) n (256 ^ i) (i : Int) = some (sgnB n w, 0) := by
  have hb4 : ∀ i : Nat, i ≤ 4 → (256 : Int) ^ i ≤ 4294967296 ∧ (1 : Int) ≤ 256 ^ i := by
    intro i hi
    have : i = 0 ∨ i = 1 ∨ i = 2 ∨ i = 3 ∨ i = 4 := by omega
    rcases this with rfl | rfl | rfl | rfl | rfl <;> decide
  induction d with
  | zero =>
    intro i k hi hk
    obtain ⟨k, rfl⟩ : ∃ m, k = m + 1 := ⟨k - 1, by omega⟩
    obtain rfl : i = w := by omega
    have := hb4 i hw
    simp only [calamusref02_S.l0]
    rw [if_neg (by omega), IntWalk.wrap64_in (2 * n) ⟨by omega, by omega⟩, IntWalk.wrap64_in (n - _) ⟨by omega, by omega⟩]
    unfold sgnB
    split <;> rfl
  | succ d ih =>
    intro i k hi hk
    obtain ⟨k, rfl⟩ : ∃ m, k = m + 1 := ⟨k - 1, by omega⟩
    have := hb4 i (by omega)
    simp only [calamusref02_S.l0]
    rw [if_pos (by omega), IntWalk.wrap64_in (_ * 256) ⟨by omega, by omega⟩, IntWalk.wrap64_in _ ⟨by omega, by omega⟩]
    exact ih (i + 1) k (by omega) (by omega)
theorem refS_eq (l : List Int) (hb : isBytes l) (hm : l.length ≤ 4611686018427387904) (a1 a2 : Int) (h1 : inI a1) (h2 : inI a2) (k : Nat) (hk : 8 ≤ k) : calamusref02_S.f k l a1 a2 = be_S.f l a1 a2 := by
  unfold calamusref02_S.f
  rw [refU_eq l hb hm a1 a2 h1 h2 k hk, beU_eq l hb a1 a2 h1 h2, beS_eq l hb a1 a2 h1 h2]
  by_cases c1 : a2 < 1 ∨ a2 > 4
  · rw [if_pos c1, if_pos c1]; simp
  · rw [if_neg c1, if_neg c1]
    by_cases c2 : 0 ≤ a1 ∧ a1 + a2 ≤ l.length
    · rw [if_pos c2, if_pos c2]
      have hp := pre_range l hb a1 a2 c2.1 (by omega) c2.2
      obtain ⟨w, rfl⟩ := Int.eq_ofNat_of_zero_le (show 0 ≤ a2 by omega)
      simp only [Option.bind_some, if_true]
      exact refS_loop w _ (by omega) hp.1 hp.2 w 0 k (by omega) (by omega)
    · rw [if_neg c2, if_neg c2]; simp
theorem widthB_mx (a : Int) : mx 0 (mn a 8) = (widthB a : Int) ∧ widthB a ≤ 8 := by
  unfold mx mn widthB
  (repeat' split) <;> omega
theorem bePut_eq (n a : Int) (h : inI n) (h2 : inI a) : be_Put.f n a = some (putB n (widthB a)) := by
  unfold be_Put.f; rw [if_pos (show inI n ∧ inI a from ⟨h, h2⟩)]
theorem emod_pow (n : Int) (k : Nat) : (n % 18446744073709551616) / 256 ^ k % 256 = n / 256 ^ k % 256 ∨ 8 ≤ k := by
  have : k = 0 ∨ k = 1 ∨ k = 2 ∨ k = 3 ∨ k = 4 ∨ k = 5 ∨ k = 6 ∨ k = 7 ∨ 8 ≤ k := by omega
  rcases this with rfl | rfl | rfl | rfl | rfl | rfl | rfl | rfl | h
  all_goals first | exact .inr h | (refine .inl ?_; simp; try omega)
theorem refPut_loop (n : Int) (W : Nat) (hW : W ≤ 8) (d : Nat) : ∀ (k m : Nat), d + m = W → d < k →
    calamusref02_Put.l0 k (List.replicate d 0 ++ putB n m) (n % 18446744073709551616 / 256 ^ m) ((d : Int) - 1) = some (putB n W) := by
  induction d with
  | zero =>
    intro k m hm hk
    obtain ⟨k, rfl⟩ : ∃ j, k = j + 1 := ⟨k - 1, by omega⟩
    obtain rfl : m = W := by omega
    simp only [calamusref02_Put.l0]
    rw [if_neg (by omega)]
    simp
  | succ d ih =>
    intro k m hm hk
    obtain ⟨k, rfl⟩ : ∃ j, k = j + 1 := ⟨k - 1, by omega⟩
    have hx0 : 0 ≤ n % 18446744073709551616 / 256 ^ m := Int.ediv_nonneg (by omega) (Int.pow_nonneg (by decide))
    have hx1 : n % 18446744073709551616 / 256 ^ m ≤ n % 18446744073709551616 := Int.ediv_le_self _ (by omega)
    simp only [calamusref02_Put.l0]
    rw [if_pos (by omega), if_pos (by omega), if_pos (by simp [putB_length]; omega), Int.tmod_eq_emod_of_nonneg hx0, Int.tdiv_eq_ediv_of_nonneg hx0, IntWalk.u64_in _ ⟨by omega, by omega⟩, IntWalk.wrap64_in _ ⟨by omega, by omega⟩]
    have e1 : n % 18446744073709551616 / 256 ^ m / 256 = n % 18446744073709551616 / 256 ^ (m + 1) := by rw [Int.pow_succ, Int.ediv_ediv_of_nonneg (Int.pow_nonneg (by decide))]
    have e2 : n % 18446744073709551616 / 256 ^ m % 256 % 256 = n / 256 ^ m % 256 := by
      rcases emod_pow n m with h | h
      · omega
      · omega
    have e3 := put_step n (d + 1 + m) m (by omega)
    rw [show d + 1 + m - m = d + 1 by omega, show d + 1 + m - 1 - m = d by omega, show d + 1 + m - (m + 1) = d by omega] at e3
    rw [e1, e2, show (((d + 1 : Nat) : Int) - 1).toNat = d by omega, e3, show ((d + 1 : Nat) : Int) - 1 - 1 = (d : Int) - 1 by omega]
    exact ih k (m + 1) (by omega) (by omega)
theorem refPut_eq (n a : Int) (h : inI n) (k : Nat) (hk : 9 ≤ k) : calamusref02_Put.f k n a = some (putB n (widthB a)) := by
  obtain ⟨h1, h2⟩ := widthB_mx a
  unfold calamusref02_Put.f
  rw [h1, if_pos (by omega), if_pos (by omega)]
  have := refPut_loop n (widthB a) h2 (widthB a) k 0 (by omega) (by omega)
  rw [show IntKind.u64.wrap n = n % 18446744073709551616 by simp [IntKind.wrap, IntKind.bits, IntKind.signed]]
  simpa [putB] using this

end Go.Proofs.Ytcclmaicdmogjaa.P

/- what be.Lay answers has the new bytes at the place and the old ones before and behind, with the length that was; or it answers no bytes exactly where they do not lie within. -/
namespace Go.Proofs.Ytcclmaicdmogjaa.P
open Go.RowKit Go.Proofs.YtcclmaicdmogjaaW.PrintWords Go.Proofs.YtcclmaicdmogjaaW.PrintLast Go.Proofs.YtcclmaicdmogjaaW.PrintMore
set_option linter.unusedVariables false
set_option linter.unusedSimpArgs false

theorem beCut_eq (l : List Int) (hm : l.length < 140737488355328) (a n : Int) (ha : inI a) (hn : inI n) : be_Cut.f l a n = if 0 ≤ a ∧ 0 ≤ n ∧ a + n ≤ l.length then some ((l.take (a + n).toNat).drop a.toNat, 0) else some ([], 3) := by
  unfold be_Cut.f
  rw [there_eq l a n (by omega) ha hn]
  simp only [Option.bind_some]
  by_cases h : 0 ≤ a ∧ 0 ≤ n ∧ a + n ≤ l.length
  · rw [if_pos (decide_eq_true h), if_pos h, IntWalk.wrap64_in (a + n) ⟨by omega, by omega⟩, if_pos h.1, if_pos (by omega), if_pos h.2.2, if_pos]
    · rfl
    · simp only [List.length_nil, List.length_drop, List.length_take]; omega
  · rw [if_neg (by simpa using h), if_neg h]

end Go.Proofs.Ytcclmaicdmogjaa.P
namespace Go.Proofs.Ytcclmaicdmogjaa.Pure
open Go.RowKit Go.Proofs.Ytcclmaicdmogjaa.P Go.Proofs.YtcclmaicdmogjaaW.PrintWords Go.Proofs.YtcclmaicdmogjaaW.PrintLast Go.Proofs.YtcclmaicdmogjaaW.PrintMore
theorem BeLaid : calamuslaw02_BeLaid.Pure := by
  intro l0 l1 a hm hl hw hm1 hl1 hw1 ha
  have ha' : inI a := wf_i64_out ha
  have hal : calamuslaw02_alive.f = some true := by decide +kernel
  unfold calamuslaw02_BeLaid.f
  rw [hal]
  simp only [Option.bind_some, if_true]
  have hlay : be_Lay.f l0 a l1 = if 0 ≤ a ∧ a + l1.length ≤ l0.length then some (l0.take a.toNat ++ l1 ++ l0.drop (a.toNat + l1.length), 0) else some ([], 3) := if_pos ⟨by omega, ha'⟩
  by_cases h : 0 ≤ a ∧ a + l1.length ≤ l0.length
  · obtain ⟨h1, h2⟩ := h
    obtain ⟨n, rfl⟩ := Int.eq_ofNat_of_zero_le h1
    have hW : (l0.take n ++ l1 ++ l0.drop (n + l1.length)).length = l0.length := by
      simp only [List.length_append, List.length_take, List.length_drop]; omega
    have ht : (l0.take n).length = n := by rw [List.length_take]; omega
    obtain ⟨W, hWe⟩ : ∃ W, l0.take n ++ l1 ++ l0.drop (n + l1.length) = W := ⟨_, rfl⟩
    rw [hWe] at hW
    have c1 : be_Cut.f W (n : Int) (l1.length : Int) = some (l1, 0) := by
      rw [beCut_eq W (by omega) _ _ ha' ⟨by omega, by omega⟩, if_pos ⟨by omega, by omega, by omega⟩, show ((n : Int) + (l1.length : Int)).toNat = n + l1.length by omega, show ((n : Nat) : Int).toNat = n from rfl, ← hWe]
      congr 1
      rw [List.take_append_of_le_length (by rw [List.length_append, ht]; exact Nat.le_refl _), List.take_of_length_le (by rw [List.length_append, ht]; exact Nat.le_refl _), List.drop_append_of_le_length (by omega), List.drop_of_length_le (by omega)]
      rfl
    have c2 : be_Cut.f W 0 (n : Int) = some (l0.take n, 0) := by
      rw [beCut_eq W (by omega) _ _ ⟨by decide, by decide⟩ ha', if_pos ⟨by omega, by omega, by omega⟩, show ((0 : Int) + (n : Int)).toNat = n by omega, ← hWe]
      congr 1
      rw [List.append_assoc, List.take_append_of_le_length (by omega), List.take_of_length_le (by omega)]
      rfl
    have c3 : be_Cut.f W (wrap64 ((n : Int) + (l1.length : Int))) (wrap64 (wrap64 ((l0.length : Int) - (n : Int)) - (l1.length : Int))) = some (l0.drop (n + l1.length), 0) := by
      rw [IntWalk.wrap64_in ((n : Int) + (l1.length : Int)) ⟨by omega, by omega⟩, IntWalk.wrap64_in ((l0.length : Int) - (n : Int)) ⟨by omega, by omega⟩, IntWalk.wrap64_in ((l0.length : Int) - (n : Int) - (l1.length : Int)) ⟨by omega, by omega⟩]
      rw [beCut_eq W (by omega) _ _ ⟨by omega, by omega⟩ ⟨by omega, by omega⟩, if_pos ⟨by omega, by omega, by omega⟩, show ((n : Int) + (l1.length : Int) + ((l0.length : Int) - (n : Int) - (l1.length : Int))).toNat = l0.length by omega, show ((n : Int) + (l1.length : Int)).toNat = n + l1.length by omega]
      congr 1
      rw [List.take_of_length_le (by omega), ← hWe, List.drop_append_of_le_length (by rw [List.length_append, ht]; exact Nat.le_refl _), List.drop_of_length_le (by rw [List.length_append, ht]; exact Nat.le_refl _)]
      rfl
    have hlay2 : be_Lay.f l0 (n : Int) l1 = some (W, 0) := by rw [hlay, if_pos ⟨h1, h2⟩, ← hWe]; rfl
    rw [hlay2, Option.bind_some]
    dsimp only
    rw [if_pos (Eq.refl _), c1, Option.bind_some, c2, Option.bind_some, c3, Option.bind_some]
    dsimp only
    rw [if_pos (Eq.refl _), if_pos (Eq.refl _), if_pos (Eq.refl _), same_refl, Option.bind_some, if_pos (Eq.refl _)]
    rw [if_pos h1, if_pos (by omega), IntWalk.wrap64_in ((n : Int) + (l1.length : Int)) ⟨by omega, by omega⟩, if_pos (by omega), if_pos (by omega), show ((n : Int) + (l1.length : Int)).toNat = n + l1.length by omega, show ((n : Nat) : Int).toNat = n from rfl, same_refl, Option.bind_some, if_pos (Eq.refl _), same_refl, Option.bind_some, if_pos (Eq.refl _), hW, beq_self_eq_true]
  · rw [hlay, if_neg h, Option.bind_some]
    dsimp only
    rw [if_neg (by decide), if_pos (by simp)]
    by_cases h1 : a < 0
    · rw [if_pos h1]
    rw [if_neg h1]
    by_cases h2 : a > (l0.length : Int)
    · rw [if_pos h2]
    rw [if_neg h2, IntWalk.wrap64_in ((l0.length : Int) - a) ⟨by omega, by omega⟩, decide_eq_true (by omega)]
end Go.Proofs.Ytcclmaicdmogjaa.Pure
