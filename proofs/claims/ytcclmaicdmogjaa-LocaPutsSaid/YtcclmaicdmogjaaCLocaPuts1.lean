/- Part 2 of the proof of the law LocaPuts: The law LocaPuts. -/
import Derived.Test.YtcclmaicdmogjaaCLocaPuts0
-- Written by wip/pr.py over the kit's print
namespace Go.Proofs.Ytcclmaicdmogjaa.P
open Go.RowKit Go.Proofs.YtcclmaicdmogjaaW.PrintWords Go.Proofs.YtcclmaicdmogjaaW.PrintLast Go.Proofs.YtcclmaicdmogjaaW.PrintMore
attribute [local go_sem] max2_int min2_int max_two min_two max_three min_three max_four min_four   -- for this text's walks alone
set_option linter.unusedVariables false
set_option linter.unusedSimpArgs false

attribute [local go_sem high] eqA111
/-! ### calamusref06_Same: function 60 -/
def calamusref06_Same.l0 : Nat → List (S111) → List (S111) → Int → Int → Option (Bool)
  | 0, _, _, _, _ => none
  | k + 1, x0, x1, x12, x13 => if x13 < x12 then (if 0 ≤ x13 then (if x13 < (x0.length : Int) then (if x13 < (x1.length : Int) then (if (!(((rd_T111 x0 x13).f0) == ((rd_T111 x1 x13).f0)) || (!(((rd_T111 x0 x13).f1) == ((rd_T111 x1 x13).f1)))) = true then (some false) else (calamusref06_Same.l0 k x0 x1 x12 (wrap64 (x13 + 1)))) else (none)) else (none)) else (none)) else (some true)
def calamusref06_Same.f (k : Nat) (l0 : List (S111)) (l1 : List (S111)) : Option (Bool) := if (l0.length : Int) = (l1.length : Int) then (calamusref06_Same.l0 k l0 l1 (l0.length : Int) 0) else (some false)
theorem calamusref06_Same.mono_l : ∀ k, (∀ y0 y1 y2 y3, LeO (calamusref06_Same.l0 k y0 y1 y2 y3) (calamusref06_Same.l0 (k + 1) y0 y1 y2 y3))
  | 0 => fun _ _ _ _ r h => by simp [calamusref06_Same.l0] at h
  | k + 1 => by
    have ih0 := calamusref06_Same.mono_l k
    · intro y0 y1 y2 y3
      unfold calamusref06_Same.l0
      repeat' first
      | (with_reducible exact ih0 _ _ _ _)
      | (with_reducible exact LeO.refl _)
      | (with_reducible exact LeO.none _)
      | (with_reducible refine LeO.ite ?_ ?_)
      | (with_reducible refine LeO.bind ?_ (fun _ => ?_))
      | exact ih0 _ _ _ _
      | exact LeO.none _
      | refine LeO.ite ?_ ?_
      | refine LeO.bind ?_ (fun _ => ?_)
theorem calamusref06_Same.mono : ∀ a0 a1 k, LeO (calamusref06_Same.f k a0 a1) (calamusref06_Same.f (k + 1) a0 a1) := by
  intro a0 a1 k
  have ih0 := calamusref06_Same.mono_l k
  unfold calamusref06_Same.f
  repeat' first
      | (with_reducible exact ih0 _ _ _ _)
      | (with_reducible exact LeO.refl _)
      | (with_reducible exact LeO.none _)
      | (with_reducible refine LeO.ite ?_ ?_)
      | (with_reducible refine LeO.bind ?_ (fun _ => ?_))
      | exact ih0 _ _ _ _
      | exact LeO.none _
      | refine LeO.ite ?_ ?_
      | refine LeO.bind ?_ (fun _ => ?_)
set_option maxHeartbeats 8000000 in
set_option maxRecDepth 100000 in
theorem calamusref06_Same.calls (k : Nat) (A0 : Option Addr) (c0 : Nat) (l0 : List (S111)) (A1 : Option Addr) (c1 : Nat) (l1 : List (S111)) (r : Bool) (w : World) (hr0 : Kd.C k111 w A0 l0.length l0) (hc0 : l0.length ≤ c0) (hr1 : Kd.C k111 w A1 l1.length l1) (hc1 : l1.length ≤ c1) (h : calamusref06_Same.f k l0 l1 = some r) :
    Calls Try.prog 60 #[.slice A0 l0.length c0, .slice A1 l1.length c1] w fun e w' => e = .returned (.bool r) ∧ Drawn0 w w' := by
  have hu111 := Try.underlying111
  have HR0 := Aside0.mk hr0
  have HC0 := Aside0.mk hc0
  clear hr0 hc0
  have HR1 := Aside0.mk hr1
  have HC1 := Aside0.mk hc1
  clear hr1 hc1
  have H : (if (l0.length : Int) = (l1.length : Int) then (calamusref06_Same.l0 k l0 l1 (l0.length : Int) 0) else (some false)) = some r := h
  clear h
  by_cases c3 : (l0.length : Int) = (l1.length : Int)
  · rw [if_pos c3] at H
    have c3b0 : ((l0.length : Int) == (l1.length : Int)) = true := beq_iff_eq.mpr c3
    have c3b1 : ((l0.length : Int) != (l1.length : Int)) = false := bne_eq_false_iff_eq.mpr c3
    have c3b2 : (l0.length == l1.length) = true := by first | simpa using c3 | (simp at c3 ⊢; omega)
    clear c3
    have H' := Aside0.mk H
    clear H
    go_enter Try.func60, Try.ntmps60
    go_wp2
    repeat (go_quiet (fail); try go_wp2)
    go_loopg [13] k (fun kq v13 w' => ∃ (x13_1 : Int), v13 = .int .i64 x13_1 ∧ Aside0 (calamusref06_Same.l0 kq l0 l1 (l0.length : Int) x13_1 = some r) ∧ Aside0 (kq ≤ k) ∧ Drawn0 w w')
    case atStart => exact ⟨(0), (by first | rfl | (simp; done) | (simp [*]; done)), H', ⟨Nat.le_refl _⟩, by repeat (first | exact Drawn0.refl _ | apply Drawn0.step)⟩
    case round =>
      clear H'
      try clear c1
      try clear p2
      try clear c3
      try clear c3b0
      try clear c3b1
      try clear c3b2
      obtain ⟨x13_1, rfl, HA, HK1, ⟨m1, rfl⟩⟩ := hrel
      cases gk with
      | zero => exact absurd HA.out (by simp [calamusref06_Same.l0])
      | succ k1 =>
        have H := HA.out
        clear HA
        simp only [calamusref06_Same.l0] at H
        by_cases c4 : x13_1 < (l0.length : Int)
        · rw [if_pos c4] at H
          have c4b0 : decide (x13_1 < (l0.length : Int)) = true := decide_eq_true c4
          clear c4
          by_cases c5 : 0 ≤ x13_1
          · rw [if_pos c5] at H
            have c5b0 : decide (0 ≤ x13_1) = true := decide_eq_true c5
            clear c5
            by_cases c6 : x13_1 < (l0.length : Int)
            · rw [if_pos c6] at H
              have c6b0 : decide (x13_1 < (l0.length : Int)) = true := decide_eq_true c6
              clear c6
              by_cases c7 : x13_1 < (l1.length : Int)
              · rw [if_pos c7] at H
                have c7b0 : decide (x13_1 < (l1.length : Int)) = true := decide_eq_true c7
                clear c7
                by_cases c8 : (!(((rd_T111 l0 x13_1).f0) == ((rd_T111 l1 x13_1).f0)) || (!(((rd_T111 l0 x13_1).f1) == ((rd_T111 l1 x13_1).f1)))) = true
                · rw [if_pos c8] at H
                  have c8b0 : (!(((rd_T111 l0 x13_1).f0) == ((rd_T111 l1 x13_1).f0)) || (!(((rd_T111 l0 x13_1).f1) == ((rd_T111 l1 x13_1).f1)))) = true := c8
                  clear c8
                  obtain rfl := Option.some.inj H
                  have p507 : 0 ≤ (x13_1 : Int) := of_decide_eq_true (by first | (with_reducible assumption) | assumption)
                  have q507 : x13_1 < (l0.length : Int) := of_decide_eq_true (by first | (with_reducible assumption) | assumption)
                  obtain ⟨ad507, e507, hx507_0, hx507_1⟩ := at_T111 HR0.out x13_1 p507 q507
                  cases e507
                  replace p507 := eq_true p507
                  replace q507 := eq_true q507
                  have p508 : 0 ≤ (x13_1 : Int) := of_decide_eq_true (by first | (with_reducible assumption) | assumption)
                  have q508 : x13_1 < (l1.length : Int) := of_decide_eq_true (by first | (with_reducible assumption) | assumption)
                  obtain ⟨ad508, e508, hx508_0, hx508_1⟩ := at_T111 HR1.out x13_1 p508 q508
                  cases e508
                  replace p508 := eq_true p508
                  replace q508 := eq_true q508
                  go_wp2
                  repeat (go_quiet (fail); try go_wp2)
                  go_ret
                  exact ⟨by first | rfl | (simp; done) | (simp [*]; done), by repeat (first | exact Drawn0.refl _ | apply Drawn0.step)⟩
                · rw [if_neg c8] at H
                  have c8b0 : (!(((rd_T111 l0 x13_1).f0) == ((rd_T111 l1 x13_1).f0)) || (!(((rd_T111 l0 x13_1).f1) == ((rd_T111 l1 x13_1).f1)))) = false := by simpa using c8
                  clear c8
                  have H' := Aside0.mk H
                  clear H
                  have p507 : 0 ≤ (x13_1 : Int) := of_decide_eq_true (by first | (with_reducible assumption) | assumption)
                  have q507 : x13_1 < (l0.length : Int) := of_decide_eq_true (by first | (with_reducible assumption) | assumption)
                  obtain ⟨ad507, e507, hx507_0, hx507_1⟩ := at_T111 HR0.out x13_1 p507 q507
                  cases e507
                  replace p507 := eq_true p507
                  replace q507 := eq_true q507
                  have p508 : 0 ≤ (x13_1 : Int) := of_decide_eq_true (by first | (with_reducible assumption) | assumption)
                  have q508 : x13_1 < (l1.length : Int) := of_decide_eq_true (by first | (with_reducible assumption) | assumption)
                  obtain ⟨ad508, e508, hx508_0, hx508_1⟩ := at_T111 HR1.out x13_1 p508 q508
                  cases e508
                  replace p508 := eq_true p508
                  replace q508 := eq_true q508
                  go_wp2
                  repeat (go_quiet (fail); try go_wp2)
                  go_roundg k1
                  case measure => have := HK1.out; omega
                  case rel => exact ⟨(wrap64 (x13_1 + 1)), (by first | rfl | (simp; done) | (simp [*]; done)), H', ⟨by have := HK1.out; omega⟩, by repeat (first | exact Drawn0.refl _ | apply Drawn0.step)⟩
              · rw [if_neg c7] at H
                exact absurd H (by simp)
            · rw [if_neg c6] at H
              exact absurd H (by simp)
          · rw [if_neg c5] at H
            exact absurd H (by simp)
        · rw [if_neg c4] at H
          have c4b0 : decide (x13_1 < (l0.length : Int)) = false := decide_eq_false c4
          clear c4
          obtain rfl := Option.some.inj H
          go_wp2
          repeat (go_quiet (fail); try go_wp2)
          go_ret
          exact ⟨by first | rfl | (simp; done) | (simp [*]; done), by repeat (first | exact Drawn0.refl _ | apply Drawn0.step)⟩
  · rw [if_neg c3] at H
    have c3b0 : ((l0.length : Int) == (l1.length : Int)) = false := beq_eq_false_iff_ne.mpr c3
    have c3b1 : ((l0.length : Int) != (l1.length : Int)) = true := bne_iff_ne.mpr c3
    have c3b2 : (l0.length == l1.length) = false := by first | simpa using c3 | (simp at c3 ⊢; omega)
    obtain rfl := Option.some.inj H
    go_enter Try.func60, Try.ntmps60
    go_wp2
    repeat (go_quiet (fail); try go_wp2)
    go_ret
    exact ⟨by first | rfl | (simp; done) | (simp [*]; done), by repeat (first | exact Drawn0.refl _ | apply Drawn0.step)⟩

end Go.Proofs.Ytcclmaicdmogjaa.P

-- Written by wip/pr.py over the kit's print
namespace Go.Proofs.Ytcclmaicdmogjaa.P
open Go.RowKit Go.Proofs.YtcclmaicdmogjaaW.PrintWords Go.Proofs.YtcclmaicdmogjaaW.PrintLast Go.Proofs.YtcclmaicdmogjaaW.PrintMore
attribute [local go_sem] max2_int min2_int max_two min_two max_three min_three max_four min_four   -- for this text's walks alone
set_option linter.unusedVariables false
set_option linter.unusedSimpArgs false

/-! ### loca_PutMetrics: function 61 (by hand) -/
-- FUNC calamus/loca.PutMetrics
-- ROUNDS no
-- MAKES yes
-- INFO uint8
/-- A metric that can be written. -/
def metOK (x : S111) : Prop := (0 ≤ x.f0 ∧ x.f0 ≤ 65535) ∧ (-32768 ≤ x.f1 ∧ x.f1 ≤ 32767)
instance (x : S111) : Decidable (metOK x) := inferInstanceAs (Decidable (_ ∧ _))
def pm1 (x : S111) : Bool := !decide (metOK x)
def pm2 (y : Int) (x : S111) : Bool := x.f0 != y
set_option maxHeartbeats 400000 in
set_option maxRecDepth 100000 in
theorem PutM1_any (x : S111) (h0 : inI x.f0) (h1 : inI x.f1) (w : World) : Calls Try.prog 90 #[.agg #[.int .i64 x.f0, .int .i64 x.f1]] w fun e w' => e = .returned (.bool (pm1 x)) ∧ Below w.heap.size w w' := by
  obtain ⟨a, b⟩ := x
  obtain ⟨h01, h02⟩ := h0
  obtain ⟨h11, h12⟩ := h1
  simp only at *
  have HP := Aside0.mk (show pm1 ⟨a, b⟩ = !decide ((0 ≤ a ∧ a ≤ 65535) ∧ (-32768 ≤ b ∧ b ≤ 32767)) from rfl)
  by_cases ha : 0 ≤ a ∧ a ≤ 65535
  · obtain ⟨ha1, ha2⟩ := ha
    by_cases hb : -32768 ≤ b ∧ b ≤ 32767
    · obtain ⟨hb1, hb2⟩ := hb
      go_enter Try.func90, Try.ntmps90
      go_wp2
      go_ret
      exact ⟨by rw [HP.out]; simp; omega, below_alloc (Below.refl _ _) _⟩
    · have hne : (b != wrap64 (IntKind.i16.wrap b)) = true := by
        rw [bne_iff_ne]
        simp only [IntKind.wrap, IntKind.bits, IntKind.signed, wrap64]
        simp
        split <;> omega
      have hb' : b < -32768 ∨ 32767 < b := by omega
      clear hb
      rcases hb' with hb' | hb'
      all_goals
        go_enter Try.func90, Try.ntmps90
        go_wp2
        go_ret
        exact ⟨by rw [HP.out]; simp; omega, below_alloc (Below.refl _ _) _⟩
  · have hne : (a != wrap64 (IntKind.u16.wrap a)) = true := by
      rw [bne_iff_ne]
      simp only [IntKind.wrap, IntKind.bits, IntKind.signed, wrap64]
      simp
      omega
    have ha' : a < 0 ∨ 65535 < a := by omega
    clear ha
    rcases ha' with ha' | ha'
    all_goals
      go_enter Try.func90, Try.ntmps90
      go_wp2
      go_ret
      exact ⟨by rw [HP.out]; simp; omega, below_alloc (Below.refl _ _) _⟩
set_option maxHeartbeats 400000 in
set_option maxRecDepth 100000 in
theorem PutM2_any (x : S111) (y : Int) (g : Nat) (w : World) (hc : w.cell? ⟨g, 0, none⟩ = some (.int .i64 y)) : Calls Try.prog 91 #[.agg #[.int .i64 x.f0, .int .i64 x.f1], .pointer (some ⟨g, 0, none⟩)] w fun e w' => e = .returned (.bool (pm2 y x)) ∧ Below w.heap.size w w' := by
  obtain ⟨a, b⟩ := x
  have hlt : g < w.heap.size := World.block_lt_of_cell? w _ hc
  have hc' : ∀ o, (w.alloc o).cell? ⟨g, 0, none⟩ = some (.int .i64 y) := fun o => by rw [World.cell?_alloc_lt _ _ _ hlt]; exact hc
  clear hc
  go_enter Try.func91, Try.ntmps91
  go_wp2
  go_ret
  exact ⟨rfl, below_alloc (Below.refl _ _) _⟩
theorem C_atM {w : World} {A : Option Addr} {l : List S111} (h : Kd.C k111 w A l.length l) (i : Nat) (hi : i < l.length) : ∃ ad x, A = some ad ∧ w.cell? (ad.add (i * 2)) = some (.int .i64 x.f0) ∧ w.cell? ⟨(ad.add (i * 2)).block, (ad.add (i * 2)).off + 1, none⟩ = some (.int .i64 x.f1) ∧ Aside0 (l.getD i z111 = x) := by
  obtain ⟨ad, e, h0, h1⟩ := at_T111 h (i : Int) (by omega) (by omega)
  exact ⟨ad, l.getD i z111, e, h0, h1, ⟨rfl⟩⟩
set_option maxHeartbeats 8000000 in
set_option maxRecDepth 100000 in
theorem IndexFunc_m1 (A0 : Option Addr) (c0 : Nat) (l0 : List S111) (y_ : Int) (g_ : Nat) (w : World) (hr0 : Kd.C k111 w A0 l0.length l0) (hx_ : ∀ x ∈ l0, inI x.f0 ∧ inI x.f1) :
    Calls Try.prog 110 #[.slice A0 l0.length c0, .func (.func 90) #[] #[]] w fun e w' => e = .returned (.int .i64 (idxFrom (pm1) l0 0)) ∧ Below w.heap.size w w' := by
  have HC := Aside0.mk hr0
  have hmax : l0.length ≤ 9223372036854775807 := Kd.C_max hr0
  have HX := Aside0.mk hx_
  have HB0 := Aside0.mk (Below.refl w.heap.size w)
  clear hr0 hx_
  go_enter Try.func110, Try.ntmps110
  go_wp2
  go_loopg [4, 8] l0.length (fun kq v4 v8 w' => ∃ (k : Nat), v4 = .int .i64 0 ∧ v8 = .int .i64 (k : Int) ∧ k ≤ l0.length ∧ Aside0 (l0.length - k = kq) ∧ Aside0 (idxFrom (pm1) (l0.drop k) k = idxFrom (pm1) l0 0) ∧ Aside0 (Below w.heap.size w w'))
  case atStart => exact ⟨0, rfl, rfl, by omega, ⟨by omega⟩, ⟨by simp⟩, HB0⟩
  case round =>
    obtain ⟨k, rfl, rfl, hk, HK, HI, HB⟩ := hrel
    by_cases hlt : k < l0.length
    · have hC := Kd.C_below HC.out HB.out
      obtain ⟨ad, x, hA, hx0, hx1, HY⟩ := C_atM hC k hlt
      subst hA
      have HM := Aside0.mk (show x ∈ l0 by rw [← HY.out, List.getD_eq_getElem?_getD, List.getElem?_eq_getElem hlt]; exact List.getElem_mem hlt)
      have HD := Aside0.mk (show idxFrom (pm1) (l0.drop k) k = if (pm1) x then (k : Int) else idxFrom (pm1) (l0.drop (k + 1)) ((k : Int) + 1) by
        rw [List.drop_eq_getElem_cons hlt]
        simp only [idxFrom]
        rw [show l0[k] = x by rw [← HY.out, List.getD_eq_getElem?_getD, List.getElem?_eq_getElem hlt]; rfl])
      clear hC
      cases hp : (pm1) x with
      | true =>
        have HP := Aside0.mk hp
        clear hp
        go_wp2_with (go_at_call 90; refine (PutM1_any x (HX.out x HM.out).1 (HX.out x HM.out).2 _).mono ?_; rw [HP.out]; rintro e w' ⟨rfl, hb⟩; have HB2 := Aside0.mk (below_step HB.out hb); clear hb)
        go_ret
        exact ⟨ret_int (by rw [← HI.out, HD.out, HP.out]; rfl), HB2.out⟩
      | false =>
        have HP := Aside0.mk hp
        clear hp
        go_wp2_with (go_at_call 90; refine (PutM1_any x (HX.out x HM.out).1 (HX.out x HM.out).2 _).mono ?_; rw [HP.out]; rintro e w' ⟨rfl, hb⟩; have HB2 := Aside0.mk (below_step HB.out hb); clear hb)
        go_roundg (l0.length - (k + 1))
        case measure => have := HK.out; omega
        case rel => exact ⟨k + 1, rfl, by go_num, by omega, ⟨rfl⟩, ⟨by rw [← HI.out, HD.out, HP.out]; simp⟩, HB2⟩
    · go_wp2
      go_ret
      refine ⟨ret_int ?_, HB.out⟩
      rw [← HI.out, List.drop_eq_nil_of_le (by omega)]
      rfl
set_option maxHeartbeats 400000 in
theorem ContainsFunc_m1 (A0 : Option Addr) (c0 : Nat) (l0 : List S111) (y_ : Int) (g_ : Nat) (w : World) (hr0 : Kd.C k111 w A0 l0.length l0) (hx_ : ∀ x ∈ l0, inI x.f0 ∧ inI x.f1) :
    Calls Try.prog 89 #[.slice A0 l0.length c0, .func (.func 90) #[] #[]] w fun e w' => e = .returned (.bool (l0.any (pm1))) ∧ Below w.heap.size w w' := by
  have HC := Aside0.mk hr0
  have HX := Aside0.mk hx_
  clear hr0 hx_
  go_enter Try.func89, Try.ntmps89
  go_wp2_with (go_at_call 110; refine (IndexFunc_m1 _ _ l0 y_ g_ _ HC.out HX.out).mono ?_; rintro e w' ⟨rfl, hb⟩; have HB2 := Aside0.mk hb; clear hb)
  go_ret
  exact ⟨by rw [← idxFrom_any (pm1) l0 0 (by omega)]; rfl, HB2.out⟩
set_option maxHeartbeats 8000000 in
set_option maxRecDepth 100000 in
theorem IndexFunc_m2 (A0 : Option Addr) (c0 : Nat) (l0 : List S111) (y_ : Int) (g_ : Nat) (w : World) (hr0 : Kd.C k111 w A0 l0.length l0) (hx_ : w.cell? ⟨g_, 0, none⟩ = some (.int .i64 y_)) :
    Calls Try.prog 110 #[.slice A0 l0.length c0, .func (.func 91) #[] #[.pointer (some ⟨g_, 0, none⟩)]] w fun e w' => e = .returned (.int .i64 (idxFrom (pm2 y_) l0 0)) ∧ Below w.heap.size w w' := by
  have HC := Aside0.mk hr0
  have hmax : l0.length ≤ 9223372036854775807 := Kd.C_max hr0
  have HX := Aside0.mk hx_
  have HB0 := Aside0.mk (Below.refl w.heap.size w)
  clear hr0 hx_
  go_enter Try.func110, Try.ntmps110
  go_wp2
  go_loopg [4, 8] l0.length (fun kq v4 v8 w' => ∃ (k : Nat), v4 = .int .i64 0 ∧ v8 = .int .i64 (k : Int) ∧ k ≤ l0.length ∧ Aside0 (l0.length - k = kq) ∧ Aside0 (idxFrom (pm2 y_) (l0.drop k) k = idxFrom (pm2 y_) l0 0) ∧ Aside0 (Below w.heap.size w w'))
  case atStart => exact ⟨0, rfl, rfl, by omega, ⟨by omega⟩, ⟨by simp⟩, HB0⟩
  case round =>
    obtain ⟨k, rfl, rfl, hk, HK, HI, HB⟩ := hrel
    by_cases hlt : k < l0.length
    · have hC := Kd.C_below HC.out HB.out
      obtain ⟨ad, x, hA, hx0, hx1, HY⟩ := C_atM hC k hlt
      subst hA
      have HM := Aside0.mk (show x ∈ l0 by rw [← HY.out, List.getD_eq_getElem?_getD, List.getElem?_eq_getElem hlt]; exact List.getElem_mem hlt)
      have HD := Aside0.mk (show idxFrom (pm2 y_) (l0.drop k) k = if (pm2 y_) x then (k : Int) else idxFrom (pm2 y_) (l0.drop (k + 1)) ((k : Int) + 1) by
        rw [List.drop_eq_getElem_cons hlt]
        simp only [idxFrom]
        rw [show l0[k] = x by rw [← HY.out, List.getD_eq_getElem?_getD, List.getElem?_eq_getElem hlt]; rfl])
      clear hC
      cases hp : (pm2 y_) x with
      | true =>
        have HP := Aside0.mk hp
        clear hp
        go_wp2_with (go_at_call 91; refine (PutM2_any x y_ g_ _ ((HB.out.cell (World.block_lt_of_cell? w _ HX.out)).trans HX.out)).mono ?_; rw [HP.out]; rintro e w' ⟨rfl, hb⟩; have HB2 := Aside0.mk (below_step HB.out hb); clear hb)
        go_ret
        exact ⟨ret_int (by rw [← HI.out, HD.out, HP.out]; rfl), HB2.out⟩
      | false =>
        have HP := Aside0.mk hp
        clear hp
        go_wp2_with (go_at_call 91; refine (PutM2_any x y_ g_ _ ((HB.out.cell (World.block_lt_of_cell? w _ HX.out)).trans HX.out)).mono ?_; rw [HP.out]; rintro e w' ⟨rfl, hb⟩; have HB2 := Aside0.mk (below_step HB.out hb); clear hb)
        go_roundg (l0.length - (k + 1))
        case measure => have := HK.out; omega
        case rel => exact ⟨k + 1, rfl, by go_num, by omega, ⟨rfl⟩, ⟨by rw [← HI.out, HD.out, HP.out]; simp⟩, HB2⟩
    · go_wp2
      go_ret
      refine ⟨ret_int ?_, HB.out⟩
      rw [← HI.out, List.drop_eq_nil_of_le (by omega)]
      rfl
set_option maxHeartbeats 400000 in
theorem ContainsFunc_m2 (A0 : Option Addr) (c0 : Nat) (l0 : List S111) (y_ : Int) (g_ : Nat) (w : World) (hr0 : Kd.C k111 w A0 l0.length l0) (hx_ : w.cell? ⟨g_, 0, none⟩ = some (.int .i64 y_)) :
    Calls Try.prog 89 #[.slice A0 l0.length c0, .func (.func 91) #[] #[.pointer (some ⟨g_, 0, none⟩)]] w fun e w' => e = .returned (.bool (l0.any (pm2 y_))) ∧ Below w.heap.size w w' := by
  have HC := Aside0.mk hr0
  have HX := Aside0.mk hx_
  clear hr0 hx_
  go_enter Try.func89, Try.ntmps89
  go_wp2_with (go_at_call 110; refine (IndexFunc_m2 _ _ l0 y_ g_ _ HC.out HX.out).mono ?_; rintro e w' ⟨rfl, hb⟩; have HB2 := Aside0.mk hb; clear hb)
  go_ret
  exact ⟨by rw [← idxFrom_any (pm2 y_) l0 0 (by omega)]; rfl, HB2.out⟩
theorem C_cutM {P : Program} {α : Type} {kd : Kd α} (t e : TypeId) {i : TypeInfo} (ht : P.underlying t = some (.slice e)) (hi : P.info? e = some i) (hsz : i.size = kd.sz) (A : Option Addr) (c : Nat) (xs : List α) (j : Nat) (hm : j ≤ xs.length) (hc : xs.length ≤ c) :
    ∃ A' : Option Addr, (∀ W : World, (Instr.slice t (.slice A xs.length c) (some (.int .i64 (j : Int))) none none).run P W = .ok (.slice A' (xs.drop j).length (c - j)) W) ∧ (∀ w : World, kd.C w A xs.length xs → kd.C w A' (xs.drop j).length (xs.drop j)) ∧ (xs.drop j).length ≤ c - j := by
  refine ⟨if c = j then A else A.map (·.add (j * kd.sz)), fun W => ?_, fun w h => Kd.C_drop h hm hc, by rw [List.length_drop]; omega⟩
  have hel : P.elem t = e := by simp [Program.elem, ht]
  have hu : P.underlying t = some (.slice (P.elem t)) := by rw [hel]; exact ht
  rw [run_slice_l W t A xs.length c hu .i64 (j : Int) (Int.natCast_nonneg _) (by omega), hel]
  simp [sizeOf, typeInfo, hi, hsz, sliced, Result.andThen]
theorem minfo : (Try.prog.info? 111).map (fun i => (i.zero, i.size, i.bytes)) = some (some (.agg #[.int .i64 0, .int .i64 0]), 2, 16) := by kernel_rfl
/-- One metric's bytes. -/
def metB (n : Int) (i : Nat) (x : S111) : List Int := (if (i : Int) < n then putB x.f0 2 else []) ++ putB x.f1 2
def flatM (n : Int) : List S111 → Nat → List Int
  | [], _ => []
  | x :: r, i => metB n i x ++ flatM n r (i + 1)
theorem flatM_append (n : Int) (a b : List S111) : ∀ i, flatM n (a ++ b) i = flatM n a i ++ flatM n b (i + a.length) := by
  induction a with
  | nil => intro i; simp [flatM]
  | cons x r ih => intro i; simp only [List.cons_append, flatM, ih, List.length_cons, List.append_assoc]; rw [show i + 1 + r.length = i + (r.length + 1) by omega]
theorem metB_len (n : Int) (i : Nat) (x : S111) : (metB n i x).length ≤ 4 := by unfold metB; split <;> simp [putB_length]
theorem flatM_len (n : Int) (l : List S111) : ∀ i, (flatM n l i).length ≤ 4 * l.length := by
  induction l with
  | nil => intro i; simp [flatM]
  | cons x r ih => intro i; have := metB_len n i x; have := ih (i + 1); simp only [flatM, List.length_append, List.length_cons]; omega
theorem flatM_succ (n : Int) (l : List S111) (k : Nat) (h : k < l.length) : flatM n (l.take (k + 1)) 0 = flatM n (l.take k) 0 ++ metB n k (l.getD k z111) := by
  rw [List.take_succ_eq_append_getElem h, flatM_append]
  simp only [flatM, List.append_nil, Nat.zero_add, List.length_take, Nat.min_eq_left (Nat.le_of_lt h)]
  congr 2
  simp [List.getD_eq_getElem?_getD, List.getElem?_eq_getElem h]
def metW (l : List S111) (n : Int) : List Int × Int :=
  if l.length < 1 ∨ l.length > 1024 ∨ n < 1 ∨ n > l.length then ([], 2) else if l.any pm1 = true then ([], 6) else if (l.drop n.toNat).any (pm2 (l.getD (n.toNat - 1) z111).f0) = true then ([], 4) else (flatM n l 0, 0)
def loca_PutMetrics.f (l0 : List (S111)) (a1 : Int) : Option (List Int × Int) := if (∀ x ∈ l0, inI x.f0 ∧ inI x.f1) ∧ inI a1 then some (metW l0 a1) else none
set_option maxHeartbeats 1000000 in
set_option maxRecDepth 100000 in
theorem putm_bad (A0 : Option Addr) (c0 : Nat) (l0 : List (S111)) (a1 : Int) (w : World) (hmax : l0.length ≤ 9223372036854775807) (hb : l0.length < 1 ∨ l0.length > 1024 ∨ a1 < 1 ∨ a1 > l0.length) :
    Calls Try.prog 61 #[.slice A0 l0.length c0, .int .i64 a1] w fun e w' => ∃ v0_ : Value, e = .returned (.tuple #[v0_, .int .i64 2]) ∧ Kd.R (Kd.int .u8) 5 w' w.heap.size (fun _ => True) v0_ [] ∧ Below w.heap.size w w' := by
  by_cases h1 : l0.length < 1
  · go_enter Try.func61, Try.ntmps61
    go_wp2
    go_ret2
    exact ⟨_, rfl, Kd.R_nil _ _ _ _ _, Below.refl _ _⟩
  by_cases h2 : 1024 < l0.length
  · clear hb
    go_enter Try.func61, Try.ntmps61
    go_wp2
    go_ret2
    exact ⟨_, rfl, Kd.R_nil _ _ _ _ _, Below.refl _ _⟩
  by_cases h3 : a1 < 1
  · clear hb
    go_enter Try.func61, Try.ntmps61
    go_wp2
    go_ret2
    exact ⟨_, rfl, Kd.R_nil _ _ _ _ _, Below.refl _ _⟩
  · have h4 : (l0.length : Int) < a1 := by omega
    clear hb
    go_enter Try.func61, Try.ntmps61
    go_wp2
    go_ret2
    exact ⟨_, rfl, Kd.R_nil _ _ _ _ _, Below.refl _ _⟩
set_option maxHeartbeats 1000000 in
set_option maxRecDepth 100000 in
theorem putm_six (A0 : Option Addr) (c0 : Nat) (l0 : List (S111)) (a1 : Int) (w : World) (HC : Aside0 (Kd.C k111 w A0 l0.length l0)) (HI : Aside0 (∀ x ∈ l0, inI x.f0 ∧ inI x.f1)) (h1 : 1 ≤ l0.length) (h2 : l0.length ≤ 1024) (h3 : 1 ≤ a1) (h4 : a1 ≤ l0.length) (HA : Aside0 (l0.any pm1 = true)) :
    Calls Try.prog 61 #[.slice A0 l0.length c0, .int .i64 a1] w fun e w' => ∃ v0_ : Value, e = .returned (.tuple #[v0_, .int .i64 6]) ∧ Kd.R (Kd.int .u8) 5 w' w.heap.size (fun _ => True) v0_ [] ∧ Below w.heap.size w w' := by
  go_enter Try.func61, Try.ntmps61
  go_wp2_with (go_at_call 89; refine (ContainsFunc_m1 _ _ l0 0 0 _ HC.out HI.out).mono ?_; rw [HA.out]; rintro e w' ⟨rfl, hb⟩; have HB2 := Aside0.mk hb; clear hb)
  go_ret2
  exact ⟨_, rfl, Kd.R_nil _ _ _ _ _, HB2.out⟩
set_option maxHeartbeats 1000000 in
set_option maxRecDepth 100000 in
theorem putm_four (ad : Addr) (c0 : Nat) (l0 : List (S111)) (m : Nat) (la : Int) (w : World) (HC : Aside0 (Kd.C k111 w (some ad) l0.length l0)) (HL : Aside0 (l0.length ≤ c0)) (HI : Aside0 (∀ x ∈ l0, inI x.f0 ∧ inI x.f1)) (h2 : l0.length ≤ 1024) (h4 : m + 1 ≤ l0.length) (HA : Aside0 (l0.any pm1 = false)) (hx0 : w.cell? (ad.add (m * 2)) = some (.int .i64 la)) (HA2 : Aside0 ((l0.drop (m + 1)).any (pm2 la) = true)) :
    Calls Try.prog 61 #[.slice (some ad) l0.length c0, .int .i64 ((m : Int) + 1)] w fun e w' => ∃ v0_ : Value, e = .returned (.tuple #[v0_, .int .i64 4]) ∧ Kd.R (Kd.int .u8) 5 w' w.heap.size (fun _ => True) v0_ [] ∧ Below w.heap.size w w' := by
    obtain ⟨A', hcut0, hC', hL'⟩ := C_cutM (P := Try.prog) (kd := k111) 73 111 Try.underlying73 (info_parts minfo).choose_spec.1 (info_parts minfo).choose_spec.2.2.1 (some ad) c0 l0 (m + 1) h4 HL.out
    generalize l0.drop (m + 1) = dr at hcut0 hC' HA2 hL'
    have hcut : ∀ W : World, (Instr.slice 73 (.slice (some ad) l0.length c0) (some (.int .i64 ((m : Int) + 1))) none none).run Try.prog W = .ok (.slice A' dr.length (c0 - (m + 1))) W := hcut0
    have HC' := Aside0.mk hC'
    clear hcut0 hC' hL'
    go_enter Try.func61, Try.ntmps61
    go_wp2_with (first
      | (go_at_call 89; (with_reducible refine (ContainsFunc_m1 _ _ l0 0 0 _ HC.out HI.out).mono ?_); rw [HA.out]; rintro e w' ⟨rfl, hb⟩; have HB2 := Aside0.mk hb; have hx2 : w'.cell? (ad.add (m * 2)) = some (.int .i64 la) := (hb.cell (World.block_lt_of_cell? w _ hx0)).trans hx0; clear hb hx0)
      | ((with_reducible refine gate_dst (N := 6) rfl ?_); refine box_event rfl (N := 6) rfl (cs := #[.int .i64 0]) (t := 3) ?hr ?_; (case hr => first | (go_simp; done) | (go_simp; rfl)); intro gb hg w3 hbox hb3; have HB3 := Aside0.mk (below_step HB2.out hb3); have HBX := Aside0.mk hbox; have HGE := Aside0.mk (show w.heap.size ≤ gb by rw [hg]; exact below_size HB2.out); have hc3 : w3.cell? ⟨gb, 0, none⟩ = some (.int .i64 0) := (blk_cell hbox 0).trans rfl; have hf3 := blk_frozen hbox 0; clear hg hbox hb3)
      | (go_at_call 89; (with_reducible refine (ContainsFunc_m2 _ _ dr la gb _ ?hcc ?hcx).mono ?_); (case hcc => exact HC'.out _ (Kd.C_below HC.out (below_set HB3.out HGE.out))); (case hcx => exact (blk_cell (blk_set HBX.out 0 _) 0).trans rfl); rw [HA2.out]; rintro e w' ⟨rfl, hb⟩; have HB5 := Aside0.mk (below_step (below_set HB3.out HGE.out) hb); clear hb hc3 hf3))
    go_ret2
    exact ⟨_, rfl, Kd.R_nil _ _ _ _ _, HB5.out⟩
set_option maxHeartbeats 1000000 in
set_option maxRecDepth 100000 in
theorem putm_ok (ad : Addr) (c0 : Nat) (l0 : List (S111)) (m : Nat) (la : Int) (w : World) (HC : Aside0 (Kd.C k111 w (some ad) l0.length l0)) (HL : Aside0 (l0.length ≤ c0)) (HI : Aside0 (∀ x ∈ l0, inI x.f0 ∧ inI x.f1)) (h2 : l0.length ≤ 1024) (h4 : m + 1 ≤ l0.length) (HA : Aside0 (l0.any pm1 = false)) (hx0 : w.cell? (ad.add (m * 2)) = some (.int .i64 la)) (HA2 : Aside0 ((l0.drop (m + 1)).any (pm2 la) = false)) :
    Calls Try.prog 61 #[.slice (some ad) l0.length c0, .int .i64 ((m : Int) + 1)] w fun e w' => ∃ v0_ : Value, e = .returned (.tuple #[v0_, .int .i64 0]) ∧ Kd.R (Kd.int .u8) 5 w' w.heap.size (fun _ => True) v0_ (flatM ((m : Int) + 1) l0 0) ∧ Below w.heap.size w w' := by
    obtain ⟨A', hcut0, hC', hL'⟩ := C_cutM (P := Try.prog) (kd := k111) 73 111 Try.underlying73 (info_parts minfo).choose_spec.1 (info_parts minfo).choose_spec.2.2.1 (some ad) c0 l0 (m + 1) h4 HL.out
    generalize l0.drop (m + 1) = dr at hcut0 hC' HA2 hL'
    have hcut : ∀ W : World, (Instr.slice 73 (.slice (some ad) l0.length c0) (some (.int .i64 ((m : Int) + 1))) none none).run Try.prog W = .ok (.slice A' dr.length (c0 - (m + 1))) W := hcut0
    have HC' := Aside0.mk hC'
    clear hcut0 hC' hL'
    go_enter Try.func61, Try.ntmps61
    go_wp2_with (first
      | (go_at_call 89; (with_reducible refine (ContainsFunc_m1 _ _ l0 0 0 _ HC.out HI.out).mono ?_); rw [HA.out]; rintro e w' ⟨rfl, hb⟩; have HB2 := Aside0.mk hb; have hx2 : w'.cell? (ad.add (m * 2)) = some (.int .i64 la) := (hb.cell (World.block_lt_of_cell? w _ hx0)).trans hx0; clear hb hx0)
      | ((with_reducible refine gate_dst (N := 6) rfl ?_); refine box_event rfl (N := 6) rfl (cs := #[.int .i64 0]) (t := 3) ?hr ?_; (case hr => first | (go_simp; done) | (go_simp; rfl)); intro gb hg w3 hbox hb3; have HB3 := Aside0.mk (below_step HB2.out hb3); have HBX := Aside0.mk hbox; have HGE := Aside0.mk (show w.heap.size ≤ gb by rw [hg]; exact below_size HB2.out); have hc3 : w3.cell? ⟨gb, 0, none⟩ = some (.int .i64 0) := (blk_cell hbox 0).trans rfl; have hf3 := blk_frozen hbox 0; clear hg hbox hb3)
      | (go_at_call 89; (with_reducible refine (ContainsFunc_m2 _ _ dr la gb _ ?hcc ?hcx).mono ?_); (case hcc => exact HC'.out _ (Kd.C_below HC.out (below_set HB3.out HGE.out))); (case hcx => exact (blk_cell (blk_set HBX.out 0 _) 0).trans rfl); rw [HA2.out]; rintro e w' ⟨rfl, hb⟩; have HB5 := Aside0.mk (below_step (below_set HB3.out HGE.out) hb); clear hb hc3 hf3))
    clear HB2 HB3 HBX HGE hcut
    go_loopg [7, 43] l0.length (fun kq v7 v43 w' => ∃ (k : Nat), v43 = .int .i64 (k : Int) ∧ k ≤ l0.length ∧ Aside0 (l0.length - k = kq) ∧ Aside0 (Kd.R (Kd.int .u8) 5 w' w.heap.size (fun _ => True) v7 (flatM ((m : Int) + 1) (l0.take k) 0)) ∧ Aside0 (Below w.heap.size w w'))
    case atStart => exact ⟨0, rfl, by omega, ⟨rfl⟩, ⟨Kd.R_nil _ _ _ _ _⟩, HB5⟩
    case round =>
      obtain ⟨k, rfl, hk, HK, HO, HB⟩ := hrel
      clear HB5
      by_cases hlt : k < l0.length
      · obtain ⟨ad2, x, hA2, hy0, hy1, HY⟩ := C_atM (Kd.C_below HC.out HB.out) k hlt
        injection hA2 with hA2
        subst hA2
        obtain ⟨hI0, hI1⟩ := HI.out x (by rw [← HY.out, List.getD_eq_getElem?_getD, List.getElem?_eq_getElem hlt]; exact List.getElem_mem hlt)
        have HP0 := Aside0.mk (show be_Put.f x.f0 2 = some (putB x.f0 2) by unfold be_Put.f; rw [if_pos (show inI x.f0 ∧ inI 2 from ⟨hI0, by decide⟩), show widthB 2 = 2 by decide])
        have HP1 := Aside0.mk (show be_Put.f x.f1 2 = some (putB x.f1 2) by unfold be_Put.f; rw [if_pos (show inI x.f1 ∧ inI 2 from ⟨hI1, by decide⟩), show widthB 2 = 2 by decide])
        obtain ⟨a, b⟩ := x
        simp only at HP0 HP1 hy0 hy1
        obtain ⟨p0, hp0⟩ : ∃ p0, putB a 2 = p0 := ⟨_, rfl⟩
        obtain ⟨p1, hp1⟩ : ∃ p1, putB b 2 = p1 := ⟨_, rfl⟩
        have hl0 : p0.length ≤ 2 := by rw [← hp0, putB_length]; omega
        have hl1 : p1.length ≤ 2 := by rw [← hp1, putB_length]; omega
        rw [hp0] at HP0
        rw [hp1] at HP1
        obtain ⟨fl, hfl⟩ : ∃ fl, flatM ((m : Int) + 1) (l0.take k) 0 = fl := ⟨_, rfl⟩
        have hfll : fl.length ≤ 4096 := by
          have := flatM_len ((m : Int) + 1) (l0.take k) 0
          rw [List.length_take] at this
          rw [← hfl]; omega
        have HO2 : Aside0 (Kd.R (Kd.int .u8) 5 wr w.heap.size (fun _ => True) u7 fl) := ⟨by rw [← hfl]; exact HO.out⟩
        have HS := Aside0.mk (flatM_succ ((m : Int) + 1) l0 k hlt)
        have HFL := Aside0.mk hfl
        have HPP := Aside0.mk (And.intro hp0 hp1)
        clear hI0 hI1 hp0 hp1 HO hfl
        by_cases hkn : (k : Int) < (m : Int) + 1
        · go_wp2_with (first
            | ((with_reducible refine gate_dst (N := 9) rfl ?_); refine box_event rfl (N := 9) rfl (cs := #[.int .i64 0, .int .i64 0]) (t := 111) ?hr ?_; (case hr => first | (go_simp; done) | (go_simp; rfl)); intro gb hg w9 hbox hb9; have HB9 := Aside0.mk (below_step HB.out hb9); have HBX := Aside0.mk hbox; have HGE := Aside0.mk (show w.heap.size ≤ gb by rw [hg]; exact below_size HB.out); have HO9 := Aside0.mk (Kd.R_below HO2.out hb9); have hc0 : w9.cell? ⟨gb, 0, none⟩ = some (.int .i64 0) := (blk_cell hbox 0).trans rfl; have hc1 : w9.cell? ⟨gb, 1, none⟩ = some (.int .i64 0) := (blk_cell hbox 1).trans rfl; have hf0 := blk_frozen hbox 0; have hf1 := blk_frozen hbox 1; clear hg hbox hb9 hy0 hy1)
            | (go_at_call 40; (with_reducible refine (be_Put.calls a 2 p0 _ HP0.out).mono ?_); rintro e w' ⟨v0, rfl, hR, hB⟩; obtain ⟨A3, c3, rfl, hl3, hC3⟩ := Kd.R_reads hR; have HBX4 := Aside0.mk (blk_below (blk_set (blk_set HBX.out 0 _) 1 _) hB); have HB4 := Aside0.mk (below_step (below_set (below_set HB9.out HGE.out) HGE.out) hB); have HO4 := Aside0.mk (Kd.R_below (Kd.R_set (Kd.R_set HO9.out HBX.out (by intro q hq; simp [Kd.int, Kd.scalar] at hq; subst hq; decide) 0 _) (blk_set HBX.out 0 _) (by intro q hq; simp [Kd.int, Kd.scalar] at hq; subst hq; decide) 1 _) hB); have HC4 := Aside0.mk hC3; clear hR hB hl3 hC3 hc0 hc1 hf0 hf1)
            | ((with_reducible refine gate_builtin (b := .append) (xs := #[.tmp 51, .tmp 54]) rfl ?_); at_builtin; refine Kd.R_append_rows (Kd.int .u8) (w0 := w) w.heap.size rfl (.tmp 51) (.tmp 54) 23 5 (.int .u8 0) 1 rfl Try.underlying23 info5 rfl (by decide) (by omega) u7 fl p0 _ _ _ (fun _ => True) (fun _ => False) rfl rfl HO4.out HC4.out (fun _ _ h => h) (fun _ h => h.elim) (fun _ _ => trivial) HB4.out (below_size HB4.out) (by first | omega | (simp only [List.length_append]; omega)) ?_; intro v1 w5 ho hb hg _; have hc5 : w5.cell? ⟨gb, 1, none⟩ = some (.int .i64 b) := (blk_cell (blk_grown HBX4.out hg (Kd.R_ne HO4.out HBX4.out (by decide))) 1).trans rfl; have HO5 := Aside0.mk ho; have HB5 := Aside0.mk hb; clear ho hb hg)
            | (go_at_call 40; (with_reducible refine (be_Put.calls b 2 p1 _ HP1.out).mono ?_); rintro e w' ⟨v0, rfl, hR, hB⟩; obtain ⟨A3, c3, rfl, hl3, hC3⟩ := Kd.R_reads hR; have HB6 := Aside0.mk (below_step HB5.out hB); have HO6 := Aside0.mk (Kd.R_below HO5.out hB); have HC6 := Aside0.mk hC3; clear hR hB hl3 hC3)
            | ((with_reducible refine gate_builtin (b := .append) (xs := #[.tmp 56, .tmp 59]) rfl ?_); at_builtin; refine Kd.R_append_rows (Kd.int .u8) (w0 := w) w.heap.size rfl (.tmp 56) (.tmp 59) 23 5 (.int .u8 0) 1 rfl Try.underlying23 info5 rfl (by decide) (by omega) v1 (fl ++ p0) p1 _ _ _ (fun _ => True) (fun _ => False) rfl rfl HO6.out HC6.out (fun _ _ h => h) (fun _ h => h.elim) (fun _ _ => trivial) HB6.out (below_size HB6.out) (by first | omega | (simp only [List.length_append]; omega)) ?_; intro v2 w7 ho hb hg _; have HO7 := Aside0.mk ho; have HB7 := Aside0.mk hb; clear ho hb hg))
          go_roundg (l0.length - (k + 1))
          case measure => have := HK.out; omega
          case rel =>
            refine ⟨k + 1, by go_num, by omega, ⟨by omega⟩, ⟨?_⟩, HB7⟩
            rw [HS.out, HFL.out, HY.out]
            unfold metB
            rw [if_pos hkn, HPP.out.1, HPP.out.2, ← List.append_assoc]
            exact HO7.out
        · go_wp2_with (first
            | ((with_reducible refine gate_dst (N := 9) rfl ?_); refine box_event rfl (N := 9) rfl (cs := #[.int .i64 0, .int .i64 0]) (t := 111) ?hr ?_; (case hr => first | (go_simp; done) | (go_simp; rfl)); intro gb hg w9 hbox hb9; have HB9 := Aside0.mk (below_step HB.out hb9); have HBX := Aside0.mk hbox; have HGE := Aside0.mk (show w.heap.size ≤ gb by rw [hg]; exact below_size HB.out); have HO9 := Aside0.mk (Kd.R_below HO2.out hb9); have hc0 : w9.cell? ⟨gb, 0, none⟩ = some (.int .i64 0) := (blk_cell hbox 0).trans rfl; have hc1 : w9.cell? ⟨gb, 1, none⟩ = some (.int .i64 0) := (blk_cell hbox 1).trans rfl; have hf0 := blk_frozen hbox 0; have hf1 := blk_frozen hbox 1; clear hg hbox hb9 hy0 hy1)
            | (go_at_call 40; (with_reducible refine (be_Put.calls b 2 p1 _ HP1.out).mono ?_); rintro e w' ⟨v0, rfl, hR, hB⟩; obtain ⟨A3, c3, rfl, hl3, hC3⟩ := Kd.R_reads hR; have HBX4 := Aside0.mk (blk_below (blk_set (blk_set HBX.out 0 _) 1 _) hB); have HB4 := Aside0.mk (below_step (below_set (below_set HB9.out HGE.out) HGE.out) hB); have HO4 := Aside0.mk (Kd.R_below (Kd.R_set (Kd.R_set HO9.out HBX.out (by intro q hq; simp [Kd.int, Kd.scalar] at hq; subst hq; decide) 0 _) (blk_set HBX.out 0 _) (by intro q hq; simp [Kd.int, Kd.scalar] at hq; subst hq; decide) 1 _) hB); have HC4 := Aside0.mk hC3; clear hR hB hl3 hC3 hc0 hc1 hf0 hf1)
            | ((with_reducible refine gate_builtin (b := .append) (xs := #[.tmp 56, .tmp 59]) rfl ?_); at_builtin; refine Kd.R_append_rows (Kd.int .u8) (w0 := w) w.heap.size rfl (.tmp 56) (.tmp 59) 23 5 (.int .u8 0) 1 rfl Try.underlying23 info5 rfl (by decide) (by omega) u7 fl p1 _ _ _ (fun _ => True) (fun _ => False) rfl rfl HO4.out HC4.out (fun _ _ h => h) (fun _ h => h.elim) (fun _ _ => trivial) HB4.out (below_size HB4.out) (by first | omega | (simp only [List.length_append]; omega)) ?_; intro v2 w7 ho hb hg _; have HO7 := Aside0.mk ho; have HB7 := Aside0.mk hb; clear ho hb hg))
          go_roundg (l0.length - (k + 1))
          case measure => have := HK.out; omega
          case rel =>
            refine ⟨k + 1, by go_num, by omega, ⟨by omega⟩, ⟨?_⟩, HB7⟩
            rw [HS.out, HFL.out, HY.out]
            unfold metB
            rw [if_neg (show ¬ (k : Int) < (m : Int) + 1 by omega), HPP.out.2, List.nil_append]
            exact HO7.out
      · go_wp2
        go_ret2
        refine ⟨_, rfl, ?_, HB.out⟩
        have := HO.out
        rwa [List.take_of_length_le (by omega)] at this
theorem loca_PutMetrics.calls (A0 : Option Addr) (c0 : Nat) (l0 : List (S111)) (a1 : Int) (r1 : List Int) (r2 : Int) (w : World) (hr0 : Kd.C k111 w A0 l0.length l0) (hc0 : l0.length ≤ c0) (h : loca_PutMetrics.f l0 a1 = some (r1, r2)) :
    Calls Try.prog 61 #[.slice A0 l0.length c0, .int .i64 a1] w fun e w' => ∃ v0_ : Value, e = .returned (.tuple #[v0_, .int .i64 r2]) ∧ Kd.R (Kd.int .u8) 5 w' w.heap.size (fun _ => True) v0_ r1 ∧ Below w.heap.size w w' := by
  unfold loca_PutMetrics.f at h
  split at h
  case isFalse => cases h
  rename_i hg
  obtain ⟨hI, hi⟩ := hg
  simp only [Option.some.injEq] at h
  unfold metW at h
  have hmax := Kd.C_max hr0
  by_cases hb : l0.length < 1 ∨ l0.length > 1024 ∨ a1 < 1 ∨ a1 > l0.length
  · rw [if_pos hb] at h
    simp only [Prod.mk.injEq] at h
    obtain ⟨rfl, rfl⟩ := h
    exact putm_bad A0 c0 l0 a1 w hmax hb
  rw [if_neg hb] at h
  have h1 : 1 ≤ l0.length := by omega
  have h2 : l0.length ≤ 1024 := by omega
  have h3 : 1 ≤ a1 := by omega
  have h4 : a1 ≤ l0.length := by omega
  by_cases ha : l0.any pm1 = true
  · rw [if_pos ha] at h
    simp only [Prod.mk.injEq] at h
    obtain ⟨rfl, rfl⟩ := h
    exact putm_six A0 c0 l0 a1 w ⟨hr0⟩ ⟨hI⟩ h1 h2 h3 h4 ⟨ha⟩
  rw [if_neg ha] at h
  obtain ⟨m, rfl⟩ : ∃ m : Nat, a1 = (m : Int) + 1 := ⟨(a1 - 1).toNat, by omega⟩
  rw [show ((m : Int) + 1).toNat = m + 1 from rfl, Nat.add_sub_cancel] at h
  obtain ⟨ad, x, rfl, hx0, _, HY⟩ := C_atM hr0 m (by omega)
  rw [HY.out] at h
  by_cases hc : (l0.drop (m + 1)).any (pm2 x.f0) = true
  · rw [if_pos hc] at h
    simp only [Prod.mk.injEq] at h
    obtain ⟨rfl, rfl⟩ := h
    exact putm_four ad c0 l0 m x.f0 w ⟨hr0⟩ ⟨hc0⟩ ⟨hI⟩ h2 (by omega) ⟨by simpa using ha⟩ hx0 ⟨hc⟩
  · rw [if_neg hc] at h
    simp only [Prod.mk.injEq] at h
    obtain ⟨rfl, rfl⟩ := h
    exact putm_ok ad c0 l0 m x.f0 w ⟨hr0⟩ ⟨hc0⟩ ⟨hI⟩ h2 (by omega) ⟨by simpa using ha⟩ hx0 ⟨by simpa using hc⟩


end Go.Proofs.Ytcclmaicdmogjaa.P

-- Written by wip/pr.py over the kit's print
namespace Go.Proofs.Ytcclmaicdmogjaa.P
open Go.RowKit Go.Proofs.YtcclmaicdmogjaaW.PrintWords Go.Proofs.YtcclmaicdmogjaaW.PrintLast Go.Proofs.YtcclmaicdmogjaaW.PrintMore
attribute [local go_sem] max2_int min2_int max_two min_two max_three min_three max_four min_four   -- for this text's walks alone
set_option linter.unusedVariables false
set_option linter.unusedSimpArgs false

/-! ### calamusref02_Put: function 34 -/
def calamusref02_Put.l0 : Nat → List Int → Int → Int → Option (List Int)
  | 0, _, _, _ => none
  | k + 1, x6, x7, x8 => if x8 ≥ 0 then (if 0 ≤ x8 then (if x8 < (x6.length : Int) then (calamusref02_Put.l0 k (x6.set (x8 : Int).toNat ((Int.tmod x7 256) % 256)) (IntKind.u64.wrap (Int.tdiv x7 256)) (wrap64 (x8 - 1))) else (none)) else (none)) else (some x6)
def calamusref02_Put.f (k : Nat) (a0 : Int) (a1 : Int) : Option (List Int) := if 0 ≤ (mx 0 (mn a1 8)) then (if (mx 0 (mn a1 8) : Int).toNat ≤ 281474976710656 then (calamusref02_Put.l0 k (List.replicate (mx 0 (mn a1 8) : Int).toNat 0) (IntKind.u64.wrap (a0)) ((mx 0 (mn a1 8)) - 1)) else (none)) else (none)
theorem calamusref02_Put.mono_l : ∀ k, (∀ y0 y1 y2, LeO (calamusref02_Put.l0 k y0 y1 y2) (calamusref02_Put.l0 (k + 1) y0 y1 y2))
  | 0 => fun _ _ _ r h => by simp [calamusref02_Put.l0] at h
  | k + 1 => by
    have ih0 := calamusref02_Put.mono_l k
    · intro y0 y1 y2
      unfold calamusref02_Put.l0
      repeat' first
      | (with_reducible exact ih0 _ _ _)
      | (with_reducible exact LeO.refl _)
      | (with_reducible exact LeO.none _)
      | (with_reducible refine LeO.ite ?_ ?_)
      | (with_reducible refine LeO.bind ?_ (fun _ => ?_))
      | exact ih0 _ _ _
      | exact LeO.none _
      | refine LeO.ite ?_ ?_
      | refine LeO.bind ?_ (fun _ => ?_)
theorem calamusref02_Put.mono : ∀ a0 a1 k, LeO (calamusref02_Put.f k a0 a1) (calamusref02_Put.f (k + 1) a0 a1) := by
  intro a0 a1 k
  have ih0 := calamusref02_Put.mono_l k
  unfold calamusref02_Put.f
  repeat' first
      | (with_reducible exact ih0 _ _ _)
      | (with_reducible exact LeO.refl _)
      | (with_reducible exact LeO.none _)
      | (with_reducible refine LeO.ite ?_ ?_)
      | (with_reducible refine LeO.bind ?_ (fun _ => ?_))
      | exact ih0 _ _ _
      | exact LeO.none _
      | refine LeO.ite ?_ ?_
      | refine LeO.bind ?_ (fun _ => ?_)
set_option maxHeartbeats 8000000 in
set_option maxRecDepth 100000 in
theorem calamusref02_Put.calls (k : Nat) (a0 : Int) (a1 : Int) (r : List Int) (w : World) (h : calamusref02_Put.f k a0 a1 = some r) :
    Calls Try.prog 34 #[.int .i64 a0, .int .i64 a1] w fun e w' => ∃ v0_ : Value, e = .returned (v0_) ∧ Kd.R (Kd.int .u8) 5 w' w.heap.size (fun _ => True) v0_ r ∧ Below w.heap.size w w' := by
  have HB := Aside0.mk (Below.refl w.heap.size w)
  have H : (if 0 ≤ (mx 0 (mn a1 8)) then (if (mx 0 (mn a1 8) : Int).toNat ≤ 281474976710656 then (calamusref02_Put.l0 k (List.replicate (mx 0 (mn a1 8) : Int).toNat 0) (IntKind.u64.wrap (a0)) ((mx 0 (mn a1 8)) - 1)) else (none)) else (none)) = some r := h
  clear h
  obtain ⟨ji3, hji3⟩ : ∃ j_ : Int, (mn a1 8) = j_ := ⟨_, rfl⟩
  replace H : (if 0 ≤ (mx 0 (ji3)) then (if (mx 0 (ji3) : Int).toNat ≤ 281474976710656 then (calamusref02_Put.l0 k (List.replicate (mx 0 (ji3) : Int).toNat 0) (IntKind.u64.wrap (a0)) ((mx 0 (ji3)) - 1)) else (none)) else (none)) = some r := by first | (rw [hji3] at H; exact H) | (simp only [hji3] at H ⊢; exact H)
  (try (have hji3h : ji3 ≤ 8 := by (rw [← hji3]; unfold mn; (repeat' split) <;> omega)))
  (try (have hji3g : ji3 ≤ 64 := by omega))
  have hji3_ : (if 8 < a1 then 8 else a1) = ji3 := hji3
  obtain ⟨ji4, hji4⟩ : ∃ j_ : Int, (mx 0 (ji3)) = j_ := ⟨_, rfl⟩
  replace H : (if 0 ≤ (ji4) then (if (ji4 : Int).toNat ≤ 281474976710656 then (calamusref02_Put.l0 k (List.replicate (ji4 : Int).toNat 0) (IntKind.u64.wrap (a0)) ((ji4) - 1)) else (none)) else (none)) = some r := by first | (rw [hji4] at H; exact H) | (simp only [hji4] at H ⊢; exact H)
  have hji4_ : (if 0 < (ji3) then (ji3) else 0) = ji4 := hji4
  by_cases c5 : 0 ≤ (ji4)
  · rw [if_pos c5] at H
    have c5b0 := eq_true c5
    have c5b1 : decide (0 ≤ (ji4)) = true := decide_eq_true c5
    clear c5
    by_cases c6 : (ji4 : Int).toNat ≤ 281474976710656
    · rw [if_pos c6] at H
      have c6b0 := eq_true c6
      have c6b1 : decide ((ji4 : Int).toNat ≤ 281474976710656) = true := decide_eq_true c6
      clear c6
      obtain ⟨y148, hy148⟩ : ∃ y_ : List Int, y_ = (List.replicate (ji4 : Int).toNat 0) := ⟨_, rfl⟩
      replace H : (calamusref02_Put.l0 k y148 (IntKind.u64.wrap (a0)) ((ji4) - 1)) = some r := by first | (rw [hy148]; with_reducible exact H) | (have H2_ := (Option.bind_some _ _).symm.trans H; rw [hy148]; with_reducible exact H2_) | (have H2_ := (Option.bind_some _ _).symm.trans H; with_reducible exact H2_) | with_reducible exact H | (rw [hy148]; exact H) | exact H
      have Ny148 := Aside0.mk hy148
      clear hy148
      have H' := Aside0.mk H
      clear H
      go_enter Try.func34, Try.ntmps34
      go_wp2_with (first | ((with_reducible refine gate_dst (N := 13) rfl ?_); refine Kd.R_make (Kd.int .u8) _ 5 rfl (N := 13) rfl 23 _ _ rfl ji4 rfl rfl Try.underlying23 (.int .u8 0) 1 info5 rfl (by decide) (by omega) 0 (ok := fun _ => True) (okp := fun _ => True) rfl (fun _ hk => hk) trivial (of_decide_eq_true (by first | (with_reducible assumption) | assumption)) (Nat.le_trans (Nat.mul_le_mul_right _ (of_decide_eq_true (by first | (with_reducible assumption) | assumption) : ji4.toNat ≤ 281474976710656)) (by omega)) (Below.refl _ _) (Nat.le_refl _) ?_; intro v149 w7 ho8 hb hg_ hnew_; clear hg_ hnew_; (first | rw [← Ny148.out] at ho8 | (simp only [Int.reduceToNat] at ho8; rw [← Ny148.out] at ho8)); have n0_ := Aside0.mk (Kd.R_lower ho8 (below_size (by repeat (first | (with_reducible first | exact HB.out | apply below_alloc | apply pw_below_drewN | apply below_drew1) | exact HB.out)))); have n1_ := Aside0.mk (below_step (by repeat (first | (with_reducible first | exact HB.out | apply below_alloc | apply pw_below_drewN | apply below_drew1) | exact HB.out)) hb); clear HB; have HO150 := n0_; have HB := n1_; clear n0_ n1_; clear hb ho8))
      go_loopg [7, 8] k (fun kq v7 v8 w' => ∃ (x6_1 : List Int) (x7_1 : Int) (x8_1 : Int), v7 = .int .u64 x7_1 ∧ v8 = .int .i64 x8_1 ∧ Aside0 (calamusref02_Put.l0 kq x6_1 x7_1 x8_1 = some r) ∧ Aside0 (kq ≤ k) ∧ Aside0 (Kd.R (Kd.int .u8) 5 w' w.heap.size (fun _ => True) v149 x6_1) ∧ Aside0 (Below w.heap.size w w'))
      case atStart => exact ⟨(y148), (IntKind.u64.wrap (a0)), ((ji4) - 1), (by first | rfl | (simp; done) | (simp [*]; done)), (by first | rfl | (simp; done) | (simp only [← hji4] <;> (first | rfl | simp)) | (simp [*]; done)), H', ⟨Nat.le_refl _⟩, ⟨by (with_reducible repeat (first | apply Kd.R_alloc | apply Kd.R_drewN | apply Kd.R_drew)); exact HO150.out⟩, ⟨by repeat (first | (with_reducible first | exact HB.out | apply below_alloc | apply pw_below_drewN | apply below_drew1) | exact HB.out)⟩⟩
      case round =>
        clear H'
        try clear p2
        try clear c3
        try clear c5
        try clear c5b0
        try clear c5b1
        try clear c6
        try clear c6b0
        try clear c6b1
        obtain ⟨x6_1, x7_1, x8_1, rfl, rfl, HA, HK1, HO_6, HB⟩ := hrel
        cases gk with
        | zero => exact absurd HA.out (by simp [calamusref02_Put.l0])
        | succ k1 =>
          have H := HA.out
          clear HA
          simp only [calamusref02_Put.l0] at H
          by_cases c9 : x8_1 ≥ 0
          · rw [if_pos c9] at H
            have c9b0 : decide (0 ≤ x8_1) = true := decide_eq_true c9
            clear c9
            by_cases c10 : 0 ≤ x8_1
            · rw [if_pos c10] at H
              have c10b0 : decide (0 ≤ x8_1) = true := decide_eq_true c10
              clear c10
              by_cases c11 : x8_1 < (x6_1.length : Int)
              · rw [if_pos c11] at H
                have c11b0 : decide (x8_1 < (x6_1.length : Int)) = true := decide_eq_true c11
                clear c11
                obtain ⟨y151, hy151⟩ : ∃ y_ : List Int, y_ = (x6_1.set (x8_1 : Int).toNat ((Int.tmod x7_1 256) % 256)) := ⟨_, rfl⟩
                replace H : (calamusref02_Put.l0 k1 y151 (IntKind.u64.wrap (Int.tdiv x7_1 256)) (wrap64 (x8_1 - 1))) = some r := by first | (rw [hy151]; with_reducible exact H) | (have H2_ := (Option.bind_some _ _).symm.trans H; rw [hy151]; with_reducible exact H2_) | (have H2_ := (Option.bind_some _ _).symm.trans H; with_reducible exact H2_) | with_reducible exact H | (rw [hy151]; exact H) | exact H
                have Ny151 := Aside0.mk hy151
                clear hy151
                have H' := Aside0.mk H
                clear H
                have p12 : 0 ≤ (x8_1 : Int) := of_decide_eq_true (by first | (with_reducible assumption) | assumption)
                have q12 : (x8_1 : Int) < ((x6_1.length : Int) : Int) := of_decide_eq_true (by first | (with_reducible assumption) | assumption)
                obtain ⟨go12, co12, eo12, gb12, gl12, cl12, HG12⟩ := Kd.R_form HO_6.out (by omega)
                (first | cases eo12 | (injection eo12 with ea_ en_ ec_; (first | subst ea_ | (injection ea_ with ea_; subst ea_)); subst ec_; clear en_))
                have GB12 := Aside0.mk gb12
                have GG12 := Aside0.mk HG12
                clear gb12 gl12 HG12
                obtain ⟨hx12_0, hf12_0⟩ := Kd.R_celln 0 HO_6.out (x8_1 : Int) p12 q12
                replace p12 := eq_true p12
                replace q12 := eq_true q12
                have HP13 := Kd.R_putg HO_6.out (x8_1 : Int) ((Int.tmod x7_1 256) % 256)
                go_wp2_with (first | ((with_reducible refine gate_store (t := 5) (p := 27) rfl ?_); refine store_event (t := 5) (p := 27) (v := ?vo_w14) (w1 := (wr.setCell ⟨go12, (x8_1 : Int).toNat, none⟩ (.int .u8 ((Int.tmod x7_1 256) % 256)))) ?hg ?ho ?hn ?hr ?_; (case ho => rfl); (case hg => rfl); (case hn => rfl); (case hr => first | (go_simp; done) | (go_simp; rfl)); intro w14 hw; have hg : wr.grownBy w14 (some go12) := (by rw [hw]; exact HP13.2); have hp_ : Kd.R (Kd.int .u8) 5 w14 w.heap.size (fun _ => True) (.slice (some ⟨go12, 0, none⟩) x6_1.length co12) y151 := (by rw [hw, Ny151.out]; exact HP13.1); clear HP13; have n0_ := Aside0.mk (hp_); have n1_ := Aside0.mk ((by rw [hw]; exact below_set (HB.out) GB12.out : Below w.heap.size w w14)); clear HO_6; clear HB; have HO_6 := n0_; have HB := n1_; clear n0_ n1_; clear hg hw hp_))
                go_roundg k1
                case measure => have := HK1.out; omega
                case rel => exact ⟨(y151), (IntKind.u64.wrap (Int.tdiv x7_1 256)), (wrap64 (x8_1 - 1)), (by first | rfl | (simp; done) | (simp [*]; done)), (by first | rfl | (simp; done) | (simp [*]; done)), H', ⟨by have := HK1.out; omega⟩, ⟨by (with_reducible repeat (first | apply Kd.R_alloc | apply Kd.R_drewN | apply Kd.R_drew)); exact HO_6.out⟩, ⟨by repeat (first | (with_reducible first | exact HB.out | apply below_alloc | apply pw_below_drewN | apply below_drew1) | exact HB.out)⟩⟩
              · rw [if_neg c11] at H
                exact absurd H (by simp)
            · rw [if_neg c10] at H
              exact absurd H (by simp)
          · rw [if_neg c9] at H
            have c9b0 : decide (0 ≤ x8_1) = false := decide_eq_false c9
            clear c9
            obtain rfl := Option.some.inj H
            go_wp2
            go_ret
            exact ⟨_, by first | rfl | (simp [errW_none, errW_some] <;> rfl) | (simp only [← hji3, ← hji4]; first | rfl | (simp [errW_none, errW_some] <;> rfl)) | (simp [*, errW_none, errW_some] <;> rfl), by (with_reducible repeat (first | apply Kd.R_alloc | apply Kd.R_drewN | apply Kd.R_drew)); exact HO_6.out, by repeat (first | (with_reducible first | exact HB.out | apply below_alloc | apply pw_below_drewN | apply below_drew1) | exact HB.out)⟩
    · rw [if_neg c6] at H
      exact absurd H (by simp)
  · rw [if_neg c5] at H
    exact absurd H (by simp)

end Go.Proofs.Ytcclmaicdmogjaa.P

-- Written by wip/pr.py over the kit's print
namespace Go.Proofs.Ytcclmaicdmogjaa.P
open Go.RowKit Go.Proofs.YtcclmaicdmogjaaW.PrintWords Go.Proofs.YtcclmaicdmogjaaW.PrintLast Go.Proofs.YtcclmaicdmogjaaW.PrintMore
attribute [local go_sem] max2_int min2_int max_two min_two max_three min_three max_four min_four   -- for this text's walks alone
set_option linter.unusedVariables false
set_option linter.unusedSimpArgs false

/-! ### calamusref06_PutMetrics: function 62 -/
mutual
def calamusref06_PutMetrics.j0 : Nat → List (S111) → Int → Bool → Option (List Int × Int)
  | 0, _, _, _ => none
  | k + 1, x0, x1, x28 => if x28 = true then (some (([] : List Int), 2)) else (calamusref06_PutMetrics.l0 k x0 x1 x0 (x0.length : Int) 0)
def calamusref06_PutMetrics.l0 : Nat → List (S111) → Int → List (S111) → Int → Int → Option (List Int × Int)
  | 0, _, _, _, _, _ => none
  | k + 1, x0, x1, x29, x30, x31 => if x31 < x30 then (if 0 ≤ x31 then (if x31 < (x29.length : Int) then (if ((rd_T111 x29 x31).f0) < 0 then (some (([] : List Int), 6)) else (if ((rd_T111 x29 x31).f0) > 65535 then (some (([] : List Int), 6)) else (if ((rd_T111 x29 x31).f1) < (-32768) then (some (([] : List Int), 6)) else (if ((rd_T111 x29 x31).f1) > 32767 then (some (([] : List Int), 6)) else (calamusref06_PutMetrics.l0 k x0 x1 x29 x30 (wrap64 (x31 + 1))))))) else (none)) else (none)) else (calamusref06_PutMetrics.l1 k x0 x1 ([] : List Int) x0 (x0.length : Int) 0)
def calamusref06_PutMetrics.l1 : Nat → List (S111) → Int → List Int → List (S111) → Int → Int → Option (List Int × Int)
  | 0, _, _, _, _, _, _ => none
  | k + 1, x0, x1, x8, x54, x55, x56 => if x56 < x55 then (if 0 ≤ x56 then (if x56 < (x54.length : Int) then (if x56 ≥ x1 then (if 0 ≤ (wrap64 (x1 - 1)) then (if (wrap64 (x1 - 1)) < (x0.length : Int) then (calamusref06_PutMetrics.j3 k x0 x1 x8 x56 x54 x55 x56 (((rd_T111 x54 x56).f0) != ((rd_T111 x0 (wrap64 (x1 - 1))).f0)) ((rd_T111 x54 x56).f0) ((rd_T111 x54 x56).f1)) else (none)) else (none)) else (calamusref06_PutMetrics.j3 k x0 x1 x8 x56 x54 x55 x56 false ((rd_T111 x54 x56).f0) ((rd_T111 x54 x56).f1))) else (none)) else (none)) else (some (x8, 0))
def calamusref06_PutMetrics.j3 : Nat → List (S111) → Int → List Int → Int → List (S111) → Int → Int → Bool → Int → Int → Option (List Int × Int)
  | 0, _, _, _, _, _, _, _, _, _, _ => none
  | k + 1, x0, x1, x8, x9, x54, x55, x56, x74, x537000, x537001 => if x74 = true then (some (([] : List Int), 4)) else (if x9 < x1 then ((calamusref02_Put.f k x537000 2).bind fun t538 => (if x8.length + t538.length < 140737488355328 then ((some (x8 ++ t538 : List Int)).bind fun y541 => ((calamusref02_Put.f k x537001 2).bind fun t544 => (if y541.length + t544.length < 140737488355328 then (calamusref06_PutMetrics.l1 k x0 x1 (y541 ++ t544) x54 x55 (wrap64 (x56 + 1))) else (none)))) else (none))) else ((calamusref02_Put.f k x537001 2).bind fun t550 => (if x8.length + t550.length < 140737488355328 then (calamusref06_PutMetrics.l1 k x0 x1 (x8 ++ t550) x54 x55 (wrap64 (x56 + 1))) else (none))))
end
def calamusref06_PutMetrics.f (k : Nat) (l0 : List (S111)) (a1 : Int) : Option (List Int × Int) := if (l0.length : Int) < 1 then (calamusref06_PutMetrics.j0 k l0 a1 true) else (if (l0.length : Int) > 1024 then (calamusref06_PutMetrics.j0 k l0 a1 true) else (if a1 < 1 then (calamusref06_PutMetrics.j0 k l0 a1 true) else (calamusref06_PutMetrics.j0 k l0 a1 (decide (a1 > (l0.length : Int))))))
theorem calamusref06_PutMetrics.mono_l : ∀ k, (∀ y0 y1 y2, LeO (calamusref06_PutMetrics.j0 k y0 y1 y2) (calamusref06_PutMetrics.j0 (k + 1) y0 y1 y2)) ∧ (∀ y0 y1 y2 y3 y4, LeO (calamusref06_PutMetrics.l0 k y0 y1 y2 y3 y4) (calamusref06_PutMetrics.l0 (k + 1) y0 y1 y2 y3 y4)) ∧ (∀ y0 y1 y2 y3 y4 y5, LeO (calamusref06_PutMetrics.l1 k y0 y1 y2 y3 y4 y5) (calamusref06_PutMetrics.l1 (k + 1) y0 y1 y2 y3 y4 y5)) ∧ (∀ y0 y1 y2 y3 y4 y5 y6 y7 y8 y9, LeO (calamusref06_PutMetrics.j3 k y0 y1 y2 y3 y4 y5 y6 y7 y8 y9) (calamusref06_PutMetrics.j3 (k + 1) y0 y1 y2 y3 y4 y5 y6 y7 y8 y9))
  | 0 => ⟨fun _ _ _ r h => by simp [calamusref06_PutMetrics.j0] at h, fun _ _ _ _ _ r h => by simp [calamusref06_PutMetrics.l0] at h, fun _ _ _ _ _ _ r h => by simp [calamusref06_PutMetrics.l1] at h, fun _ _ _ _ _ _ _ _ _ _ r h => by simp [calamusref06_PutMetrics.j3] at h⟩
  | k + 1 => by
    obtain ⟨ih0, ih1, ih2, ih3⟩ := calamusref06_PutMetrics.mono_l k
    refine ⟨?_, ?_, ?_, ?_⟩
    · intro y0 y1 y2
      unfold calamusref06_PutMetrics.j0
      repeat' first
      | (with_reducible exact ih0 _ _ _)
      | (with_reducible exact ih1 _ _ _ _ _)
      | (with_reducible exact ih2 _ _ _ _ _ _)
      | (with_reducible exact ih3 _ _ _ _ _ _ _ _ _ _)
      | (with_reducible exact calamusref02_Put.mono _ _ _)
      | (with_reducible exact LeO.refl _)
      | (with_reducible exact LeO.none _)
      | (with_reducible refine LeO.ite ?_ ?_)
      | (with_reducible refine LeO.bind ?_ (fun _ => ?_))
      | exact ih0 _ _ _
      | exact ih1 _ _ _ _ _
      | exact ih2 _ _ _ _ _ _
      | exact ih3 _ _ _ _ _ _ _ _ _ _
      | exact calamusref02_Put.mono _ _ _
      | exact LeO.none _
      | refine LeO.ite ?_ ?_
      | refine LeO.bind ?_ (fun _ => ?_)
    · intro y0 y1 y2 y3 y4
      unfold calamusref06_PutMetrics.l0
      repeat' first
      | (with_reducible exact ih0 _ _ _)
      | (with_reducible exact ih1 _ _ _ _ _)
      | (with_reducible exact ih2 _ _ _ _ _ _)
      | (with_reducible exact ih3 _ _ _ _ _ _ _ _ _ _)
      | (with_reducible exact calamusref02_Put.mono _ _ _)
      | (with_reducible exact LeO.refl _)
      | (with_reducible exact LeO.none _)
      | (with_reducible refine LeO.ite ?_ ?_)
      | (with_reducible refine LeO.bind ?_ (fun _ => ?_))
      | exact ih0 _ _ _
      | exact ih1 _ _ _ _ _
      | exact ih2 _ _ _ _ _ _
      | exact ih3 _ _ _ _ _ _ _ _ _ _
      | exact calamusref02_Put.mono _ _ _
      | exact LeO.none _
      | refine LeO.ite ?_ ?_
      | refine LeO.bind ?_ (fun _ => ?_)
    · intro y0 y1 y2 y3 y4 y5
      unfold calamusref06_PutMetrics.l1
      repeat' first
      | (with_reducible exact ih0 _ _ _)
      | (with_reducible exact ih1 _ _ _ _ _)
      | (with_reducible exact ih2 _ _ _ _ _ _)
      | (with_reducible exact ih3 _ _ _ _ _ _ _ _ _ _)
      | (with_reducible exact calamusref02_Put.mono _ _ _)
      | (with_reducible exact LeO.refl _)
      | (with_reducible exact LeO.none _)
      | (with_reducible refine LeO.ite ?_ ?_)
      | (with_reducible refine LeO.bind ?_ (fun _ => ?_))
      | exact ih0 _ _ _
      | exact ih1 _ _ _ _ _
      | exact ih2 _ _ _ _ _ _
      | exact ih3 _ _ _ _ _ _ _ _ _ _
      | exact calamusref02_Put.mono _ _ _
      | exact LeO.none _
      | refine LeO.ite ?_ ?_
      | refine LeO.bind ?_ (fun _ => ?_)
    · intro y0 y1 y2 y3 y4 y5 y6 y7 y8 y9
      unfold calamusref06_PutMetrics.j3
      repeat' first
      | (with_reducible exact ih0 _ _ _)
      | (with_reducible exact ih1 _ _ _ _ _)
      | (with_reducible exact ih2 _ _ _ _ _ _)
      | (with_reducible exact ih3 _ _ _ _ _ _ _ _ _ _)
      | (with_reducible exact calamusref02_Put.mono _ _ _)
      | (with_reducible exact LeO.refl _)
      | (with_reducible exact LeO.none _)
      | (with_reducible refine LeO.ite ?_ ?_)
      | (with_reducible refine LeO.bind ?_ (fun _ => ?_))
      | exact ih0 _ _ _
      | exact ih1 _ _ _ _ _
      | exact ih2 _ _ _ _ _ _
      | exact ih3 _ _ _ _ _ _ _ _ _ _
      | exact calamusref02_Put.mono _ _ _
      | exact LeO.none _
      | refine LeO.ite ?_ ?_
      | refine LeO.bind ?_ (fun _ => ?_)
theorem calamusref06_PutMetrics.mono : ∀ a0 a1 k, LeO (calamusref06_PutMetrics.f k a0 a1) (calamusref06_PutMetrics.f (k + 1) a0 a1) := by
  intro a0 a1 k
  obtain ⟨ih0, ih1, ih2, ih3⟩ := calamusref06_PutMetrics.mono_l k
  unfold calamusref06_PutMetrics.f
  repeat' first
      | (with_reducible exact ih0 _ _ _)
      | (with_reducible exact ih1 _ _ _ _ _)
      | (with_reducible exact ih2 _ _ _ _ _ _)
      | (with_reducible exact ih3 _ _ _ _ _ _ _ _ _ _)
      | (with_reducible exact calamusref02_Put.mono _ _ _)
      | (with_reducible exact LeO.refl _)
      | (with_reducible exact LeO.none _)
      | (with_reducible refine LeO.ite ?_ ?_)
      | (with_reducible refine LeO.bind ?_ (fun _ => ?_))
      | exact ih0 _ _ _
      | exact ih1 _ _ _ _ _
      | exact ih2 _ _ _ _ _ _
      | exact ih3 _ _ _ _ _ _ _ _ _ _
      | exact calamusref02_Put.mono _ _ _
      | exact LeO.none _
      | refine LeO.ite ?_ ?_
      | refine LeO.bind ?_ (fun _ => ?_)
set_option maxHeartbeats 8000000 in
set_option maxRecDepth 100000 in
theorem calamusref06_PutMetrics.calls (k : Nat) (A0 : Option Addr) (c0 : Nat) (l0 : List (S111)) (a1 : Int) (r1 : List Int) (r2 : Int) (w : World) (hr0 : Kd.C k111 w A0 l0.length l0) (hc0 : l0.length ≤ c0) (h : calamusref06_PutMetrics.f k l0 a1 = some (r1, r2)) :
    Calls Try.prog 62 #[.slice A0 l0.length c0, .int .i64 a1] w fun e w' => ∃ v0_ : Value, e = .returned (.tuple #[v0_, .int .i64 r2]) ∧ Kd.R (Kd.int .u8) 5 w' w.heap.size (fun _ => True) v0_ r1 ∧ Below w.heap.size w w' := by
  have hu111 := Try.underlying111
  have HR0 := Aside0.mk hr0
  have HC0 := Aside0.mk hc0
  clear hr0 hc0
  have HB := Aside0.mk (Below.refl w.heap.size w)
  have H : (if (l0.length : Int) < 1 then (calamusref06_PutMetrics.j0 k l0 a1 true) else (if (l0.length : Int) > 1024 then (calamusref06_PutMetrics.j0 k l0 a1 true) else (if a1 < 1 then (calamusref06_PutMetrics.j0 k l0 a1 true) else (calamusref06_PutMetrics.j0 k l0 a1 (decide (a1 > (l0.length : Int))))))) = some (r1, r2) := h
  clear h
  have HC3 := Aside0.mk H
  clear H
  go_enter Try.func62, Try.ntmps62
  go_upto_region 1 with (fail)
  repeat (go_quiet (fail); go_upto_region 1 with (fail))
  go_cut [28] (fun v28 wc => ∃ (kq : Nat) (x28_2 : Bool), v28 = .bool x28_2 ∧ Aside0 (calamusref06_PutMetrics.j0 kq l0 a1 x28_2 = some (r1, r2)) ∧ Aside0 (kq ≤ k) ∧ Aside0 (Below w.heap.size w wc))
  case first =>
    have H := HC3.out
    clear HC3
    by_cases c4 : (l0.length : Int) < 1
    · rw [if_pos c4] at H
      have c4b0 : decide ((l0.length : Int) < 1) = true := decide_eq_true c4
      have c4b1 : decide (l0.length < 1) = true := decide_eq_true (by omega)
      clear c4
      (first | rw [c4b0] | (simp only [i64_w, i32_w]; rw [c4b0]) | skip)
      have H' := Aside0.mk H
      clear H
      go_wp2
      repeat (go_quiet (fail); try go_wp2)
      go_meet
      case rel => exact ⟨_, (true), (by first | rfl | (simp; done) | (simp [*]; done)), H', ⟨by first | omega | exact Nat.le_refl _⟩, ⟨by repeat (first | (with_reducible first | exact HB.out | apply below_alloc | apply pw_below_drewN | apply below_drew1) | exact HB.out)⟩⟩
    · rw [if_neg c4] at H
      have c4b0 : decide ((l0.length : Int) < 1) = false := decide_eq_false c4
      have c4b1 : decide (l0.length < 1) = false := decide_eq_false (by omega)
      clear c4
      (first | rw [c4b0] | (simp only [i64_w, i32_w]; rw [c4b0]) | skip)
      by_cases c5 : (l0.length : Int) > 1024
      · rw [if_pos c5] at H
        have c5b0 : decide (1024 < (l0.length : Int)) = true := decide_eq_true c5
        have c5b1 : decide (1024 < l0.length) = true := decide_eq_true (by omega)
        clear c5
        have H' := Aside0.mk H
        clear H
        go_wp2
        repeat (go_quiet (fail); try go_wp2)
        go_meet
        case rel => exact ⟨_, (true), (by first | rfl | (simp; done) | (simp [*]; done)), H', ⟨by first | omega | exact Nat.le_refl _⟩, ⟨by repeat (first | (with_reducible first | exact HB.out | apply below_alloc | apply pw_below_drewN | apply below_drew1) | exact HB.out)⟩⟩
      · rw [if_neg c5] at H
        have c5b0 : decide (1024 < (l0.length : Int)) = false := decide_eq_false c5
        have c5b1 : decide (1024 < l0.length) = false := decide_eq_false (by omega)
        clear c5
        by_cases c6 : a1 < 1
        · rw [if_pos c6] at H
          have c6b0 : decide (a1 < 1) = true := decide_eq_true c6
          clear c6
          have H' := Aside0.mk H
          clear H
          go_wp2
          repeat (go_quiet (fail); try go_wp2)
          go_meet
          case rel => exact ⟨_, (true), (by first | rfl | (simp; done) | (simp [*]; done)), H', ⟨by first | omega | exact Nat.le_refl _⟩, ⟨by repeat (first | (with_reducible first | exact HB.out | apply below_alloc | apply pw_below_drewN | apply below_drew1) | exact HB.out)⟩⟩
        · rw [if_neg c6] at H
          have c6b0 : decide (a1 < 1) = false := decide_eq_false c6
          clear c6
          have H' := Aside0.mk H
          clear H
          go_wp2
          repeat (go_quiet (fail); try go_wp2)
          go_meet
          case rel => exact ⟨_, (decide (a1 > (l0.length : Int))), (by first | rfl | (simp; done) | (simp [*]; done)), H', ⟨by first | omega | exact Nat.le_refl _⟩, ⟨by repeat (first | (with_reducible first | exact HB.out | apply below_alloc | apply pw_below_drewN | apply below_drew1) | exact HB.out)⟩⟩
  case rest =>
    clear HC3
    try clear p2
    try clear c4
    try clear c4b0
    try clear c4b1
    try clear c5
    try clear c5b0
    try clear c5b1
    try clear c6
    try clear c6b0
    obtain ⟨kq, x28_2, rfl, HA, HJ2, HB⟩ := hcut
    cases kq with
    | zero => exact absurd HA.out (by simp [calamusref06_PutMetrics.j0])
    | succ kj2 =>
      have H := HA.out
      clear HA
      simp only [calamusref06_PutMetrics.j0] at H
      by_cases c7 : x28_2 = true
      · subst c7
        have H1 : (some (([] : List Int), 2)) = some (r1, r2) := by rw [if_pos rfl] at H; exact H
        clear H
        have H := H1
        clear H1
        simp only [Option.some.injEq, Prod.mk.injEq] at H
        obtain ⟨rfl, rfl⟩ := H
        go_wp2
        repeat (go_quiet (fail); try go_wp2)
        go_ret2
        exact ⟨_, by first | rfl | (simp [errW_none, errW_some] <;> rfl) | (simp [*, errW_none, errW_some] <;> rfl), by first | exact Kd.R_nil _ _ _ _ _ | exact Kd.N_nil _ _ _ _ _ | exact Kd.V_nil _ _ _ _ _ | exact Kd.Q_nil _ _ _ _ _ | exact Kd.S_nil _ _ _ _ _, by repeat (first | (with_reducible first | exact HB.out | apply below_alloc | apply pw_below_drewN | apply below_drew1) | exact HB.out)⟩
      · replace c7 := Bool.eq_false_iff.mpr c7
        subst c7
        have H1 : (calamusref06_PutMetrics.l0 kj2 l0 a1 l0 (l0.length : Int) 0) = some (r1, r2) := by rw [if_neg (show ¬ (false = true) by decide)] at H; exact H
        clear H
        have H := H1
        clear H1
        have H' := Aside0.mk H
        clear H
        go_wp2
        repeat (go_quiet (fail); try go_wp2)
        go_loopg [31] kj2 (fun kq v31 w' => ∃ (x31_2 : Int), v31 = .int .i64 x31_2 ∧ Aside0 (calamusref06_PutMetrics.l0 kq l0 a1 l0 (l0.length : Int) x31_2 = some (r1, r2)) ∧ Aside0 (kq ≤ kj2) ∧ Aside0 (Below w.heap.size w w'))
        case atStart => exact ⟨(0), (by first | rfl | (simp; done) | (simp [*]; done)), H', ⟨Nat.le_refl _⟩, ⟨by repeat (first | (with_reducible first | exact HB.out | apply below_alloc | apply pw_below_drewN | apply below_drew1) | exact HB.out)⟩⟩
        case round =>
          clear H'
          try clear p2
          try clear c4
          try clear c4b0
          try clear c4b1
          try clear c5
          try clear c5b0
          try clear c5b1
          try clear c6
          try clear c6b0
          try clear c7
          try clear p2
          obtain ⟨x31_2, rfl, HA, HK2, HB⟩ := hrel
          cases gk with
          | zero => exact absurd HA.out (by simp [calamusref06_PutMetrics.l0])
          | succ k2 =>
            have H := HA.out
            clear HA
            simp only [calamusref06_PutMetrics.l0] at H
            by_cases c8 : x31_2 < (l0.length : Int)
            · rw [if_pos c8] at H
              have c8b0 : decide (x31_2 < (l0.length : Int)) = true := decide_eq_true c8
              clear c8
              by_cases c9 : 0 ≤ x31_2
              · rw [if_pos c9] at H
                have c9b0 : decide (0 ≤ x31_2) = true := decide_eq_true c9
                clear c9
                by_cases c10 : x31_2 < (l0.length : Int)
                · rw [if_pos c10] at H
                  have c10b0 : decide (x31_2 < (l0.length : Int)) = true := decide_eq_true c10
                  clear c10
                  by_cases c11 : ((rd_T111 l0 x31_2).f0) < 0
                  · rw [if_pos c11] at H
                    have c11b0 : decide (((rd_T111 l0 x31_2).f0) < 0) = true := decide_eq_true c11
                    clear c11
                    simp only [Option.some.injEq, Prod.mk.injEq] at H
                    obtain ⟨rfl, rfl⟩ := H
                    have p533 : 0 ≤ (x31_2 : Int) := of_decide_eq_true (by first | (with_reducible assumption) | assumption)
                    have q533 : x31_2 < (l0.length : Int) := of_decide_eq_true (by first | (with_reducible assumption) | assumption)
                    obtain ⟨ad533, e533, hx533_0, hx533_1⟩ := at_T111 HR0.out x31_2 p533 q533
                    cases e533
                    replace hx533_0 := (HB.out.cell (World.block_lt_of_cell? w _ hx533_0)).trans hx533_0
                    replace hx533_1 := (HB.out.cell (World.block_lt_of_cell? w _ hx533_1)).trans hx533_1
                    replace p533 := eq_true p533
                    replace q533 := eq_true q533
                    go_wp2_with (first | ((with_reducible refine gate_dst (N := 7) rfl ?_); (try (refine gate_guard (by rfl) ?_; dsimp only)); refine box_event ?hg (N := 7) ?hd (cs := #[.int .i64 0, .int .i64 0]) (t := 111) ?hr ?_; (case hd => rfl); (case hg => rfl); (case hr => first | (go_simp; done) | (go_simp; rfl)); intro gb534 hg w12 hbox hb; have n0_ := Aside0.mk (below_step (by repeat (first | (with_reducible first | exact HB.out | apply below_alloc | apply pw_below_drewN | apply below_drew1) | exact HB.out)) hb); have n1_ := Aside0.mk (hbox); have n2_ := Aside0.mk ((by rw [hg]; exact (below_size (by repeat (first | (with_reducible first | exact HB.out | apply below_alloc | apply pw_below_drewN | apply below_drew1) | exact HB.out))) : w.heap.size ≤ gb534)); have n3_ := Aside0.mk ((by rw [hg]; exact (below_size (by repeat (first | (with_reducible first | exact HB.out | apply below_alloc | apply pw_below_drewN | apply below_drew1) | exact HB.out))) : w.heap.size ≤ gb534)); clear HB; have HB := n0_; have BK534 := n1_; have GW534 := n2_; have GE534 := n3_; clear n0_ n1_ n2_ n3_; clear hb hbox hg; have hcz13_0 : w12.cell? ⟨gb534, 0, none⟩ = some (.int .i64 0) := (blk_cell BK534.out 0).trans rfl; have hcz13_1 : w12.cell? ⟨gb534, 1, none⟩ = some (.int .i64 0) := (blk_cell BK534.out 1).trans rfl; have hfz13_0 := blk_frozen BK534.out 0; have hfz13_1 := blk_frozen BK534.out 1))
                    repeat (go_quiet (first | ((with_reducible refine gate_dst (N := 7) rfl ?_); (try (refine gate_guard (by rfl) ?_; dsimp only)); refine box_event ?hg (N := 7) ?hd (cs := #[.int .i64 0, .int .i64 0]) (t := 111) ?hr ?_; (case hd => rfl); (case hg => rfl); (case hr => first | (go_simp; done) | (go_simp; rfl)); intro gb534 hg w12 hbox hb; have n0_ := Aside0.mk (below_step (by repeat (first | (with_reducible first | exact HB.out | apply below_alloc | apply pw_below_drewN | apply below_drew1) | exact HB.out)) hb); have n1_ := Aside0.mk (hbox); have n2_ := Aside0.mk ((by rw [hg]; exact (below_size (by repeat (first | (with_reducible first | exact HB.out | apply below_alloc | apply pw_below_drewN | apply below_drew1) | exact HB.out))) : w.heap.size ≤ gb534)); have n3_ := Aside0.mk ((by rw [hg]; exact (below_size (by repeat (first | (with_reducible first | exact HB.out | apply below_alloc | apply pw_below_drewN | apply below_drew1) | exact HB.out))) : w.heap.size ≤ gb534)); clear HB; have HB := n0_; have BK534 := n1_; have GW534 := n2_; have GE534 := n3_; clear n0_ n1_ n2_ n3_; clear hb hbox hg; have hcz13_0 : w12.cell? ⟨gb534, 0, none⟩ = some (.int .i64 0) := (blk_cell BK534.out 0).trans rfl; have hcz13_1 : w12.cell? ⟨gb534, 1, none⟩ = some (.int .i64 0) := (blk_cell BK534.out 1).trans rfl; have hfz13_0 := blk_frozen BK534.out 0; have hfz13_1 := blk_frozen BK534.out 1)); try go_wp2_with (first | ((with_reducible refine gate_dst (N := 7) rfl ?_); (try (refine gate_guard (by rfl) ?_; dsimp only)); refine box_event ?hg (N := 7) ?hd (cs := #[.int .i64 0, .int .i64 0]) (t := 111) ?hr ?_; (case hd => rfl); (case hg => rfl); (case hr => first | (go_simp; done) | (go_simp; rfl)); intro gb534 hg w12 hbox hb; have n0_ := Aside0.mk (below_step (by repeat (first | (with_reducible first | exact HB.out | apply below_alloc | apply pw_below_drewN | apply below_drew1) | exact HB.out)) hb); have n1_ := Aside0.mk (hbox); have n2_ := Aside0.mk ((by rw [hg]; exact (below_size (by repeat (first | (with_reducible first | exact HB.out | apply below_alloc | apply pw_below_drewN | apply below_drew1) | exact HB.out))) : w.heap.size ≤ gb534)); have n3_ := Aside0.mk ((by rw [hg]; exact (below_size (by repeat (first | (with_reducible first | exact HB.out | apply below_alloc | apply pw_below_drewN | apply below_drew1) | exact HB.out))) : w.heap.size ≤ gb534)); clear HB; have HB := n0_; have BK534 := n1_; have GW534 := n2_; have GE534 := n3_; clear n0_ n1_ n2_ n3_; clear hb hbox hg; have hcz13_0 : w12.cell? ⟨gb534, 0, none⟩ = some (.int .i64 0) := (blk_cell BK534.out 0).trans rfl; have hcz13_1 : w12.cell? ⟨gb534, 1, none⟩ = some (.int .i64 0) := (blk_cell BK534.out 1).trans rfl; have hfz13_0 := blk_frozen BK534.out 0; have hfz13_1 := blk_frozen BK534.out 1)))
                    go_ret2
                    exact ⟨_, by first | rfl | (simp [errW_none, errW_some] <;> rfl) | (simp [*, errW_none, errW_some] <;> rfl), by first | exact Kd.R_nil _ _ _ _ _ | exact Kd.N_nil _ _ _ _ _ | exact Kd.V_nil _ _ _ _ _ | exact Kd.Q_nil _ _ _ _ _ | exact Kd.S_nil _ _ _ _ _, by repeat (first | (with_reducible first | exact HB.out | apply below_alloc | apply pw_below_drewN | apply below_drew1 | refine below_set ?_ GE534.out) | exact HB.out)⟩
                  · rw [if_neg c11] at H
                    have c11b0 : decide (((rd_T111 l0 x31_2).f0) < 0) = false := decide_eq_false c11
                    clear c11
                    by_cases c14 : ((rd_T111 l0 x31_2).f0) > 65535
                    · rw [if_pos c14] at H
                      have c14b0 : decide (65535 < ((rd_T111 l0 x31_2).f0)) = true := decide_eq_true c14
                      clear c14
                      simp only [Option.some.injEq, Prod.mk.injEq] at H
                      obtain ⟨rfl, rfl⟩ := H
                      have p533 : 0 ≤ (x31_2 : Int) := of_decide_eq_true (by first | (with_reducible assumption) | assumption)
                      have q533 : x31_2 < (l0.length : Int) := of_decide_eq_true (by first | (with_reducible assumption) | assumption)
                      obtain ⟨ad533, e533, hx533_0, hx533_1⟩ := at_T111 HR0.out x31_2 p533 q533
                      cases e533
                      replace hx533_0 := (HB.out.cell (World.block_lt_of_cell? w _ hx533_0)).trans hx533_0
                      replace hx533_1 := (HB.out.cell (World.block_lt_of_cell? w _ hx533_1)).trans hx533_1
                      replace p533 := eq_true p533
                      replace q533 := eq_true q533
                      go_wp2_with (first | ((with_reducible refine gate_dst (N := 7) rfl ?_); (try (refine gate_guard (by rfl) ?_; dsimp only)); refine box_event ?hg (N := 7) ?hd (cs := #[.int .i64 0, .int .i64 0]) (t := 111) ?hr ?_; (case hd => rfl); (case hg => rfl); (case hr => first | (go_simp; done) | (go_simp; rfl)); intro gb534 hg w15 hbox hb; have n0_ := Aside0.mk (below_step (by repeat (first | (with_reducible first | exact HB.out | apply below_alloc | apply pw_below_drewN | apply below_drew1) | exact HB.out)) hb); have n1_ := Aside0.mk (hbox); have n2_ := Aside0.mk ((by rw [hg]; exact (below_size (by repeat (first | (with_reducible first | exact HB.out | apply below_alloc | apply pw_below_drewN | apply below_drew1) | exact HB.out))) : w.heap.size ≤ gb534)); have n3_ := Aside0.mk ((by rw [hg]; exact (below_size (by repeat (first | (with_reducible first | exact HB.out | apply below_alloc | apply pw_below_drewN | apply below_drew1) | exact HB.out))) : w.heap.size ≤ gb534)); clear HB; have HB := n0_; have BK534 := n1_; have GW534 := n2_; have GE534 := n3_; clear n0_ n1_ n2_ n3_; clear hb hbox hg; have hcz16_0 : w15.cell? ⟨gb534, 0, none⟩ = some (.int .i64 0) := (blk_cell BK534.out 0).trans rfl; have hcz16_1 : w15.cell? ⟨gb534, 1, none⟩ = some (.int .i64 0) := (blk_cell BK534.out 1).trans rfl; have hfz16_0 := blk_frozen BK534.out 0; have hfz16_1 := blk_frozen BK534.out 1))
                      repeat (go_quiet (first | ((with_reducible refine gate_dst (N := 7) rfl ?_); (try (refine gate_guard (by rfl) ?_; dsimp only)); refine box_event ?hg (N := 7) ?hd (cs := #[.int .i64 0, .int .i64 0]) (t := 111) ?hr ?_; (case hd => rfl); (case hg => rfl); (case hr => first | (go_simp; done) | (go_simp; rfl)); intro gb534 hg w15 hbox hb; have n0_ := Aside0.mk (below_step (by repeat (first | (with_reducible first | exact HB.out | apply below_alloc | apply pw_below_drewN | apply below_drew1) | exact HB.out)) hb); have n1_ := Aside0.mk (hbox); have n2_ := Aside0.mk ((by rw [hg]; exact (below_size (by repeat (first | (with_reducible first | exact HB.out | apply below_alloc | apply pw_below_drewN | apply below_drew1) | exact HB.out))) : w.heap.size ≤ gb534)); have n3_ := Aside0.mk ((by rw [hg]; exact (below_size (by repeat (first | (with_reducible first | exact HB.out | apply below_alloc | apply pw_below_drewN | apply below_drew1) | exact HB.out))) : w.heap.size ≤ gb534)); clear HB; have HB := n0_; have BK534 := n1_; have GW534 := n2_; have GE534 := n3_; clear n0_ n1_ n2_ n3_; clear hb hbox hg; have hcz16_0 : w15.cell? ⟨gb534, 0, none⟩ = some (.int .i64 0) := (blk_cell BK534.out 0).trans rfl; have hcz16_1 : w15.cell? ⟨gb534, 1, none⟩ = some (.int .i64 0) := (blk_cell BK534.out 1).trans rfl; have hfz16_0 := blk_frozen BK534.out 0; have hfz16_1 := blk_frozen BK534.out 1)); try go_wp2_with (first | ((with_reducible refine gate_dst (N := 7) rfl ?_); (try (refine gate_guard (by rfl) ?_; dsimp only)); refine box_event ?hg (N := 7) ?hd (cs := #[.int .i64 0, .int .i64 0]) (t := 111) ?hr ?_; (case hd => rfl); (case hg => rfl); (case hr => first | (go_simp; done) | (go_simp; rfl)); intro gb534 hg w15 hbox hb; have n0_ := Aside0.mk (below_step (by repeat (first | (with_reducible first | exact HB.out | apply below_alloc | apply pw_below_drewN | apply below_drew1) | exact HB.out)) hb); have n1_ := Aside0.mk (hbox); have n2_ := Aside0.mk ((by rw [hg]; exact (below_size (by repeat (first | (with_reducible first | exact HB.out | apply below_alloc | apply pw_below_drewN | apply below_drew1) | exact HB.out))) : w.heap.size ≤ gb534)); have n3_ := Aside0.mk ((by rw [hg]; exact (below_size (by repeat (first | (with_reducible first | exact HB.out | apply below_alloc | apply pw_below_drewN | apply below_drew1) | exact HB.out))) : w.heap.size ≤ gb534)); clear HB; have HB := n0_; have BK534 := n1_; have GW534 := n2_; have GE534 := n3_; clear n0_ n1_ n2_ n3_; clear hb hbox hg; have hcz16_0 : w15.cell? ⟨gb534, 0, none⟩ = some (.int .i64 0) := (blk_cell BK534.out 0).trans rfl; have hcz16_1 : w15.cell? ⟨gb534, 1, none⟩ = some (.int .i64 0) := (blk_cell BK534.out 1).trans rfl; have hfz16_0 := blk_frozen BK534.out 0; have hfz16_1 := blk_frozen BK534.out 1)))
                      go_ret2
                      exact ⟨_, by first | rfl | (simp [errW_none, errW_some] <;> rfl) | (simp [*, errW_none, errW_some] <;> rfl), by first | exact Kd.R_nil _ _ _ _ _ | exact Kd.N_nil _ _ _ _ _ | exact Kd.V_nil _ _ _ _ _ | exact Kd.Q_nil _ _ _ _ _ | exact Kd.S_nil _ _ _ _ _, by repeat (first | (with_reducible first | exact HB.out | apply below_alloc | apply pw_below_drewN | apply below_drew1 | refine below_set ?_ GE534.out) | exact HB.out)⟩
                    · rw [if_neg c14] at H
                      have c14b0 : decide (65535 < ((rd_T111 l0 x31_2).f0)) = false := decide_eq_false c14
                      clear c14
                      by_cases c17 : ((rd_T111 l0 x31_2).f1) < (-32768)
                      · rw [if_pos c17] at H
                        have c17b0 : decide (((rd_T111 l0 x31_2).f1) < (-32768)) = true := decide_eq_true c17
                        clear c17
                        simp only [Option.some.injEq, Prod.mk.injEq] at H
                        obtain ⟨rfl, rfl⟩ := H
                        have p533 : 0 ≤ (x31_2 : Int) := of_decide_eq_true (by first | (with_reducible assumption) | assumption)
                        have q533 : x31_2 < (l0.length : Int) := of_decide_eq_true (by first | (with_reducible assumption) | assumption)
                        obtain ⟨ad533, e533, hx533_0, hx533_1⟩ := at_T111 HR0.out x31_2 p533 q533
                        cases e533
                        replace hx533_0 := (HB.out.cell (World.block_lt_of_cell? w _ hx533_0)).trans hx533_0
                        replace hx533_1 := (HB.out.cell (World.block_lt_of_cell? w _ hx533_1)).trans hx533_1
                        replace p533 := eq_true p533
                        replace q533 := eq_true q533
                        go_wp2_with (first | ((with_reducible refine gate_dst (N := 7) rfl ?_); (try (refine gate_guard (by rfl) ?_; dsimp only)); refine box_event ?hg (N := 7) ?hd (cs := #[.int .i64 0, .int .i64 0]) (t := 111) ?hr ?_; (case hd => rfl); (case hg => rfl); (case hr => first | (go_simp; done) | (go_simp; rfl)); intro gb534 hg w18 hbox hb; have n0_ := Aside0.mk (below_step (by repeat (first | (with_reducible first | exact HB.out | apply below_alloc | apply pw_below_drewN | apply below_drew1) | exact HB.out)) hb); have n1_ := Aside0.mk (hbox); have n2_ := Aside0.mk ((by rw [hg]; exact (below_size (by repeat (first | (with_reducible first | exact HB.out | apply below_alloc | apply pw_below_drewN | apply below_drew1) | exact HB.out))) : w.heap.size ≤ gb534)); have n3_ := Aside0.mk ((by rw [hg]; exact (below_size (by repeat (first | (with_reducible first | exact HB.out | apply below_alloc | apply pw_below_drewN | apply below_drew1) | exact HB.out))) : w.heap.size ≤ gb534)); clear HB; have HB := n0_; have BK534 := n1_; have GW534 := n2_; have GE534 := n3_; clear n0_ n1_ n2_ n3_; clear hb hbox hg; have hcz19_0 : w18.cell? ⟨gb534, 0, none⟩ = some (.int .i64 0) := (blk_cell BK534.out 0).trans rfl; have hcz19_1 : w18.cell? ⟨gb534, 1, none⟩ = some (.int .i64 0) := (blk_cell BK534.out 1).trans rfl; have hfz19_0 := blk_frozen BK534.out 0; have hfz19_1 := blk_frozen BK534.out 1))
                        repeat (go_quiet (first | ((with_reducible refine gate_dst (N := 7) rfl ?_); (try (refine gate_guard (by rfl) ?_; dsimp only)); refine box_event ?hg (N := 7) ?hd (cs := #[.int .i64 0, .int .i64 0]) (t := 111) ?hr ?_; (case hd => rfl); (case hg => rfl); (case hr => first | (go_simp; done) | (go_simp; rfl)); intro gb534 hg w18 hbox hb; have n0_ := Aside0.mk (below_step (by repeat (first | (with_reducible first | exact HB.out | apply below_alloc | apply pw_below_drewN | apply below_drew1) | exact HB.out)) hb); have n1_ := Aside0.mk (hbox); have n2_ := Aside0.mk ((by rw [hg]; exact (below_size (by repeat (first | (with_reducible first | exact HB.out | apply below_alloc | apply pw_below_drewN | apply below_drew1) | exact HB.out))) : w.heap.size ≤ gb534)); have n3_ := Aside0.mk ((by rw [hg]; exact (below_size (by repeat (first | (with_reducible first | exact HB.out | apply below_alloc | apply pw_below_drewN | apply below_drew1) | exact HB.out))) : w.heap.size ≤ gb534)); clear HB; have HB := n0_; have BK534 := n1_; have GW534 := n2_; have GE534 := n3_; clear n0_ n1_ n2_ n3_; clear hb hbox hg; have hcz19_0 : w18.cell? ⟨gb534, 0, none⟩ = some (.int .i64 0) := (blk_cell BK534.out 0).trans rfl; have hcz19_1 : w18.cell? ⟨gb534, 1, none⟩ = some (.int .i64 0) := (blk_cell BK534.out 1).trans rfl; have hfz19_0 := blk_frozen BK534.out 0; have hfz19_1 := blk_frozen BK534.out 1)); try go_wp2_with (first | ((with_reducible refine gate_dst (N := 7) rfl ?_); (try (refine gate_guard (by rfl) ?_; dsimp only)); refine box_event ?hg (N := 7) ?hd (cs := #[.int .i64 0, .int .i64 0]) (t := 111) ?hr ?_; (case hd => rfl); (case hg => rfl); (case hr => first | (go_simp; done) | (go_simp; rfl)); intro gb534 hg w18 hbox hb; have n0_ := Aside0.mk (below_step (by repeat (first | (with_reducible first | exact HB.out | apply below_alloc | apply pw_below_drewN | apply below_drew1) | exact HB.out)) hb); have n1_ := Aside0.mk (hbox); have n2_ := Aside0.mk ((by rw [hg]; exact (below_size (by repeat (first | (with_reducible first | exact HB.out | apply below_alloc | apply pw_below_drewN | apply below_drew1) | exact HB.out))) : w.heap.size ≤ gb534)); have n3_ := Aside0.mk ((by rw [hg]; exact (below_size (by repeat (first | (with_reducible first | exact HB.out | apply below_alloc | apply pw_below_drewN | apply below_drew1) | exact HB.out))) : w.heap.size ≤ gb534)); clear HB; have HB := n0_; have BK534 := n1_; have GW534 := n2_; have GE534 := n3_; clear n0_ n1_ n2_ n3_; clear hb hbox hg; have hcz19_0 : w18.cell? ⟨gb534, 0, none⟩ = some (.int .i64 0) := (blk_cell BK534.out 0).trans rfl; have hcz19_1 : w18.cell? ⟨gb534, 1, none⟩ = some (.int .i64 0) := (blk_cell BK534.out 1).trans rfl; have hfz19_0 := blk_frozen BK534.out 0; have hfz19_1 := blk_frozen BK534.out 1)))
                        go_ret2
                        exact ⟨_, by first | rfl | (simp [errW_none, errW_some] <;> rfl) | (simp [*, errW_none, errW_some] <;> rfl), by first | exact Kd.R_nil _ _ _ _ _ | exact Kd.N_nil _ _ _ _ _ | exact Kd.V_nil _ _ _ _ _ | exact Kd.Q_nil _ _ _ _ _ | exact Kd.S_nil _ _ _ _ _, by repeat (first | (with_reducible first | exact HB.out | apply below_alloc | apply pw_below_drewN | apply below_drew1 | refine below_set ?_ GE534.out) | exact HB.out)⟩
                      · rw [if_neg c17] at H
                        have c17b0 : decide (((rd_T111 l0 x31_2).f1) < (-32768)) = false := decide_eq_false c17
                        clear c17
                        by_cases c20 : ((rd_T111 l0 x31_2).f1) > 32767
                        · rw [if_pos c20] at H
                          have c20b0 : decide (32767 < ((rd_T111 l0 x31_2).f1)) = true := decide_eq_true c20
                          clear c20
                          simp only [Option.some.injEq, Prod.mk.injEq] at H
                          obtain ⟨rfl, rfl⟩ := H
                          have p533 : 0 ≤ (x31_2 : Int) := of_decide_eq_true (by first | (with_reducible assumption) | assumption)
                          have q533 : x31_2 < (l0.length : Int) := of_decide_eq_true (by first | (with_reducible assumption) | assumption)
                          obtain ⟨ad533, e533, hx533_0, hx533_1⟩ := at_T111 HR0.out x31_2 p533 q533
                          cases e533
                          replace hx533_0 := (HB.out.cell (World.block_lt_of_cell? w _ hx533_0)).trans hx533_0
                          replace hx533_1 := (HB.out.cell (World.block_lt_of_cell? w _ hx533_1)).trans hx533_1
                          replace p533 := eq_true p533
                          replace q533 := eq_true q533
                          go_wp2_with (first | ((with_reducible refine gate_dst (N := 7) rfl ?_); (try (refine gate_guard (by rfl) ?_; dsimp only)); refine box_event ?hg (N := 7) ?hd (cs := #[.int .i64 0, .int .i64 0]) (t := 111) ?hr ?_; (case hd => rfl); (case hg => rfl); (case hr => first | (go_simp; done) | (go_simp; rfl)); intro gb534 hg w21 hbox hb; have n0_ := Aside0.mk (below_step (by repeat (first | (with_reducible first | exact HB.out | apply below_alloc | apply pw_below_drewN | apply below_drew1) | exact HB.out)) hb); have n1_ := Aside0.mk (hbox); have n2_ := Aside0.mk ((by rw [hg]; exact (below_size (by repeat (first | (with_reducible first | exact HB.out | apply below_alloc | apply pw_below_drewN | apply below_drew1) | exact HB.out))) : w.heap.size ≤ gb534)); have n3_ := Aside0.mk ((by rw [hg]; exact (below_size (by repeat (first | (with_reducible first | exact HB.out | apply below_alloc | apply pw_below_drewN | apply below_drew1) | exact HB.out))) : w.heap.size ≤ gb534)); clear HB; have HB := n0_; have BK534 := n1_; have GW534 := n2_; have GE534 := n3_; clear n0_ n1_ n2_ n3_; clear hb hbox hg; have hcz22_0 : w21.cell? ⟨gb534, 0, none⟩ = some (.int .i64 0) := (blk_cell BK534.out 0).trans rfl; have hcz22_1 : w21.cell? ⟨gb534, 1, none⟩ = some (.int .i64 0) := (blk_cell BK534.out 1).trans rfl; have hfz22_0 := blk_frozen BK534.out 0; have hfz22_1 := blk_frozen BK534.out 1))
                          repeat (go_quiet (first | ((with_reducible refine gate_dst (N := 7) rfl ?_); (try (refine gate_guard (by rfl) ?_; dsimp only)); refine box_event ?hg (N := 7) ?hd (cs := #[.int .i64 0, .int .i64 0]) (t := 111) ?hr ?_; (case hd => rfl); (case hg => rfl); (case hr => first | (go_simp; done) | (go_simp; rfl)); intro gb534 hg w21 hbox hb; have n0_ := Aside0.mk (below_step (by repeat (first | (with_reducible first | exact HB.out | apply below_alloc | apply pw_below_drewN | apply below_drew1) | exact HB.out)) hb); have n1_ := Aside0.mk (hbox); have n2_ := Aside0.mk ((by rw [hg]; exact (below_size (by repeat (first | (with_reducible first | exact HB.out | apply below_alloc | apply pw_below_drewN | apply below_drew1) | exact HB.out))) : w.heap.size ≤ gb534)); have n3_ := Aside0.mk ((by rw [hg]; exact (below_size (by repeat (first | (with_reducible first | exact HB.out | apply below_alloc | apply pw_below_drewN | apply below_drew1) | exact HB.out))) : w.heap.size ≤ gb534)); clear HB; have HB := n0_; have BK534 := n1_; have GW534 := n2_; have GE534 := n3_; clear n0_ n1_ n2_ n3_; clear hb hbox hg; have hcz22_0 : w21.cell? ⟨gb534, 0, none⟩ = some (.int .i64 0) := (blk_cell BK534.out 0).trans rfl; have hcz22_1 : w21.cell? ⟨gb534, 1, none⟩ = some (.int .i64 0) := (blk_cell BK534.out 1).trans rfl; have hfz22_0 := blk_frozen BK534.out 0; have hfz22_1 := blk_frozen BK534.out 1)); try go_wp2_with (first | ((with_reducible refine gate_dst (N := 7) rfl ?_); (try (refine gate_guard (by rfl) ?_; dsimp only)); refine box_event ?hg (N := 7) ?hd (cs := #[.int .i64 0, .int .i64 0]) (t := 111) ?hr ?_; (case hd => rfl); (case hg => rfl); (case hr => first | (go_simp; done) | (go_simp; rfl)); intro gb534 hg w21 hbox hb; have n0_ := Aside0.mk (below_step (by repeat (first | (with_reducible first | exact HB.out | apply below_alloc | apply pw_below_drewN | apply below_drew1) | exact HB.out)) hb); have n1_ := Aside0.mk (hbox); have n2_ := Aside0.mk ((by rw [hg]; exact (below_size (by repeat (first | (with_reducible first | exact HB.out | apply below_alloc | apply pw_below_drewN | apply below_drew1) | exact HB.out))) : w.heap.size ≤ gb534)); have n3_ := Aside0.mk ((by rw [hg]; exact (below_size (by repeat (first | (with_reducible first | exact HB.out | apply below_alloc | apply pw_below_drewN | apply below_drew1) | exact HB.out))) : w.heap.size ≤ gb534)); clear HB; have HB := n0_; have BK534 := n1_; have GW534 := n2_; have GE534 := n3_; clear n0_ n1_ n2_ n3_; clear hb hbox hg; have hcz22_0 : w21.cell? ⟨gb534, 0, none⟩ = some (.int .i64 0) := (blk_cell BK534.out 0).trans rfl; have hcz22_1 : w21.cell? ⟨gb534, 1, none⟩ = some (.int .i64 0) := (blk_cell BK534.out 1).trans rfl; have hfz22_0 := blk_frozen BK534.out 0; have hfz22_1 := blk_frozen BK534.out 1)))
                          go_ret2
                          exact ⟨_, by first | rfl | (simp [errW_none, errW_some] <;> rfl) | (simp [*, errW_none, errW_some] <;> rfl), by first | exact Kd.R_nil _ _ _ _ _ | exact Kd.N_nil _ _ _ _ _ | exact Kd.V_nil _ _ _ _ _ | exact Kd.Q_nil _ _ _ _ _ | exact Kd.S_nil _ _ _ _ _, by repeat (first | (with_reducible first | exact HB.out | apply below_alloc | apply pw_below_drewN | apply below_drew1 | refine below_set ?_ GE534.out) | exact HB.out)⟩
                        · rw [if_neg c20] at H
                          have c20b0 : decide (32767 < ((rd_T111 l0 x31_2).f1)) = false := decide_eq_false c20
                          clear c20
                          have H' := Aside0.mk H
                          clear H
                          have p533 : 0 ≤ (x31_2 : Int) := of_decide_eq_true (by first | (with_reducible assumption) | assumption)
                          have q533 : x31_2 < (l0.length : Int) := of_decide_eq_true (by first | (with_reducible assumption) | assumption)
                          obtain ⟨ad533, e533, hx533_0, hx533_1⟩ := at_T111 HR0.out x31_2 p533 q533
                          cases e533
                          replace hx533_0 := (HB.out.cell (World.block_lt_of_cell? w _ hx533_0)).trans hx533_0
                          replace hx533_1 := (HB.out.cell (World.block_lt_of_cell? w _ hx533_1)).trans hx533_1
                          replace p533 := eq_true p533
                          replace q533 := eq_true q533
                          go_wp2_with (first | ((with_reducible refine gate_dst (N := 7) rfl ?_); (try (refine gate_guard (by rfl) ?_; dsimp only)); refine box_event ?hg (N := 7) ?hd (cs := #[.int .i64 0, .int .i64 0]) (t := 111) ?hr ?_; (case hd => rfl); (case hg => rfl); (case hr => first | (go_simp; done) | (go_simp; rfl)); intro gb534 hg w23 hbox hb; have n0_ := Aside0.mk (below_step (by repeat (first | (with_reducible first | exact HB.out | apply below_alloc | apply pw_below_drewN | apply below_drew1) | exact HB.out)) hb); have n1_ := Aside0.mk (hbox); have n2_ := Aside0.mk ((by rw [hg]; exact (below_size (by repeat (first | (with_reducible first | exact HB.out | apply below_alloc | apply pw_below_drewN | apply below_drew1) | exact HB.out))) : w.heap.size ≤ gb534)); have n3_ := Aside0.mk ((by rw [hg]; exact (below_size (by repeat (first | (with_reducible first | exact HB.out | apply below_alloc | apply pw_below_drewN | apply below_drew1) | exact HB.out))) : w.heap.size ≤ gb534)); clear HB; have HB := n0_; have BK534 := n1_; have GW534 := n2_; have GE534 := n3_; clear n0_ n1_ n2_ n3_; clear hb hbox hg; have hcz24_0 : w23.cell? ⟨gb534, 0, none⟩ = some (.int .i64 0) := (blk_cell BK534.out 0).trans rfl; have hcz24_1 : w23.cell? ⟨gb534, 1, none⟩ = some (.int .i64 0) := (blk_cell BK534.out 1).trans rfl; have hfz24_0 := blk_frozen BK534.out 0; have hfz24_1 := blk_frozen BK534.out 1))
                          repeat (go_quiet (first | ((with_reducible refine gate_dst (N := 7) rfl ?_); (try (refine gate_guard (by rfl) ?_; dsimp only)); refine box_event ?hg (N := 7) ?hd (cs := #[.int .i64 0, .int .i64 0]) (t := 111) ?hr ?_; (case hd => rfl); (case hg => rfl); (case hr => first | (go_simp; done) | (go_simp; rfl)); intro gb534 hg w23 hbox hb; have n0_ := Aside0.mk (below_step (by repeat (first | (with_reducible first | exact HB.out | apply below_alloc | apply pw_below_drewN | apply below_drew1) | exact HB.out)) hb); have n1_ := Aside0.mk (hbox); have n2_ := Aside0.mk ((by rw [hg]; exact (below_size (by repeat (first | (with_reducible first | exact HB.out | apply below_alloc | apply pw_below_drewN | apply below_drew1) | exact HB.out))) : w.heap.size ≤ gb534)); have n3_ := Aside0.mk ((by rw [hg]; exact (below_size (by repeat (first | (with_reducible first | exact HB.out | apply below_alloc | apply pw_below_drewN | apply below_drew1) | exact HB.out))) : w.heap.size ≤ gb534)); clear HB; have HB := n0_; have BK534 := n1_; have GW534 := n2_; have GE534 := n3_; clear n0_ n1_ n2_ n3_; clear hb hbox hg; have hcz24_0 : w23.cell? ⟨gb534, 0, none⟩ = some (.int .i64 0) := (blk_cell BK534.out 0).trans rfl; have hcz24_1 : w23.cell? ⟨gb534, 1, none⟩ = some (.int .i64 0) := (blk_cell BK534.out 1).trans rfl; have hfz24_0 := blk_frozen BK534.out 0; have hfz24_1 := blk_frozen BK534.out 1)); try go_wp2_with (first | ((with_reducible refine gate_dst (N := 7) rfl ?_); (try (refine gate_guard (by rfl) ?_; dsimp only)); refine box_event ?hg (N := 7) ?hd (cs := #[.int .i64 0, .int .i64 0]) (t := 111) ?hr ?_; (case hd => rfl); (case hg => rfl); (case hr => first | (go_simp; done) | (go_simp; rfl)); intro gb534 hg w23 hbox hb; have n0_ := Aside0.mk (below_step (by repeat (first | (with_reducible first | exact HB.out | apply below_alloc | apply pw_below_drewN | apply below_drew1) | exact HB.out)) hb); have n1_ := Aside0.mk (hbox); have n2_ := Aside0.mk ((by rw [hg]; exact (below_size (by repeat (first | (with_reducible first | exact HB.out | apply below_alloc | apply pw_below_drewN | apply below_drew1) | exact HB.out))) : w.heap.size ≤ gb534)); have n3_ := Aside0.mk ((by rw [hg]; exact (below_size (by repeat (first | (with_reducible first | exact HB.out | apply below_alloc | apply pw_below_drewN | apply below_drew1) | exact HB.out))) : w.heap.size ≤ gb534)); clear HB; have HB := n0_; have BK534 := n1_; have GW534 := n2_; have GE534 := n3_; clear n0_ n1_ n2_ n3_; clear hb hbox hg; have hcz24_0 : w23.cell? ⟨gb534, 0, none⟩ = some (.int .i64 0) := (blk_cell BK534.out 0).trans rfl; have hcz24_1 : w23.cell? ⟨gb534, 1, none⟩ = some (.int .i64 0) := (blk_cell BK534.out 1).trans rfl; have hfz24_0 := blk_frozen BK534.out 0; have hfz24_1 := blk_frozen BK534.out 1)))
                          go_roundg k2
                          case measure => have := HJ2.out; have := HK2.out; omega
                          case rel => exact ⟨(wrap64 (x31_2 + 1)), (by first | rfl | (simp; done) | (simp [*]; done)), H', ⟨by have := HJ2.out; have := HK2.out; omega⟩, ⟨by repeat (first | (with_reducible first | exact HB.out | apply below_alloc | apply pw_below_drewN | apply below_drew1 | refine below_set ?_ GE534.out) | exact HB.out)⟩⟩
                · rw [if_neg c10] at H
                  exact absurd H (by simp)
              · rw [if_neg c9] at H
                exact absurd H (by simp)
            · rw [if_neg c8] at H
              have c8b0 : decide (x31_2 < (l0.length : Int)) = false := decide_eq_false c8
              clear c8
              have H' := Aside0.mk H
              clear H
              go_wp2
              repeat (go_quiet (fail); try go_wp2)
              go_loopg [8, 56] k2 (fun kq v8 v56 w' => ∃ (x8_3 : List Int) (x56_3 : Int), v56 = .int .i64 x56_3 ∧ Aside0 (calamusref06_PutMetrics.l1 kq l0 a1 x8_3 l0 (l0.length : Int) x56_3 = some (r1, r2)) ∧ Aside0 (kq ≤ k2) ∧ Aside0 (Kd.R (Kd.int .u8) 5 w' w.heap.size (fun _ => True) v8 x8_3) ∧ Aside0 (Below w.heap.size w w'))
              case atStart => exact ⟨(([] : List Int)), (0), (by first | rfl | (simp; done) | (simp [*]; done)), H', ⟨Nat.le_refl _⟩, ⟨by first | exact Kd.R_nil _ _ _ _ _ | exact Kd.N_nil _ _ _ _ _ | exact Kd.V_nil _ _ _ _ _ | exact Kd.Q_nil _ _ _ _ _ | exact Kd.S_nil _ _ _ _ _⟩, ⟨by repeat (first | (with_reducible first | exact HB.out | apply below_alloc | apply pw_below_drewN | apply below_drew1) | exact HB.out)⟩⟩
              case round =>
                clear H'
                try clear c1
                try clear c2
                try clear p2
                try clear c4
                try clear c4b0
                try clear c4b1
                try clear c5
                try clear c5b0
                try clear c5b1
                try clear p5
                try clear q5
                try clear hx5
                try clear c6
                try clear c6b0
                try clear p6
                try clear c7
                try clear c8
                try clear c8b0
                try clear c9
                try clear c9b0
                try clear c10
                try clear c10b0
                try clear c11
                try clear c11b0
                try clear c14
                try clear c14b0
                try clear c17
                try clear c17b0
                try clear c20
                try clear c20b0
                try clear hcz13_0
                try clear hcz13_1
                try clear hcz16_0
                try clear hcz16_1
                try clear hcz19_0
                try clear hcz19_1
                try clear hcz22_0
                try clear hcz22_1
                try clear hcz24_0
                try clear hcz24_1
                try clear hfz13_0
                try clear hfz13_1
                try clear hfz16_0
                try clear hfz16_1
                try clear hfz19_0
                try clear hfz19_1
                try clear hfz22_0
                try clear hfz22_1
                try clear hfz24_0
                try clear hfz24_1
                try clear hx533_0
                try clear hx533_1
                try clear p2
                try clear p533
                try clear q533
                obtain ⟨x8_3, x56_3, rfl, HA, HK3, HO_8, HB⟩ := hrel
                cases gk with
                | zero => exact absurd HA.out (by simp [calamusref06_PutMetrics.l1])
                | succ k3 =>
                  have H := HA.out
                  clear HA
                  simp only [calamusref06_PutMetrics.l1] at H
                  by_cases c25 : x56_3 < (l0.length : Int)
                  · rw [if_pos c25] at H
                    have c25b0 : decide (x56_3 < (l0.length : Int)) = true := decide_eq_true c25
                    clear c25
                    by_cases c26 : 0 ≤ x56_3
                    · rw [if_pos c26] at H
                      have c26b0 : decide (0 ≤ x56_3) = true := decide_eq_true c26
                      clear c26
                      by_cases c27 : x56_3 < (l0.length : Int)
                      · rw [if_pos c27] at H
                        have c27b0 : decide (x56_3 < (l0.length : Int)) = true := decide_eq_true c27
                        clear c27
                        have HC28 := Aside0.mk H
                        clear H
                        have p535 : 0 ≤ (x56_3 : Int) := of_decide_eq_true (by first | (with_reducible assumption) | assumption)
                        have q535 : x56_3 < (l0.length : Int) := of_decide_eq_true (by first | (with_reducible assumption) | assumption)
                        obtain ⟨ad535, e535, hx535_0, hx535_1⟩ := at_T111 HR0.out x56_3 p535 q535
                        cases e535
                        replace hx535_0 := (HB.out.cell (World.block_lt_of_cell? w _ hx535_0)).trans hx535_0
                        replace hx535_1 := (HB.out.cell (World.block_lt_of_cell? w _ hx535_1)).trans hx535_1
                        replace p535 := eq_true p535
                        replace q535 := eq_true q535
                        go_upto_region 13 with (first | ((with_reducible refine gate_dst (N := 10) rfl ?_); (try (refine gate_guard (by rfl) ?_; dsimp only)); refine box_event ?hg (N := 10) ?hd (cs := #[.int .i64 0, .int .i64 0]) (t := 111) ?hr ?_; (case hd => rfl); (case hg => rfl); (case hr => first | (go_simp; done) | (go_simp; rfl)); intro gb536 hg w29 hbox hb; have n0_ := Aside0.mk (Kd.R_below (by (with_reducible repeat (first | apply Kd.R_alloc | apply Kd.R_drewN | apply Kd.R_drew)); exact HO_8.out) hb); have n1_ := Aside0.mk (below_step (by repeat (first | (with_reducible first | exact HB.out | apply below_alloc | apply pw_below_drewN | apply below_drew1) | exact HB.out)) hb); have n2_ := Aside0.mk (hbox); have n3_ := Aside0.mk ((by rw [hg]; exact (below_size (by repeat (first | (with_reducible first | exact HB.out | apply below_alloc | apply pw_below_drewN | apply below_drew1) | exact HB.out))) : w.heap.size ≤ gb536)); have n4_ := Aside0.mk ((by rw [hg]; exact (below_size (by repeat (first | (with_reducible first | exact HB.out | apply below_alloc | apply pw_below_drewN | apply below_drew1) | exact HB.out))) : w.heap.size ≤ gb536)); clear HO_8; clear HB; have HO_8 := n0_; have HB := n1_; have BK536 := n2_; have GW536 := n3_; have GE536 := n4_; clear n0_ n1_ n2_ n3_ n4_; clear hb hbox hg; have hcz30_0 : w29.cell? ⟨gb536, 0, none⟩ = some (.int .i64 0) := (blk_cell BK536.out 0).trans rfl; have hcz30_1 : w29.cell? ⟨gb536, 1, none⟩ = some (.int .i64 0) := (blk_cell BK536.out 1).trans rfl; have hfz30_0 := blk_frozen BK536.out 0; have hfz30_1 := blk_frozen BK536.out 1))
                        repeat (go_quiet (first | ((with_reducible refine gate_dst (N := 10) rfl ?_); (try (refine gate_guard (by rfl) ?_; dsimp only)); refine box_event ?hg (N := 10) ?hd (cs := #[.int .i64 0, .int .i64 0]) (t := 111) ?hr ?_; (case hd => rfl); (case hg => rfl); (case hr => first | (go_simp; done) | (go_simp; rfl)); intro gb536 hg w29 hbox hb; have n0_ := Aside0.mk (Kd.R_below (by (with_reducible repeat (first | apply Kd.R_alloc | apply Kd.R_drewN | apply Kd.R_drew)); exact HO_8.out) hb); have n1_ := Aside0.mk (below_step (by repeat (first | (with_reducible first | exact HB.out | apply below_alloc | apply pw_below_drewN | apply below_drew1) | exact HB.out)) hb); have n2_ := Aside0.mk (hbox); have n3_ := Aside0.mk ((by rw [hg]; exact (below_size (by repeat (first | (with_reducible first | exact HB.out | apply below_alloc | apply pw_below_drewN | apply below_drew1) | exact HB.out))) : w.heap.size ≤ gb536)); have n4_ := Aside0.mk ((by rw [hg]; exact (below_size (by repeat (first | (with_reducible first | exact HB.out | apply below_alloc | apply pw_below_drewN | apply below_drew1) | exact HB.out))) : w.heap.size ≤ gb536)); clear HO_8; clear HB; have HO_8 := n0_; have HB := n1_; have BK536 := n2_; have GW536 := n3_; have GE536 := n4_; clear n0_ n1_ n2_ n3_ n4_; clear hb hbox hg; have hcz30_0 : w29.cell? ⟨gb536, 0, none⟩ = some (.int .i64 0) := (blk_cell BK536.out 0).trans rfl; have hcz30_1 : w29.cell? ⟨gb536, 1, none⟩ = some (.int .i64 0) := (blk_cell BK536.out 1).trans rfl; have hfz30_0 := blk_frozen BK536.out 0; have hfz30_1 := blk_frozen BK536.out 1)); go_upto_region 13 with (first | ((with_reducible refine gate_dst (N := 10) rfl ?_); (try (refine gate_guard (by rfl) ?_; dsimp only)); refine box_event ?hg (N := 10) ?hd (cs := #[.int .i64 0, .int .i64 0]) (t := 111) ?hr ?_; (case hd => rfl); (case hg => rfl); (case hr => first | (go_simp; done) | (go_simp; rfl)); intro gb536 hg w29 hbox hb; have n0_ := Aside0.mk (Kd.R_below (by (with_reducible repeat (first | apply Kd.R_alloc | apply Kd.R_drewN | apply Kd.R_drew)); exact HO_8.out) hb); have n1_ := Aside0.mk (below_step (by repeat (first | (with_reducible first | exact HB.out | apply below_alloc | apply pw_below_drewN | apply below_drew1) | exact HB.out)) hb); have n2_ := Aside0.mk (hbox); have n3_ := Aside0.mk ((by rw [hg]; exact (below_size (by repeat (first | (with_reducible first | exact HB.out | apply below_alloc | apply pw_below_drewN | apply below_drew1) | exact HB.out))) : w.heap.size ≤ gb536)); have n4_ := Aside0.mk ((by rw [hg]; exact (below_size (by repeat (first | (with_reducible first | exact HB.out | apply below_alloc | apply pw_below_drewN | apply below_drew1) | exact HB.out))) : w.heap.size ≤ gb536)); clear HO_8; clear HB; have HO_8 := n0_; have HB := n1_; have BK536 := n2_; have GW536 := n3_; have GE536 := n4_; clear n0_ n1_ n2_ n3_ n4_; clear hb hbox hg; have hcz30_0 : w29.cell? ⟨gb536, 0, none⟩ = some (.int .i64 0) := (blk_cell BK536.out 0).trans rfl; have hcz30_1 : w29.cell? ⟨gb536, 1, none⟩ = some (.int .i64 0) := (blk_cell BK536.out 1).trans rfl; have hfz30_0 := blk_frozen BK536.out 0; have hfz30_1 := blk_frozen BK536.out 1)))
                        (try simp only [Act.put, List.setIfInBounds_toArray, List.set_cons_zero, List.set_cons_succ])
                        go_cut [74] (fun v74 wc => ∃ (kq : Nat) (x74_27 : Bool), v74 = .bool x74_27 ∧ Aside0 (calamusref06_PutMetrics.j3 kq l0 a1 x8_3 x56_3 l0 (l0.length : Int) x56_3 x74_27 ((rd_T111 l0 x56_3).f0) ((rd_T111 l0 x56_3).f1) = some (r1, r2)) ∧ Aside0 (kq ≤ k3) ∧ Aside0 (Kd.R (Kd.int .u8) 5 wc w.heap.size (fun _ => True) u8 x8_3) ∧ Aside0 (wc.heap[gb536]? = some (.cells #[.int .i64 ((rd_T111 l0 x56_3).f0), .int .i64 ((rd_T111 l0 x56_3).f1)] 111 (0, 0))) ∧ Aside0 (Below w.heap.size w wc))
                        case first =>
                          have H := HC28.out
                          clear HC28
                          by_cases c31 : x56_3 ≥ a1
                          · rw [if_pos c31] at H
                            have c31b0 : decide (a1 ≤ x56_3) = true := decide_eq_true c31
                            clear c31
                            (first | rw [c31b0] | (simp only [i64_w, i32_w]; rw [c31b0]) | skip)
                            obtain ⟨ji32, hji32⟩ : ∃ j_ : Int, (wrap64 (a1 - 1)) = j_ := ⟨_, rfl⟩
                            replace H : (if 0 ≤ (ji32) then (if (ji32) < (l0.length : Int) then (calamusref06_PutMetrics.j3 k3 l0 a1 x8_3 x56_3 l0 (l0.length : Int) x56_3 (((rd_T111 l0 x56_3).f0) != ((rd_T111 l0 (ji32)).f0)) ((rd_T111 l0 x56_3).f0) ((rd_T111 l0 x56_3).f1)) else (none)) else (none)) = some (r1, r2) := by first | (rw [hji32] at H; exact H) | (simp only [hji32] at H ⊢; exact H)
                            have hji32w : (IntKind.i64.wrap (a1 - 1)) = ji32 := (i64_w _).trans hji32
                            by_cases c33 : 0 ≤ (ji32)
                            · rw [if_pos c33] at H
                              have c33b0 : decide (0 ≤ (ji32)) = true := decide_eq_true c33
                              clear c33
                              by_cases c34 : (ji32) < (l0.length : Int)
                              · rw [if_pos c34] at H
                                have c34b0 : decide ((ji32) < (l0.length : Int)) = true := decide_eq_true c34
                                clear c34
                                have H' := Aside0.mk H
                                clear H
                                have hcz35_0 : w29.cell? ⟨gb536, 0, none⟩ = some (.int .i64 0) := (blk_cell BK536.out 0).trans rfl
                                have hcz35_1 : w29.cell? ⟨gb536, 1, none⟩ = some (.int .i64 0) := (blk_cell BK536.out 1).trans rfl
                                have hfz35_0 := blk_frozen BK536.out 0
                                have hfz35_1 := blk_frozen BK536.out 1
                                have p537 : 0 ≤ ((ji32) : Int) := of_decide_eq_true (by first | (with_reducible assumption) | assumption)
                                have q537 : (ji32) < (l0.length : Int) := of_decide_eq_true (by first | (with_reducible assumption) | assumption)
                                obtain ⟨ad537, e537, hx537_0, hx537_1⟩ := at_T111 HR0.out (ji32) p537 q537
                                obtain rfl : ad535 = ad537 := (by injection e537)
                                have hn537_0 : ad535.block ≠ gb536 := Nat.ne_of_lt (Nat.lt_of_lt_of_le (by have := World.block_lt_of_cell? _ _ hx537_0; first | rwa [add_block] at this | exact this) GW536.out)
                                have hn537_1 : ad535.block ≠ gb536 := Nat.ne_of_lt (Nat.lt_of_lt_of_le (by have := World.block_lt_of_cell? _ _ hx537_0; first | rwa [add_block] at this | exact this) GW536.out)
                                replace hx537_0 := (HB.out.cell (World.block_lt_of_cell? w _ hx537_0)).trans hx537_0
                                replace hx537_1 := (HB.out.cell (World.block_lt_of_cell? w _ hx537_1)).trans hx537_1
                                replace hx537_0 := (cell_far (p := ⟨gb536, 0, none⟩) (by first | (rw [add_block]; exact hn537_0) | (show (Addr.add _ _).block ≠ _; rw [add_block]; exact hn537_0) | exact hn537_0) (.int .i64 ((rd_T111 l0 x56_3).f0))).trans hx537_0
                                replace hx537_1 := (cell_far (p := ⟨gb536, 0, none⟩) (by first | (rw [add_block]; exact hn537_0) | (show (Addr.add _ _).block ≠ _; rw [add_block]; exact hn537_0) | exact hn537_0) (.int .i64 ((rd_T111 l0 x56_3).f0))).trans hx537_1
                                replace hx537_0 := (cell_far (p := ⟨gb536, 1, none⟩) (by first | (rw [add_block]; exact hn537_1) | (show (Addr.add _ _).block ≠ _; rw [add_block]; exact hn537_1) | exact hn537_1) (.int .i64 ((rd_T111 l0 x56_3).f1))).trans hx537_0
                                replace hx537_1 := (cell_far (p := ⟨gb536, 1, none⟩) (by first | (rw [add_block]; exact hn537_1) | (show (Addr.add _ _).block ≠ _; rw [add_block]; exact hn537_1) | exact hn537_1) (.int .i64 ((rd_T111 l0 x56_3).f1))).trans hx537_1
                                (try have hy537_0 := fun (n_ : Nat) => (show ((((w29.drewN n_).setCell ⟨gb536, 0, none⟩ (.int .i64 ((rd_T111 l0 x56_3).f0))).setCell ⟨gb536, 1, none⟩ (.int .i64 ((rd_T111 l0 x56_3).f1)))).cell? _ = some _ from hx537_0))
                                (try have hy537_1 := fun (n_ : Nat) => (show ((((w29.drewN n_).setCell ⟨gb536, 0, none⟩ (.int .i64 ((rd_T111 l0 x56_3).f0))).setCell ⟨gb536, 1, none⟩ (.int .i64 ((rd_T111 l0 x56_3).f1)))).cell? _ = some _ from hx537_1))
                                clear hn537_0
                                clear hn537_1
                                replace p537 := eq_true p537
                                replace q537 := eq_true q537
                                go_wp2
                                repeat (go_quiet (fail); try go_wp2)
                                go_meet
                                case rel => exact ⟨_, ((((rd_T111 l0 x56_3).f0) != ((rd_T111 l0 (ji32)).f0))), (by first | rfl | (simp; done) | (simp only [← hji32] <;> (first | rfl | simp)) | (simp [*]; done)), H', ⟨by have := HJ2.out; have := HK2.out; have := HK3.out; first | omega | exact Nat.le_refl _⟩, ⟨by (with_reducible repeat (first | apply Kd.R_alloc | apply Kd.R_drewN | apply Kd.R_drew)); exact Kd.R_mono (Kd.R_far (p := ⟨gb536, 1, none⟩) (Kd.R_far (p := ⟨gb536, 0, none⟩) (Kd.R_types HO_8.out BK536.out (by decide)) (fun _ hk => hk.2) (.int .i64 ((rd_T111 l0 x56_3).f0))) (fun _ hk => hk.2) (.int .i64 ((rd_T111 l0 x56_3).f1))) (fun _ hk => trivial)⟩, ⟨by (with_reducible repeat (first | refine blk_drewN ?_ _ | refine blk_drew ?_ | refine blk_alloc ?_ _)); refine blk_put (cs := #[.int .i64 ((rd_T111 l0 x56_3).f0), .int .i64 0]) ?_ 1 _ rfl; (with_reducible repeat (first | refine blk_drewN ?_ _ | refine blk_drew ?_ | refine blk_alloc ?_ _)); refine blk_put (cs := #[.int .i64 0, .int .i64 0]) ?_ 0 _ rfl; (with_reducible repeat (first | refine blk_drewN ?_ _ | refine blk_drew ?_ | refine blk_alloc ?_ _)); exact BK536.out⟩, ⟨by repeat (first | (with_reducible first | exact HB.out | apply below_alloc | apply pw_below_drewN | apply below_drew1 | refine below_set ?_ GE536.out) | exact HB.out)⟩⟩
                              · rw [if_neg c34] at H
                                exact absurd H (by simp)
                            · rw [if_neg c33] at H
                              exact absurd H (by simp)
                          · rw [if_neg c31] at H
                            have c31b0 : decide (a1 ≤ x56_3) = false := decide_eq_false c31
                            clear c31
                            (first | rw [c31b0] | (simp only [i64_w, i32_w]; rw [c31b0]) | skip)
                            have H' := Aside0.mk H
                            clear H
                            go_wp2
                            repeat (go_quiet (fail); try go_wp2)
                            go_meet
                            case rel => exact ⟨_, (false), (by first | rfl | (simp; done) | (simp [*]; done)), H', ⟨by have := HJ2.out; have := HK2.out; have := HK3.out; first | omega | exact Nat.le_refl _⟩, ⟨by (with_reducible repeat (first | apply Kd.R_alloc | apply Kd.R_drewN | apply Kd.R_drew)); exact Kd.R_mono (Kd.R_far (p := ⟨gb536, 1, none⟩) (Kd.R_far (p := ⟨gb536, 0, none⟩) (Kd.R_types HO_8.out BK536.out (by decide)) (fun _ hk => hk.2) (.int .i64 ((rd_T111 l0 x56_3).f0))) (fun _ hk => hk.2) (.int .i64 ((rd_T111 l0 x56_3).f1))) (fun _ hk => trivial)⟩, ⟨by (with_reducible repeat (first | refine blk_drewN ?_ _ | refine blk_drew ?_ | refine blk_alloc ?_ _)); refine blk_put (cs := #[.int .i64 ((rd_T111 l0 x56_3).f0), .int .i64 0]) ?_ 1 _ rfl; (with_reducible repeat (first | refine blk_drewN ?_ _ | refine blk_drew ?_ | refine blk_alloc ?_ _)); refine blk_put (cs := #[.int .i64 0, .int .i64 0]) ?_ 0 _ rfl; (with_reducible repeat (first | refine blk_drewN ?_ _ | refine blk_drew ?_ | refine blk_alloc ?_ _)); exact BK536.out⟩, ⟨by repeat (first | (with_reducible first | exact HB.out | apply below_alloc | apply pw_below_drewN | apply below_drew1 | refine below_set ?_ GE536.out) | exact HB.out)⟩⟩
                        case rest =>
                          clear HC28
                          try clear c1
                          try clear c2
                          try clear p2
                          try clear c3
                          try clear c4
                          try clear c4b0
                          try clear c4b1
                          try clear c5
                          try clear c5b0
                          try clear c5b1
                          try clear p5
                          try clear q5
                          try clear hx5
                          try clear c6
                          try clear c6b0
                          try clear p6
                          try clear c7
                          try clear c8
                          try clear c8b0
                          try clear c9
                          try clear c9b0
                          try clear c10
                          try clear c10b0
                          try clear c11
                          try clear c11b0
                          try clear c14
                          try clear c14b0
                          try clear c17
                          try clear c17b0
                          try clear c20
                          try clear c20b0
                          try clear c25
                          try clear c25b0
                          try clear c26
                          try clear c26b0
                          try clear c27
                          try clear c27b0
                          try clear c31
                          try clear c31b0
                          try clear c33
                          try clear c33b0
                          try clear c34
                          try clear c34b0
                          try clear hcz13_0
                          try clear hcz13_1
                          try clear hcz16_0
                          try clear hcz16_1
                          try clear hcz19_0
                          try clear hcz19_1
                          try clear hcz22_0
                          try clear hcz22_1
                          try clear hcz24_0
                          try clear hcz24_1
                          try clear hcz30_0
                          try clear hcz30_1
                          try clear hcz35_0
                          try clear hcz35_1
                          try clear hfz13_0
                          try clear hfz13_1
                          try clear hfz16_0
                          try clear hfz16_1
                          try clear hfz19_0
                          try clear hfz19_1
                          try clear hfz22_0
                          try clear hfz22_1
                          try clear hfz24_0
                          try clear hfz24_1
                          try clear hfz30_0
                          try clear hfz30_1
                          try clear hfz35_0
                          try clear hfz35_1
                          try clear hx533_0
                          try clear hx533_1
                          try clear hx535_0
                          try clear hx535_1
                          try clear hx537_0
                          try clear hx537_1
                          try clear p2
                          try clear p5
                          try clear p533
                          try clear p535
                          try clear p537
                          try clear p6
                          try clear q5
                          try clear q533
                          try clear q535
                          try clear q537
                          obtain ⟨kq, x74_27, rfl, HA, HJ27, HO_8, BK536, HB⟩ := hcut
                          cases kq with
                          | zero => exact absurd HA.out (by simp [calamusref06_PutMetrics.j3])
                          | succ kj27 =>
                            have H := HA.out
                            clear HA
                            simp only [calamusref06_PutMetrics.j3] at H
                            by_cases c36 : x74_27 = true
                            · subst c36
                              have H1 : (some (([] : List Int), 4)) = some (r1, r2) := by rw [if_pos rfl] at H; exact H
                              clear H
                              have H := H1
                              clear H1
                              simp only [Option.some.injEq, Prod.mk.injEq] at H
                              obtain ⟨rfl, rfl⟩ := H
                              go_wp2
                              repeat (go_quiet (fail); try go_wp2)
                              go_ret2
                              exact ⟨_, by first | rfl | (simp [errW_none, errW_some] <;> rfl) | (simp [*, errW_none, errW_some] <;> rfl), by first | exact Kd.R_nil _ _ _ _ _ | exact Kd.N_nil _ _ _ _ _ | exact Kd.V_nil _ _ _ _ _ | exact Kd.Q_nil _ _ _ _ _ | exact Kd.S_nil _ _ _ _ _, by repeat (first | (with_reducible first | exact HB.out | apply below_alloc | apply pw_below_drewN | apply below_drew1 | refine below_set ?_ GE536.out) | exact HB.out)⟩
                            · replace c36 := Bool.eq_false_iff.mpr c36
                              subst c36
                              have H1 : (if x56_3 < a1 then ((calamusref02_Put.f kj27 ((rd_T111 l0 x56_3).f0) 2).bind fun t538 => (if x8_3.length + t538.length < 140737488355328 then ((some (x8_3 ++ t538 : List Int)).bind fun y541 => ((calamusref02_Put.f kj27 ((rd_T111 l0 x56_3).f1) 2).bind fun t544 => (if y541.length + t544.length < 140737488355328 then (calamusref06_PutMetrics.l1 kj27 l0 a1 (y541 ++ t544) l0 (l0.length : Int) (wrap64 (x56_3 + 1))) else (none)))) else (none))) else ((calamusref02_Put.f kj27 ((rd_T111 l0 x56_3).f1) 2).bind fun t550 => (if x8_3.length + t550.length < 140737488355328 then (calamusref06_PutMetrics.l1 kj27 l0 a1 (x8_3 ++ t550) l0 (l0.length : Int) (wrap64 (x56_3 + 1))) else (none)))) = some (r1, r2) := by rw [if_neg (show ¬ (false = true) by decide)] at H; exact H
                              clear H
                              have H := H1
                              clear H1
                              by_cases c37 : x56_3 < a1
                              · rw [if_pos c37] at H
                                have c37b0 : decide (x56_3 < a1) = true := decide_eq_true c37
                                clear c37
                                replace H := Option.bind_eq_some_iff.mp H
                                obtain ⟨t538, A380, H⟩ := H
                                replace H : (if x8_3.length + t538.length < 140737488355328 then ((some (x8_3 ++ t538 : List Int)).bind fun y541 => ((calamusref02_Put.f kj27 ((rd_T111 l0 x56_3).f1) 2).bind fun t544 => (if y541.length + t544.length < 140737488355328 then (calamusref06_PutMetrics.l1 kj27 l0 a1 (y541 ++ t544) l0 (l0.length : Int) (wrap64 (x56_3 + 1))) else (none)))) else (none)) = some (r1, r2) := H
                                have A38 := Aside0.mk A380
                                clear A380
                                by_cases c39 : x8_3.length + t538.length < 140737488355328
                                · rw [if_pos c39] at H
                                  have LMc39 := Aside0.mk c39
                                  clear c39
                                  obtain ⟨y541, hy541⟩ : ∃ y_ : List Int, y_ = (x8_3 ++ t538) := ⟨_, rfl⟩
                                  replace H : ((calamusref02_Put.f kj27 ((rd_T111 l0 x56_3).f1) 2).bind fun t544 => (if y541.length + t544.length < 140737488355328 then (calamusref06_PutMetrics.l1 kj27 l0 a1 (y541 ++ t544) l0 (l0.length : Int) (wrap64 (x56_3 + 1))) else (none))) = some (r1, r2) := by first | (rw [hy541]; with_reducible exact H) | (have H2_ := (Option.bind_some _ _).symm.trans H; rw [hy541]; with_reducible exact H2_) | (have H2_ := (Option.bind_some _ _).symm.trans H; with_reducible exact H2_) | with_reducible exact H | (rw [hy541]; exact H) | exact H
                                  have Ny541 := Aside0.mk hy541
                                  clear hy541
                                  replace H := Option.bind_eq_some_iff.mp H
                                  obtain ⟨t544, A400, H⟩ := H
                                  replace H : (if y541.length + t544.length < 140737488355328 then (calamusref06_PutMetrics.l1 kj27 l0 a1 (y541 ++ t544) l0 (l0.length : Int) (wrap64 (x56_3 + 1))) else (none)) = some (r1, r2) := H
                                  have A40 := Aside0.mk A400
                                  clear A400
                                  by_cases c41 : y541.length + t544.length < 140737488355328
                                  · rw [if_pos c41] at H
                                    have LMc41 := Aside0.mk c41
                                    clear c41
                                    obtain ⟨y547, hy547⟩ : ∃ y_ : List Int, y_ = (y541 ++ t544) := ⟨_, rfl⟩
                                    replace H : (calamusref06_PutMetrics.l1 kj27 l0 a1 y547 l0 (l0.length : Int) (wrap64 (x56_3 + 1))) = some (r1, r2) := by first | (rw [hy547]; with_reducible exact H) | (have H2_ := (Option.bind_some _ _).symm.trans H; rw [hy547]; with_reducible exact H2_) | (have H2_ := (Option.bind_some _ _).symm.trans H; with_reducible exact H2_) | with_reducible exact H | (rw [hy547]; exact H) | exact H
                                    have Ny547 := Aside0.mk hy547
                                    clear hy547
                                    have H' := Aside0.mk H
                                    clear H
                                    have hcz42_0 : wc.cell? ⟨gb536, 0, none⟩ = some (.int .i64 ((rd_T111 l0 x56_3).f0)) := (blk_cell BK536.out 0).trans rfl
                                    have hcz42_1 : wc.cell? ⟨gb536, 1, none⟩ = some (.int .i64 ((rd_T111 l0 x56_3).f1)) := (blk_cell BK536.out 1).trans rfl
                                    have hfz42_0 := blk_frozen BK536.out 0
                                    have hfz42_1 := blk_frozen BK536.out 1
                                    go_wp2_with (first | (go_at_call 34; (with_reducible refine (calamusref02_Put.calls kj27 ((rd_T111 l0 x56_3).f0) 2 t538 _ A38.out).mono ?_); rintro e w43 ⟨v539, rfl, ho0, hb⟩; have n0_ := Aside0.mk (Kd.R_elder' (by (with_reducible repeat (first | apply Kd.R_alloc | apply Kd.R_drewN | apply Kd.R_drew)); exact HO_8.out) (Kd.R_base ho0) hb); have n1_ := Aside0.mk (Kd.R_lower (Kd.R_new' ho0 (Kd.R_lt (by (with_reducible repeat (first | apply Kd.R_alloc | apply Kd.R_drewN | apply Kd.R_drew)); exact HO_8.out))) (below_size (by repeat (first | (with_reducible first | exact HB.out | apply below_alloc | apply pw_below_drewN | apply below_drew1 | refine below_set ?_ GE536.out) | exact HB.out)))); have n2_ := Aside0.mk (blk_below (g := gb536) (o := .cells #[.int .i64 ((rd_T111 l0 x56_3).f0), .int .i64 ((rd_T111 l0 x56_3).f1)] 111 (0, 0)) (by (with_reducible repeat (first | refine blk_drewN ?_ _ | refine blk_drew ?_ | refine blk_alloc ?_ _)); exact BK536.out) hb); have n3_ := Aside0.mk (below_step (by repeat (first | (with_reducible first | exact HB.out | apply below_alloc | apply pw_below_drewN | apply below_drew1 | refine below_set ?_ GE536.out) | exact HB.out)) hb); clear HO_8; clear BK536; clear HB; have HO_8 := n0_; have HO540 := n1_; have BK536 := n2_; have HB := n3_; clear n0_ n1_ n2_ n3_; (try clear hb); (try clear hb2); (try clear hk); (try clear hi); (try clear ho0); obtain ⟨Ao45, co45, eo45⟩ := Kd.R_slice HO540.out; subst eo45) | ((with_reducible refine gate_builtin (b := .append) (xs := #[.tmp 78, .tmp 81]) rfl ?_); (try (refine gate_guard (by rfl) ?_; dsimp only)); at_builtin; refine Kd.R_append_rows (Kd.int .u8) (w0 := w) w.heap.size rfl (.tmp 78) (.tmp 81) 23 5 (.int .u8 0) 1 rfl Try.underlying23 info5 rfl (by decide) (by omega) u8 x8_3 t538 _ _ _ (fun k_ => some k_ ≠ (.slice Ao45 t538.length co45 : Value).ownBlock) (fun _ => False) rfl rfl ?aO ?aR (fun _ _ h => h) (fun _ h => h.elim) ?aF ?aB ?aS ?aL ?_; (case aR => repeat (first | exact (Kd.R_reads' HO540.out).2.2 | (with_reducible refine Kd.C_alloc ?_ _) | (with_reducible refine Kd.C_drewN ?_ _) | (with_reducible refine Kd.C_drew ?_))); (case aB => exact (by repeat (first | (with_reducible first | exact HB.out | apply below_alloc | apply pw_below_drewN | apply below_drew1 | refine below_set ?_ GE536.out) | exact HB.out))); (case aF => exact (fun k_ hk => Kd.fresh' (Kd.R_lt (by (with_reducible repeat (first | apply Kd.R_alloc | apply Kd.R_drewN | apply Kd.R_drew)); exact HO540.out)) k_ hk)); (case aO => exact (by (with_reducible repeat (first | apply Kd.R_alloc | apply Kd.R_drewN | apply Kd.R_drew)); exact Kd.R_mono HO_8.out (fun _ hk => hk.2))); (case aS => exact (below_size (by repeat (first | (with_reducible first | exact HB.out | apply below_alloc | apply pw_below_drewN | apply below_drew1 | refine below_set ?_ GE536.out) | exact HB.out)))); (case aL => have := LMc39.out; omega); intro v542 w44 ho hb hg hat; rw [← Ny541.out] at ho; have n0_ := Aside0.mk (blk_grown (g := gb536) (o := .cells #[.int .i64 ((rd_T111 l0 x56_3).f0), .int .i64 ((rd_T111 l0 x56_3).f1)] 111 (0, 0)) (by (with_reducible repeat (first | refine blk_drewN ?_ _ | refine blk_drew ?_ | refine blk_alloc ?_ _)); exact BK536.out) hg (Kd.R_ne HO_8.out BK536.out (by decide))); have n1_ := Aside0.mk (Kd.R_after (ok := (fun _ => True)) (by (with_reducible repeat (first | apply Kd.R_alloc | apply Kd.R_drewN | apply Kd.R_drew)); exact HO540.out) hg hat); have n2_ := Aside0.mk (hb); have n3_ := Aside0.mk (ho); clear BK536; clear HO540; clear HB; clear HO_8; have BK536 := n0_; have HO540 := n1_; have HB := n2_; have HO543 := n3_; clear n0_ n1_ n2_ n3_; clear ho hb hg hat; have hcz46_0 : w44.cell? ⟨gb536, 0, none⟩ = some (.int .i64 ((rd_T111 l0 x56_3).f0)) := (blk_cell BK536.out 0).trans rfl; have hcz46_1 : w44.cell? ⟨gb536, 1, none⟩ = some (.int .i64 ((rd_T111 l0 x56_3).f1)) := (blk_cell BK536.out 1).trans rfl; have hfz46_0 := blk_frozen BK536.out 0; have hfz46_1 := blk_frozen BK536.out 1) | (go_at_call 34; (with_reducible refine (calamusref02_Put.calls kj27 ((rd_T111 l0 x56_3).f1) 2 t544 _ A40.out).mono ?_); rintro e w47 ⟨v545, rfl, ho0, hb⟩; have n0_ := Aside0.mk (Kd.R_elder' (by (with_reducible repeat (first | apply Kd.R_alloc | apply Kd.R_drewN | apply Kd.R_drew)); exact HO540.out) (Kd.R_base ho0) hb); have n1_ := Aside0.mk (Kd.R_elder' (by (with_reducible repeat (first | apply Kd.R_alloc | apply Kd.R_drewN | apply Kd.R_drew)); exact HO543.out) (Kd.R_base ho0) hb); have n2_ := Aside0.mk (Kd.R_lower (Kd.R_new' (Kd.R_new' ho0 (Kd.R_lt (by (with_reducible repeat (first | apply Kd.R_alloc | apply Kd.R_drewN | apply Kd.R_drew)); exact HO540.out))) (Kd.R_lt (by (with_reducible repeat (first | apply Kd.R_alloc | apply Kd.R_drewN | apply Kd.R_drew)); exact HO543.out))) (below_size (by repeat (first | (with_reducible first | exact HB.out | apply below_alloc | apply pw_below_drewN | apply below_drew1 | refine below_set ?_ GE536.out) | exact HB.out)))); have n3_ := Aside0.mk (blk_below (g := gb536) (o := .cells #[.int .i64 ((rd_T111 l0 x56_3).f0), .int .i64 ((rd_T111 l0 x56_3).f1)] 111 (0, 0)) (by (with_reducible repeat (first | refine blk_drewN ?_ _ | refine blk_drew ?_ | refine blk_alloc ?_ _)); exact BK536.out) hb); have n4_ := Aside0.mk (below_step (by repeat (first | (with_reducible first | exact HB.out | apply below_alloc | apply pw_below_drewN | apply below_drew1 | refine below_set ?_ GE536.out) | exact HB.out)) hb); clear HO540; clear HO543; clear BK536; clear HB; have HO540 := n0_; have HO543 := n1_; have HO546 := n2_; have BK536 := n3_; have HB := n4_; clear n0_ n1_ n2_ n3_ n4_; (try clear hb); (try clear hb2); (try clear hk); (try clear hi); (try clear ho0); obtain ⟨Ao49, co49, eo49⟩ := Kd.R_slice HO546.out; subst eo49) | ((with_reducible refine gate_builtin (b := .append) (xs := #[.tmp 83, .tmp 86]) rfl ?_); (try (refine gate_guard (by rfl) ?_; dsimp only)); at_builtin; refine Kd.R_append_rows (Kd.int .u8) (w0 := w) w.heap.size rfl (.tmp 83) (.tmp 86) 23 5 (.int .u8 0) 1 rfl Try.underlying23 info5 rfl (by decide) (by omega) v542 y541 t544 _ _ _ (fun k_ => some k_ ≠ (.slice Ao45 t538.length co45 : Value).ownBlock ∧ some k_ ≠ (.slice Ao49 t544.length co49 : Value).ownBlock) (fun _ => False) rfl rfl ?aO ?aR (fun _ _ h => h) (fun _ h => h.elim) ?aF ?aB ?aS ?aL ?_; (case aR => repeat (first | exact (Kd.R_reads' HO546.out).2.2 | (with_reducible refine Kd.C_alloc ?_ _) | (with_reducible refine Kd.C_drewN ?_ _) | (with_reducible refine Kd.C_drew ?_))); (case aB => exact (by repeat (first | (with_reducible first | exact HB.out | apply below_alloc | apply pw_below_drewN | apply below_drew1 | refine below_set ?_ GE536.out) | exact HB.out))); (case aF => exact (fun k_ hk => ⟨Kd.fresh' (Kd.R_lt (by (with_reducible repeat (first | apply Kd.R_alloc | apply Kd.R_drewN | apply Kd.R_drew)); exact HO540.out)) k_ hk, Kd.fresh' (Kd.R_lt (by (with_reducible repeat (first | apply Kd.R_alloc | apply Kd.R_drewN | apply Kd.R_drew)); exact HO546.out)) k_ hk⟩)); (case aO => exact (by (with_reducible repeat (first | apply Kd.R_alloc | apply Kd.R_drewN | apply Kd.R_drew)); exact HO543.out)); (case aS => exact (below_size (by repeat (first | (with_reducible first | exact HB.out | apply below_alloc | apply pw_below_drewN | apply below_drew1 | refine below_set ?_ GE536.out) | exact HB.out)))); (case aL => have := LMc41.out; omega); intro v548 w48 ho hb hg hat; rw [← Ny547.out] at ho; have n0_ := Aside0.mk (blk_grown (g := gb536) (o := .cells #[.int .i64 ((rd_T111 l0 x56_3).f0), .int .i64 ((rd_T111 l0 x56_3).f1)] 111 (0, 0)) (by (with_reducible repeat (first | refine blk_drewN ?_ _ | refine blk_drew ?_ | refine blk_alloc ?_ _)); exact BK536.out) hg (Kd.R_ne HO543.out BK536.out (by decide))); have n1_ := Aside0.mk (Kd.R_after (ok := (fun k_ => some k_ ≠ (.slice Ao49 t544.length co49 : Value).ownBlock)) (by (with_reducible repeat (first | apply Kd.R_alloc | apply Kd.R_drewN | apply Kd.R_drew)); exact Kd.R_mono HO540.out (fun _ hk => ⟨hk.2, hk.1.2⟩)) hg hat); have n2_ := Aside0.mk (Kd.R_after (ok := (fun k_ => some k_ ≠ (.slice Ao45 t538.length co45 : Value).ownBlock)) (by (with_reducible repeat (first | apply Kd.R_alloc | apply Kd.R_drewN | apply Kd.R_drew)); exact Kd.R_mono HO546.out (fun _ hk => ⟨hk.1.2, hk.2⟩)) hg hat); have n3_ := Aside0.mk (hb); have n4_ := Aside0.mk (ho); clear BK536; clear HO540; clear HO546; clear HB; clear HO543; have BK536 := n0_; have HO540 := n1_; have HO546 := n2_; have HB := n3_; have HO549 := n4_; clear n0_ n1_ n2_ n3_ n4_; clear ho hb hg hat))
                                    repeat (go_quiet (first | (go_at_call 34; (with_reducible refine (calamusref02_Put.calls kj27 ((rd_T111 l0 x56_3).f0) 2 t538 _ A38.out).mono ?_); rintro e w43 ⟨v539, rfl, ho0, hb⟩; have n0_ := Aside0.mk (Kd.R_elder' (by (with_reducible repeat (first | apply Kd.R_alloc | apply Kd.R_drewN | apply Kd.R_drew)); exact HO_8.out) (Kd.R_base ho0) hb); have n1_ := Aside0.mk (Kd.R_lower (Kd.R_new' ho0 (Kd.R_lt (by (with_reducible repeat (first | apply Kd.R_alloc | apply Kd.R_drewN | apply Kd.R_drew)); exact HO_8.out))) (below_size (by repeat (first | (with_reducible first | exact HB.out | apply below_alloc | apply pw_below_drewN | apply below_drew1 | refine below_set ?_ GE536.out) | exact HB.out)))); have n2_ := Aside0.mk (blk_below (g := gb536) (o := .cells #[.int .i64 ((rd_T111 l0 x56_3).f0), .int .i64 ((rd_T111 l0 x56_3).f1)] 111 (0, 0)) (by (with_reducible repeat (first | refine blk_drewN ?_ _ | refine blk_drew ?_ | refine blk_alloc ?_ _)); exact BK536.out) hb); have n3_ := Aside0.mk (below_step (by repeat (first | (with_reducible first | exact HB.out | apply below_alloc | apply pw_below_drewN | apply below_drew1 | refine below_set ?_ GE536.out) | exact HB.out)) hb); clear HO_8; clear BK536; clear HB; have HO_8 := n0_; have HO540 := n1_; have BK536 := n2_; have HB := n3_; clear n0_ n1_ n2_ n3_; (try clear hb); (try clear hb2); (try clear hk); (try clear hi); (try clear ho0); obtain ⟨Ao45, co45, eo45⟩ := Kd.R_slice HO540.out; subst eo45) | ((with_reducible refine gate_builtin (b := .append) (xs := #[.tmp 78, .tmp 81]) rfl ?_); (try (refine gate_guard (by rfl) ?_; dsimp only)); at_builtin; refine Kd.R_append_rows (Kd.int .u8) (w0 := w) w.heap.size rfl (.tmp 78) (.tmp 81) 23 5 (.int .u8 0) 1 rfl Try.underlying23 info5 rfl (by decide) (by omega) u8 x8_3 t538 _ _ _ (fun k_ => some k_ ≠ (.slice Ao45 t538.length co45 : Value).ownBlock) (fun _ => False) rfl rfl ?aO ?aR (fun _ _ h => h) (fun _ h => h.elim) ?aF ?aB ?aS ?aL ?_; (case aR => repeat (first | exact (Kd.R_reads' HO540.out).2.2 | (with_reducible refine Kd.C_alloc ?_ _) | (with_reducible refine Kd.C_drewN ?_ _) | (with_reducible refine Kd.C_drew ?_))); (case aB => exact (by repeat (first | (with_reducible first | exact HB.out | apply below_alloc | apply pw_below_drewN | apply below_drew1 | refine below_set ?_ GE536.out) | exact HB.out))); (case aF => exact (fun k_ hk => Kd.fresh' (Kd.R_lt (by (with_reducible repeat (first | apply Kd.R_alloc | apply Kd.R_drewN | apply Kd.R_drew)); exact HO540.out)) k_ hk)); (case aO => exact (by (with_reducible repeat (first | apply Kd.R_alloc | apply Kd.R_drewN | apply Kd.R_drew)); exact Kd.R_mono HO_8.out (fun _ hk => hk.2))); (case aS => exact (below_size (by repeat (first | (with_reducible first | exact HB.out | apply below_alloc | apply pw_below_drewN | apply below_drew1 | refine below_set ?_ GE536.out) | exact HB.out)))); (case aL => have := LMc39.out; omega); intro v542 w44 ho hb hg hat; rw [← Ny541.out] at ho; have n0_ := Aside0.mk (blk_grown (g := gb536) (o := .cells #[.int .i64 ((rd_T111 l0 x56_3).f0), .int .i64 ((rd_T111 l0 x56_3).f1)] 111 (0, 0)) (by (with_reducible repeat (first | refine blk_drewN ?_ _ | refine blk_drew ?_ | refine blk_alloc ?_ _)); exact BK536.out) hg (Kd.R_ne HO_8.out BK536.out (by decide))); have n1_ := Aside0.mk (Kd.R_after (ok := (fun _ => True)) (by (with_reducible repeat (first | apply Kd.R_alloc | apply Kd.R_drewN | apply Kd.R_drew)); exact HO540.out) hg hat); have n2_ := Aside0.mk (hb); have n3_ := Aside0.mk (ho); clear BK536; clear HO540; clear HB; clear HO_8; have BK536 := n0_; have HO540 := n1_; have HB := n2_; have HO543 := n3_; clear n0_ n1_ n2_ n3_; clear ho hb hg hat; have hcz46_0 : w44.cell? ⟨gb536, 0, none⟩ = some (.int .i64 ((rd_T111 l0 x56_3).f0)) := (blk_cell BK536.out 0).trans rfl; have hcz46_1 : w44.cell? ⟨gb536, 1, none⟩ = some (.int .i64 ((rd_T111 l0 x56_3).f1)) := (blk_cell BK536.out 1).trans rfl; have hfz46_0 := blk_frozen BK536.out 0; have hfz46_1 := blk_frozen BK536.out 1) | (go_at_call 34; (with_reducible refine (calamusref02_Put.calls kj27 ((rd_T111 l0 x56_3).f1) 2 t544 _ A40.out).mono ?_); rintro e w47 ⟨v545, rfl, ho0, hb⟩; have n0_ := Aside0.mk (Kd.R_elder' (by (with_reducible repeat (first | apply Kd.R_alloc | apply Kd.R_drewN | apply Kd.R_drew)); exact HO540.out) (Kd.R_base ho0) hb); have n1_ := Aside0.mk (Kd.R_elder' (by (with_reducible repeat (first | apply Kd.R_alloc | apply Kd.R_drewN | apply Kd.R_drew)); exact HO543.out) (Kd.R_base ho0) hb); have n2_ := Aside0.mk (Kd.R_lower (Kd.R_new' (Kd.R_new' ho0 (Kd.R_lt (by (with_reducible repeat (first | apply Kd.R_alloc | apply Kd.R_drewN | apply Kd.R_drew)); exact HO540.out))) (Kd.R_lt (by (with_reducible repeat (first | apply Kd.R_alloc | apply Kd.R_drewN | apply Kd.R_drew)); exact HO543.out))) (below_size (by repeat (first | (with_reducible first | exact HB.out | apply below_alloc | apply pw_below_drewN | apply below_drew1 | refine below_set ?_ GE536.out) | exact HB.out)))); have n3_ := Aside0.mk (blk_below (g := gb536) (o := .cells #[.int .i64 ((rd_T111 l0 x56_3).f0), .int .i64 ((rd_T111 l0 x56_3).f1)] 111 (0, 0)) (by (with_reducible repeat (first | refine blk_drewN ?_ _ | refine blk_drew ?_ | refine blk_alloc ?_ _)); exact BK536.out) hb); have n4_ := Aside0.mk (below_step (by repeat (first | (with_reducible first | exact HB.out | apply below_alloc | apply pw_below_drewN | apply below_drew1 | refine below_set ?_ GE536.out) | exact HB.out)) hb); clear HO540; clear HO543; clear BK536; clear HB; have HO540 := n0_; have HO543 := n1_; have HO546 := n2_; have BK536 := n3_; have HB := n4_; clear n0_ n1_ n2_ n3_ n4_; (try clear hb); (try clear hb2); (try clear hk); (try clear hi); (try clear ho0); obtain ⟨Ao49, co49, eo49⟩ := Kd.R_slice HO546.out; subst eo49) | ((with_reducible refine gate_builtin (b := .append) (xs := #[.tmp 83, .tmp 86]) rfl ?_); (try (refine gate_guard (by rfl) ?_; dsimp only)); at_builtin; refine Kd.R_append_rows (Kd.int .u8) (w0 := w) w.heap.size rfl (.tmp 83) (.tmp 86) 23 5 (.int .u8 0) 1 rfl Try.underlying23 info5 rfl (by decide) (by omega) v542 y541 t544 _ _ _ (fun k_ => some k_ ≠ (.slice Ao45 t538.length co45 : Value).ownBlock ∧ some k_ ≠ (.slice Ao49 t544.length co49 : Value).ownBlock) (fun _ => False) rfl rfl ?aO ?aR (fun _ _ h => h) (fun _ h => h.elim) ?aF ?aB ?aS ?aL ?_; (case aR => repeat (first | exact (Kd.R_reads' HO546.out).2.2 | (with_reducible refine Kd.C_alloc ?_ _) | (with_reducible refine Kd.C_drewN ?_ _) | (with_reducible refine Kd.C_drew ?_))); (case aB => exact (by repeat (first | (with_reducible first | exact HB.out | apply below_alloc | apply pw_below_drewN | apply below_drew1 | refine below_set ?_ GE536.out) | exact HB.out))); (case aF => exact (fun k_ hk => ⟨Kd.fresh' (Kd.R_lt (by (with_reducible repeat (first | apply Kd.R_alloc | apply Kd.R_drewN | apply Kd.R_drew)); exact HO540.out)) k_ hk, Kd.fresh' (Kd.R_lt (by (with_reducible repeat (first | apply Kd.R_alloc | apply Kd.R_drewN | apply Kd.R_drew)); exact HO546.out)) k_ hk⟩)); (case aO => exact (by (with_reducible repeat (first | apply Kd.R_alloc | apply Kd.R_drewN | apply Kd.R_drew)); exact HO543.out)); (case aS => exact (below_size (by repeat (first | (with_reducible first | exact HB.out | apply below_alloc | apply pw_below_drewN | apply below_drew1 | refine below_set ?_ GE536.out) | exact HB.out)))); (case aL => have := LMc41.out; omega); intro v548 w48 ho hb hg hat; rw [← Ny547.out] at ho; have n0_ := Aside0.mk (blk_grown (g := gb536) (o := .cells #[.int .i64 ((rd_T111 l0 x56_3).f0), .int .i64 ((rd_T111 l0 x56_3).f1)] 111 (0, 0)) (by (with_reducible repeat (first | refine blk_drewN ?_ _ | refine blk_drew ?_ | refine blk_alloc ?_ _)); exact BK536.out) hg (Kd.R_ne HO543.out BK536.out (by decide))); have n1_ := Aside0.mk (Kd.R_after (ok := (fun k_ => some k_ ≠ (.slice Ao49 t544.length co49 : Value).ownBlock)) (by (with_reducible repeat (first | apply Kd.R_alloc | apply Kd.R_drewN | apply Kd.R_drew)); exact Kd.R_mono HO540.out (fun _ hk => ⟨hk.2, hk.1.2⟩)) hg hat); have n2_ := Aside0.mk (Kd.R_after (ok := (fun k_ => some k_ ≠ (.slice Ao45 t538.length co45 : Value).ownBlock)) (by (with_reducible repeat (first | apply Kd.R_alloc | apply Kd.R_drewN | apply Kd.R_drew)); exact Kd.R_mono HO546.out (fun _ hk => ⟨hk.1.2, hk.2⟩)) hg hat); have n3_ := Aside0.mk (hb); have n4_ := Aside0.mk (ho); clear BK536; clear HO540; clear HO546; clear HB; clear HO543; have BK536 := n0_; have HO540 := n1_; have HO546 := n2_; have HB := n3_; have HO549 := n4_; clear n0_ n1_ n2_ n3_ n4_; clear ho hb hg hat)); try go_wp2_with (first | (go_at_call 34; (with_reducible refine (calamusref02_Put.calls kj27 ((rd_T111 l0 x56_3).f0) 2 t538 _ A38.out).mono ?_); rintro e w43 ⟨v539, rfl, ho0, hb⟩; have n0_ := Aside0.mk (Kd.R_elder' (by (with_reducible repeat (first | apply Kd.R_alloc | apply Kd.R_drewN | apply Kd.R_drew)); exact HO_8.out) (Kd.R_base ho0) hb); have n1_ := Aside0.mk (Kd.R_lower (Kd.R_new' ho0 (Kd.R_lt (by (with_reducible repeat (first | apply Kd.R_alloc | apply Kd.R_drewN | apply Kd.R_drew)); exact HO_8.out))) (below_size (by repeat (first | (with_reducible first | exact HB.out | apply below_alloc | apply pw_below_drewN | apply below_drew1 | refine below_set ?_ GE536.out) | exact HB.out)))); have n2_ := Aside0.mk (blk_below (g := gb536) (o := .cells #[.int .i64 ((rd_T111 l0 x56_3).f0), .int .i64 ((rd_T111 l0 x56_3).f1)] 111 (0, 0)) (by (with_reducible repeat (first | refine blk_drewN ?_ _ | refine blk_drew ?_ | refine blk_alloc ?_ _)); exact BK536.out) hb); have n3_ := Aside0.mk (below_step (by repeat (first | (with_reducible first | exact HB.out | apply below_alloc | apply pw_below_drewN | apply below_drew1 | refine below_set ?_ GE536.out) | exact HB.out)) hb); clear HO_8; clear BK536; clear HB; have HO_8 := n0_; have HO540 := n1_; have BK536 := n2_; have HB := n3_; clear n0_ n1_ n2_ n3_; (try clear hb); (try clear hb2); (try clear hk); (try clear hi); (try clear ho0); obtain ⟨Ao45, co45, eo45⟩ := Kd.R_slice HO540.out; subst eo45) | ((with_reducible refine gate_builtin (b := .append) (xs := #[.tmp 78, .tmp 81]) rfl ?_); (try (refine gate_guard (by rfl) ?_; dsimp only)); at_builtin; refine Kd.R_append_rows (Kd.int .u8) (w0 := w) w.heap.size rfl (.tmp 78) (.tmp 81) 23 5 (.int .u8 0) 1 rfl Try.underlying23 info5 rfl (by decide) (by omega) u8 x8_3 t538 _ _ _ (fun k_ => some k_ ≠ (.slice Ao45 t538.length co45 : Value).ownBlock) (fun _ => False) rfl rfl ?aO ?aR (fun _ _ h => h) (fun _ h => h.elim) ?aF ?aB ?aS ?aL ?_; (case aR => repeat (first | exact (Kd.R_reads' HO540.out).2.2 | (with_reducible refine Kd.C_alloc ?_ _) | (with_reducible refine Kd.C_drewN ?_ _) | (with_reducible refine Kd.C_drew ?_))); (case aB => exact (by repeat (first | (with_reducible first | exact HB.out | apply below_alloc | apply pw_below_drewN | apply below_drew1 | refine below_set ?_ GE536.out) | exact HB.out))); (case aF => exact (fun k_ hk => Kd.fresh' (Kd.R_lt (by (with_reducible repeat (first | apply Kd.R_alloc | apply Kd.R_drewN | apply Kd.R_drew)); exact HO540.out)) k_ hk)); (case aO => exact (by (with_reducible repeat (first | apply Kd.R_alloc | apply Kd.R_drewN | apply Kd.R_drew)); exact Kd.R_mono HO_8.out (fun _ hk => hk.2))); (case aS => exact (below_size (by repeat (first | (with_reducible first | exact HB.out | apply below_alloc | apply pw_below_drewN | apply below_drew1 | refine below_set ?_ GE536.out) | exact HB.out)))); (case aL => have := LMc39.out; omega); intro v542 w44 ho hb hg hat; rw [← Ny541.out] at ho; have n0_ := Aside0.mk (blk_grown (g := gb536) (o := .cells #[.int .i64 ((rd_T111 l0 x56_3).f0), .int .i64 ((rd_T111 l0 x56_3).f1)] 111 (0, 0)) (by (with_reducible repeat (first | refine blk_drewN ?_ _ | refine blk_drew ?_ | refine blk_alloc ?_ _)); exact BK536.out) hg (Kd.R_ne HO_8.out BK536.out (by decide))); have n1_ := Aside0.mk (Kd.R_after (ok := (fun _ => True)) (by (with_reducible repeat (first | apply Kd.R_alloc | apply Kd.R_drewN | apply Kd.R_drew)); exact HO540.out) hg hat); have n2_ := Aside0.mk (hb); have n3_ := Aside0.mk (ho); clear BK536; clear HO540; clear HB; clear HO_8; have BK536 := n0_; have HO540 := n1_; have HB := n2_; have HO543 := n3_; clear n0_ n1_ n2_ n3_; clear ho hb hg hat; have hcz46_0 : w44.cell? ⟨gb536, 0, none⟩ = some (.int .i64 ((rd_T111 l0 x56_3).f0)) := (blk_cell BK536.out 0).trans rfl; have hcz46_1 : w44.cell? ⟨gb536, 1, none⟩ = some (.int .i64 ((rd_T111 l0 x56_3).f1)) := (blk_cell BK536.out 1).trans rfl; have hfz46_0 := blk_frozen BK536.out 0; have hfz46_1 := blk_frozen BK536.out 1) | (go_at_call 34; (with_reducible refine (calamusref02_Put.calls kj27 ((rd_T111 l0 x56_3).f1) 2 t544 _ A40.out).mono ?_); rintro e w47 ⟨v545, rfl, ho0, hb⟩; have n0_ := Aside0.mk (Kd.R_elder' (by (with_reducible repeat (first | apply Kd.R_alloc | apply Kd.R_drewN | apply Kd.R_drew)); exact HO540.out) (Kd.R_base ho0) hb); have n1_ := Aside0.mk (Kd.R_elder' (by (with_reducible repeat (first | apply Kd.R_alloc | apply Kd.R_drewN | apply Kd.R_drew)); exact HO543.out) (Kd.R_base ho0) hb); have n2_ := Aside0.mk (Kd.R_lower (Kd.R_new' (Kd.R_new' ho0 (Kd.R_lt (by (with_reducible repeat (first | apply Kd.R_alloc | apply Kd.R_drewN | apply Kd.R_drew)); exact HO540.out))) (Kd.R_lt (by (with_reducible repeat (first | apply Kd.R_alloc | apply Kd.R_drewN | apply Kd.R_drew)); exact HO543.out))) (below_size (by repeat (first | (with_reducible first | exact HB.out | apply below_alloc | apply pw_below_drewN | apply below_drew1 | refine below_set ?_ GE536.out) | exact HB.out)))); have n3_ := Aside0.mk (blk_below (g := gb536) (o := .cells #[.int .i64 ((rd_T111 l0 x56_3).f0), .int .i64 ((rd_T111 l0 x56_3).f1)] 111 (0, 0)) (by (with_reducible repeat (first | refine blk_drewN ?_ _ | refine blk_drew ?_ | refine blk_alloc ?_ _)); exact BK536.out) hb); have n4_ := Aside0.mk (below_step (by repeat (first | (with_reducible first | exact HB.out | apply below_alloc | apply pw_below_drewN | apply below_drew1 | refine below_set ?_ GE536.out) | exact HB.out)) hb); clear HO540; clear HO543; clear BK536; clear HB; have HO540 := n0_; have HO543 := n1_; have HO546 := n2_; have BK536 := n3_; have HB := n4_; clear n0_ n1_ n2_ n3_ n4_; (try clear hb); (try clear hb2); (try clear hk); (try clear hi); (try clear ho0); obtain ⟨Ao49, co49, eo49⟩ := Kd.R_slice HO546.out; subst eo49) | ((with_reducible refine gate_builtin (b := .append) (xs := #[.tmp 83, .tmp 86]) rfl ?_); (try (refine gate_guard (by rfl) ?_; dsimp only)); at_builtin; refine Kd.R_append_rows (Kd.int .u8) (w0 := w) w.heap.size rfl (.tmp 83) (.tmp 86) 23 5 (.int .u8 0) 1 rfl Try.underlying23 info5 rfl (by decide) (by omega) v542 y541 t544 _ _ _ (fun k_ => some k_ ≠ (.slice Ao45 t538.length co45 : Value).ownBlock ∧ some k_ ≠ (.slice Ao49 t544.length co49 : Value).ownBlock) (fun _ => False) rfl rfl ?aO ?aR (fun _ _ h => h) (fun _ h => h.elim) ?aF ?aB ?aS ?aL ?_; (case aR => repeat (first | exact (Kd.R_reads' HO546.out).2.2 | (with_reducible refine Kd.C_alloc ?_ _) | (with_reducible refine Kd.C_drewN ?_ _) | (with_reducible refine Kd.C_drew ?_))); (case aB => exact (by repeat (first | (with_reducible first | exact HB.out | apply below_alloc | apply pw_below_drewN | apply below_drew1 | refine below_set ?_ GE536.out) | exact HB.out))); (case aF => exact (fun k_ hk => ⟨Kd.fresh' (Kd.R_lt (by (with_reducible repeat (first | apply Kd.R_alloc | apply Kd.R_drewN | apply Kd.R_drew)); exact HO540.out)) k_ hk, Kd.fresh' (Kd.R_lt (by (with_reducible repeat (first | apply Kd.R_alloc | apply Kd.R_drewN | apply Kd.R_drew)); exact HO546.out)) k_ hk⟩)); (case aO => exact (by (with_reducible repeat (first | apply Kd.R_alloc | apply Kd.R_drewN | apply Kd.R_drew)); exact HO543.out)); (case aS => exact (below_size (by repeat (first | (with_reducible first | exact HB.out | apply below_alloc | apply pw_below_drewN | apply below_drew1 | refine below_set ?_ GE536.out) | exact HB.out)))); (case aL => have := LMc41.out; omega); intro v548 w48 ho hb hg hat; rw [← Ny547.out] at ho; have n0_ := Aside0.mk (blk_grown (g := gb536) (o := .cells #[.int .i64 ((rd_T111 l0 x56_3).f0), .int .i64 ((rd_T111 l0 x56_3).f1)] 111 (0, 0)) (by (with_reducible repeat (first | refine blk_drewN ?_ _ | refine blk_drew ?_ | refine blk_alloc ?_ _)); exact BK536.out) hg (Kd.R_ne HO543.out BK536.out (by decide))); have n1_ := Aside0.mk (Kd.R_after (ok := (fun k_ => some k_ ≠ (.slice Ao49 t544.length co49 : Value).ownBlock)) (by (with_reducible repeat (first | apply Kd.R_alloc | apply Kd.R_drewN | apply Kd.R_drew)); exact Kd.R_mono HO540.out (fun _ hk => ⟨hk.2, hk.1.2⟩)) hg hat); have n2_ := Aside0.mk (Kd.R_after (ok := (fun k_ => some k_ ≠ (.slice Ao45 t538.length co45 : Value).ownBlock)) (by (with_reducible repeat (first | apply Kd.R_alloc | apply Kd.R_drewN | apply Kd.R_drew)); exact Kd.R_mono HO546.out (fun _ hk => ⟨hk.1.2, hk.2⟩)) hg hat); have n3_ := Aside0.mk (hb); have n4_ := Aside0.mk (ho); clear BK536; clear HO540; clear HO546; clear HB; clear HO543; have BK536 := n0_; have HO540 := n1_; have HO546 := n2_; have HB := n3_; have HO549 := n4_; clear n0_ n1_ n2_ n3_ n4_; clear ho hb hg hat)))
                                    go_roundg kj27
                                    case measure => have := HJ2.out; have := HK2.out; have := HK3.out; have := HJ27.out; omega
                                    case rel => exact ⟨(y547), (wrap64 (x56_3 + 1)), (by first | rfl | (simp; done) | (simp [*]; done)), H', ⟨by have := HJ2.out; have := HK2.out; have := HK3.out; have := HJ27.out; omega⟩, ⟨by (with_reducible repeat (first | apply Kd.R_alloc | apply Kd.R_drewN | apply Kd.R_drew)); exact Kd.R_mono HO549.out (fun _ hk => trivial)⟩, ⟨by repeat (first | (with_reducible first | exact HB.out | apply below_alloc | apply pw_below_drewN | apply below_drew1 | refine below_set ?_ GE536.out) | exact HB.out)⟩⟩
                                  · rw [if_neg c41] at H
                                    exact absurd H (by simp)
                                · rw [if_neg c39] at H
                                  exact absurd H (by simp)
                              · rw [if_neg c37] at H
                                have c37b0 : decide (x56_3 < a1) = false := decide_eq_false c37
                                clear c37
                                replace H := Option.bind_eq_some_iff.mp H
                                obtain ⟨t550, A500, H⟩ := H
                                replace H : (if x8_3.length + t550.length < 140737488355328 then (calamusref06_PutMetrics.l1 kj27 l0 a1 (x8_3 ++ t550) l0 (l0.length : Int) (wrap64 (x56_3 + 1))) else (none)) = some (r1, r2) := H
                                have A50 := Aside0.mk A500
                                clear A500
                                by_cases c51 : x8_3.length + t550.length < 140737488355328
                                · rw [if_pos c51] at H
                                  have LMc51 := Aside0.mk c51
                                  clear c51
                                  obtain ⟨y553, hy553⟩ : ∃ y_ : List Int, y_ = (x8_3 ++ t550) := ⟨_, rfl⟩
                                  replace H : (calamusref06_PutMetrics.l1 kj27 l0 a1 y553 l0 (l0.length : Int) (wrap64 (x56_3 + 1))) = some (r1, r2) := by first | (rw [hy553]; with_reducible exact H) | (have H2_ := (Option.bind_some _ _).symm.trans H; rw [hy553]; with_reducible exact H2_) | (have H2_ := (Option.bind_some _ _).symm.trans H; with_reducible exact H2_) | with_reducible exact H | (rw [hy553]; exact H) | exact H
                                  have Ny553 := Aside0.mk hy553
                                  clear hy553
                                  have H' := Aside0.mk H
                                  clear H
                                  have hcz52_0 : wc.cell? ⟨gb536, 0, none⟩ = some (.int .i64 ((rd_T111 l0 x56_3).f0)) := (blk_cell BK536.out 0).trans rfl
                                  have hcz52_1 : wc.cell? ⟨gb536, 1, none⟩ = some (.int .i64 ((rd_T111 l0 x56_3).f1)) := (blk_cell BK536.out 1).trans rfl
                                  have hfz52_0 := blk_frozen BK536.out 0
                                  have hfz52_1 := blk_frozen BK536.out 1
                                  go_wp2_with (first | (go_at_call 34; (with_reducible refine (calamusref02_Put.calls kj27 ((rd_T111 l0 x56_3).f1) 2 t550 _ A50.out).mono ?_); rintro e w53 ⟨v551, rfl, ho0, hb⟩; have n0_ := Aside0.mk (Kd.R_elder' (by (with_reducible repeat (first | apply Kd.R_alloc | apply Kd.R_drewN | apply Kd.R_drew)); exact HO_8.out) (Kd.R_base ho0) hb); have n1_ := Aside0.mk (Kd.R_lower (Kd.R_new' ho0 (Kd.R_lt (by (with_reducible repeat (first | apply Kd.R_alloc | apply Kd.R_drewN | apply Kd.R_drew)); exact HO_8.out))) (below_size (by repeat (first | (with_reducible first | exact HB.out | apply below_alloc | apply pw_below_drewN | apply below_drew1 | refine below_set ?_ GE536.out) | exact HB.out)))); have n2_ := Aside0.mk (blk_below (g := gb536) (o := .cells #[.int .i64 ((rd_T111 l0 x56_3).f0), .int .i64 ((rd_T111 l0 x56_3).f1)] 111 (0, 0)) (by (with_reducible repeat (first | refine blk_drewN ?_ _ | refine blk_drew ?_ | refine blk_alloc ?_ _)); exact BK536.out) hb); have n3_ := Aside0.mk (below_step (by repeat (first | (with_reducible first | exact HB.out | apply below_alloc | apply pw_below_drewN | apply below_drew1 | refine below_set ?_ GE536.out) | exact HB.out)) hb); clear HO_8; clear BK536; clear HB; have HO_8 := n0_; have HO552 := n1_; have BK536 := n2_; have HB := n3_; clear n0_ n1_ n2_ n3_; (try clear hb); (try clear hb2); (try clear hk); (try clear hi); (try clear ho0); obtain ⟨Ao55, co55, eo55⟩ := Kd.R_slice HO552.out; subst eo55) | ((with_reducible refine gate_builtin (b := .append) (xs := #[.tmp 83, .tmp 86]) rfl ?_); (try (refine gate_guard (by rfl) ?_; dsimp only)); at_builtin; refine Kd.R_append_rows (Kd.int .u8) (w0 := w) w.heap.size rfl (.tmp 83) (.tmp 86) 23 5 (.int .u8 0) 1 rfl Try.underlying23 info5 rfl (by decide) (by omega) u8 x8_3 t550 _ _ _ (fun k_ => some k_ ≠ (.slice Ao55 t550.length co55 : Value).ownBlock) (fun _ => False) rfl rfl ?aO ?aR (fun _ _ h => h) (fun _ h => h.elim) ?aF ?aB ?aS ?aL ?_; (case aR => repeat (first | exact (Kd.R_reads' HO552.out).2.2 | (with_reducible refine Kd.C_alloc ?_ _) | (with_reducible refine Kd.C_drewN ?_ _) | (with_reducible refine Kd.C_drew ?_))); (case aB => exact (by repeat (first | (with_reducible first | exact HB.out | apply below_alloc | apply pw_below_drewN | apply below_drew1 | refine below_set ?_ GE536.out) | exact HB.out))); (case aF => exact (fun k_ hk => Kd.fresh' (Kd.R_lt (by (with_reducible repeat (first | apply Kd.R_alloc | apply Kd.R_drewN | apply Kd.R_drew)); exact HO552.out)) k_ hk)); (case aO => exact (by (with_reducible repeat (first | apply Kd.R_alloc | apply Kd.R_drewN | apply Kd.R_drew)); exact Kd.R_mono HO_8.out (fun _ hk => hk.2))); (case aS => exact (below_size (by repeat (first | (with_reducible first | exact HB.out | apply below_alloc | apply pw_below_drewN | apply below_drew1 | refine below_set ?_ GE536.out) | exact HB.out)))); (case aL => have := LMc51.out; omega); intro v554 w54 ho hb hg hat; rw [← Ny553.out] at ho; have n0_ := Aside0.mk (blk_grown (g := gb536) (o := .cells #[.int .i64 ((rd_T111 l0 x56_3).f0), .int .i64 ((rd_T111 l0 x56_3).f1)] 111 (0, 0)) (by (with_reducible repeat (first | refine blk_drewN ?_ _ | refine blk_drew ?_ | refine blk_alloc ?_ _)); exact BK536.out) hg (Kd.R_ne HO_8.out BK536.out (by decide))); have n1_ := Aside0.mk (Kd.R_after (ok := (fun _ => True)) (by (with_reducible repeat (first | apply Kd.R_alloc | apply Kd.R_drewN | apply Kd.R_drew)); exact HO552.out) hg hat); have n2_ := Aside0.mk (hb); have n3_ := Aside0.mk (ho); clear BK536; clear HO552; clear HB; clear HO_8; have BK536 := n0_; have HO552 := n1_; have HB := n2_; have HO555 := n3_; clear n0_ n1_ n2_ n3_; clear ho hb hg hat))
                                  repeat (go_quiet (first | (go_at_call 34; (with_reducible refine (calamusref02_Put.calls kj27 ((rd_T111 l0 x56_3).f1) 2 t550 _ A50.out).mono ?_); rintro e w53 ⟨v551, rfl, ho0, hb⟩; have n0_ := Aside0.mk (Kd.R_elder' (by (with_reducible repeat (first | apply Kd.R_alloc | apply Kd.R_drewN | apply Kd.R_drew)); exact HO_8.out) (Kd.R_base ho0) hb); have n1_ := Aside0.mk (Kd.R_lower (Kd.R_new' ho0 (Kd.R_lt (by (with_reducible repeat (first | apply Kd.R_alloc | apply Kd.R_drewN | apply Kd.R_drew)); exact HO_8.out))) (below_size (by repeat (first | (with_reducible first | exact HB.out | apply below_alloc | apply pw_below_drewN | apply below_drew1 | refine below_set ?_ GE536.out) | exact HB.out)))); have n2_ := Aside0.mk (blk_below (g := gb536) (o := .cells #[.int .i64 ((rd_T111 l0 x56_3).f0), .int .i64 ((rd_T111 l0 x56_3).f1)] 111 (0, 0)) (by (with_reducible repeat (first | refine blk_drewN ?_ _ | refine blk_drew ?_ | refine blk_alloc ?_ _)); exact BK536.out) hb); have n3_ := Aside0.mk (below_step (by repeat (first | (with_reducible first | exact HB.out | apply below_alloc | apply pw_below_drewN | apply below_drew1 | refine below_set ?_ GE536.out) | exact HB.out)) hb); clear HO_8; clear BK536; clear HB; have HO_8 := n0_; have HO552 := n1_; have BK536 := n2_; have HB := n3_; clear n0_ n1_ n2_ n3_; (try clear hb); (try clear hb2); (try clear hk); (try clear hi); (try clear ho0); obtain ⟨Ao55, co55, eo55⟩ := Kd.R_slice HO552.out; subst eo55) | ((with_reducible refine gate_builtin (b := .append) (xs := #[.tmp 83, .tmp 86]) rfl ?_); (try (refine gate_guard (by rfl) ?_; dsimp only)); at_builtin; refine Kd.R_append_rows (Kd.int .u8) (w0 := w) w.heap.size rfl (.tmp 83) (.tmp 86) 23 5 (.int .u8 0) 1 rfl Try.underlying23 info5 rfl (by decide) (by omega) u8 x8_3 t550 _ _ _ (fun k_ => some k_ ≠ (.slice Ao55 t550.length co55 : Value).ownBlock) (fun _ => False) rfl rfl ?aO ?aR (fun _ _ h => h) (fun _ h => h.elim) ?aF ?aB ?aS ?aL ?_; (case aR => repeat (first | exact (Kd.R_reads' HO552.out).2.2 | (with_reducible refine Kd.C_alloc ?_ _) | (with_reducible refine Kd.C_drewN ?_ _) | (with_reducible refine Kd.C_drew ?_))); (case aB => exact (by repeat (first | (with_reducible first | exact HB.out | apply below_alloc | apply pw_below_drewN | apply below_drew1 | refine below_set ?_ GE536.out) | exact HB.out))); (case aF => exact (fun k_ hk => Kd.fresh' (Kd.R_lt (by (with_reducible repeat (first | apply Kd.R_alloc | apply Kd.R_drewN | apply Kd.R_drew)); exact HO552.out)) k_ hk)); (case aO => exact (by (with_reducible repeat (first | apply Kd.R_alloc | apply Kd.R_drewN | apply Kd.R_drew)); exact Kd.R_mono HO_8.out (fun _ hk => hk.2))); (case aS => exact (below_size (by repeat (first | (with_reducible first | exact HB.out | apply below_alloc | apply pw_below_drewN | apply below_drew1 | refine below_set ?_ GE536.out) | exact HB.out)))); (case aL => have := LMc51.out; omega); intro v554 w54 ho hb hg hat; rw [← Ny553.out] at ho; have n0_ := Aside0.mk (blk_grown (g := gb536) (o := .cells #[.int .i64 ((rd_T111 l0 x56_3).f0), .int .i64 ((rd_T111 l0 x56_3).f1)] 111 (0, 0)) (by (with_reducible repeat (first | refine blk_drewN ?_ _ | refine blk_drew ?_ | refine blk_alloc ?_ _)); exact BK536.out) hg (Kd.R_ne HO_8.out BK536.out (by decide))); have n1_ := Aside0.mk (Kd.R_after (ok := (fun _ => True)) (by (with_reducible repeat (first | apply Kd.R_alloc | apply Kd.R_drewN | apply Kd.R_drew)); exact HO552.out) hg hat); have n2_ := Aside0.mk (hb); have n3_ := Aside0.mk (ho); clear BK536; clear HO552; clear HB; clear HO_8; have BK536 := n0_; have HO552 := n1_; have HB := n2_; have HO555 := n3_; clear n0_ n1_ n2_ n3_; clear ho hb hg hat)); try go_wp2_with (first | (go_at_call 34; (with_reducible refine (calamusref02_Put.calls kj27 ((rd_T111 l0 x56_3).f1) 2 t550 _ A50.out).mono ?_); rintro e w53 ⟨v551, rfl, ho0, hb⟩; have n0_ := Aside0.mk (Kd.R_elder' (by (with_reducible repeat (first | apply Kd.R_alloc | apply Kd.R_drewN | apply Kd.R_drew)); exact HO_8.out) (Kd.R_base ho0) hb); have n1_ := Aside0.mk (Kd.R_lower (Kd.R_new' ho0 (Kd.R_lt (by (with_reducible repeat (first | apply Kd.R_alloc | apply Kd.R_drewN | apply Kd.R_drew)); exact HO_8.out))) (below_size (by repeat (first | (with_reducible first | exact HB.out | apply below_alloc | apply pw_below_drewN | apply below_drew1 | refine below_set ?_ GE536.out) | exact HB.out)))); have n2_ := Aside0.mk (blk_below (g := gb536) (o := .cells #[.int .i64 ((rd_T111 l0 x56_3).f0), .int .i64 ((rd_T111 l0 x56_3).f1)] 111 (0, 0)) (by (with_reducible repeat (first | refine blk_drewN ?_ _ | refine blk_drew ?_ | refine blk_alloc ?_ _)); exact BK536.out) hb); have n3_ := Aside0.mk (below_step (by repeat (first | (with_reducible first | exact HB.out | apply below_alloc | apply pw_below_drewN | apply below_drew1 | refine below_set ?_ GE536.out) | exact HB.out)) hb); clear HO_8; clear BK536; clear HB; have HO_8 := n0_; have HO552 := n1_; have BK536 := n2_; have HB := n3_; clear n0_ n1_ n2_ n3_; (try clear hb); (try clear hb2); (try clear hk); (try clear hi); (try clear ho0); obtain ⟨Ao55, co55, eo55⟩ := Kd.R_slice HO552.out; subst eo55) | ((with_reducible refine gate_builtin (b := .append) (xs := #[.tmp 83, .tmp 86]) rfl ?_); (try (refine gate_guard (by rfl) ?_; dsimp only)); at_builtin; refine Kd.R_append_rows (Kd.int .u8) (w0 := w) w.heap.size rfl (.tmp 83) (.tmp 86) 23 5 (.int .u8 0) 1 rfl Try.underlying23 info5 rfl (by decide) (by omega) u8 x8_3 t550 _ _ _ (fun k_ => some k_ ≠ (.slice Ao55 t550.length co55 : Value).ownBlock) (fun _ => False) rfl rfl ?aO ?aR (fun _ _ h => h) (fun _ h => h.elim) ?aF ?aB ?aS ?aL ?_; (case aR => repeat (first | exact (Kd.R_reads' HO552.out).2.2 | (with_reducible refine Kd.C_alloc ?_ _) | (with_reducible refine Kd.C_drewN ?_ _) | (with_reducible refine Kd.C_drew ?_))); (case aB => exact (by repeat (first | (with_reducible first | exact HB.out | apply below_alloc | apply pw_below_drewN | apply below_drew1 | refine below_set ?_ GE536.out) | exact HB.out))); (case aF => exact (fun k_ hk => Kd.fresh' (Kd.R_lt (by (with_reducible repeat (first | apply Kd.R_alloc | apply Kd.R_drewN | apply Kd.R_drew)); exact HO552.out)) k_ hk)); (case aO => exact (by (with_reducible repeat (first | apply Kd.R_alloc | apply Kd.R_drewN | apply Kd.R_drew)); exact Kd.R_mono HO_8.out (fun _ hk => hk.2))); (case aS => exact (below_size (by repeat (first | (with_reducible first | exact HB.out | apply below_alloc | apply pw_below_drewN | apply below_drew1 | refine below_set ?_ GE536.out) | exact HB.out)))); (case aL => have := LMc51.out; omega); intro v554 w54 ho hb hg hat; rw [← Ny553.out] at ho; have n0_ := Aside0.mk (blk_grown (g := gb536) (o := .cells #[.int .i64 ((rd_T111 l0 x56_3).f0), .int .i64 ((rd_T111 l0 x56_3).f1)] 111 (0, 0)) (by (with_reducible repeat (first | refine blk_drewN ?_ _ | refine blk_drew ?_ | refine blk_alloc ?_ _)); exact BK536.out) hg (Kd.R_ne HO_8.out BK536.out (by decide))); have n1_ := Aside0.mk (Kd.R_after (ok := (fun _ => True)) (by (with_reducible repeat (first | apply Kd.R_alloc | apply Kd.R_drewN | apply Kd.R_drew)); exact HO552.out) hg hat); have n2_ := Aside0.mk (hb); have n3_ := Aside0.mk (ho); clear BK536; clear HO552; clear HB; clear HO_8; have BK536 := n0_; have HO552 := n1_; have HB := n2_; have HO555 := n3_; clear n0_ n1_ n2_ n3_; clear ho hb hg hat)))
                                  go_roundg kj27
                                  case measure => have := HJ2.out; have := HK2.out; have := HK3.out; have := HJ27.out; omega
                                  case rel => exact ⟨(y553), (wrap64 (x56_3 + 1)), (by first | rfl | (simp; done) | (simp [*]; done)), H', ⟨by have := HJ2.out; have := HK2.out; have := HK3.out; have := HJ27.out; omega⟩, ⟨by (with_reducible repeat (first | apply Kd.R_alloc | apply Kd.R_drewN | apply Kd.R_drew)); exact Kd.R_mono HO555.out (fun _ hk => trivial)⟩, ⟨by repeat (first | (with_reducible first | exact HB.out | apply below_alloc | apply pw_below_drewN | apply below_drew1 | refine below_set ?_ GE536.out) | exact HB.out)⟩⟩
                                · rw [if_neg c51] at H
                                  exact absurd H (by simp)
                      · rw [if_neg c27] at H
                        exact absurd H (by simp)
                    · rw [if_neg c26] at H
                      exact absurd H (by simp)
                  · rw [if_neg c25] at H
                    have c25b0 : decide (x56_3 < (l0.length : Int)) = false := decide_eq_false c25
                    clear c25
                    simp only [Option.some.injEq, Prod.mk.injEq] at H
                    obtain ⟨rfl, rfl⟩ := H
                    go_wp2
                    repeat (go_quiet (fail); try go_wp2)
                    go_ret2
                    exact ⟨_, by first | rfl | (simp [errW_none, errW_some] <;> rfl) | (simp [*, errW_none, errW_some] <;> rfl), by (with_reducible repeat (first | apply Kd.R_alloc | apply Kd.R_drewN | apply Kd.R_drew)); exact HO_8.out, by repeat (first | (with_reducible first | exact HB.out | apply below_alloc | apply pw_below_drewN | apply below_drew1) | exact HB.out)⟩

end Go.Proofs.Ytcclmaicdmogjaa.P

-- Written by wip/pr.py over the kit's print
namespace Go.Proofs.Ytcclmaicdmogjaa.P
open Go.RowKit Go.Proofs.YtcclmaicdmogjaaW.PrintWords Go.Proofs.YtcclmaicdmogjaaW.PrintLast Go.Proofs.YtcclmaicdmogjaaW.PrintMore
attribute [local go_sem] max2_int min2_int max_two min_two max_three min_three max_four min_four   -- for this text's walks alone
set_option linter.unusedVariables false
set_option linter.unusedSimpArgs false

/-! ### calamuslaw06_LocaPuts: function 19 -/
def calamuslaw06_LocaPuts.j0 : Nat → List (S111) → Int → List Int → Int → Bool → Option (Bool)
  | 0, _, _, _, _, _ => none
  | k + 1, x0, x1, x6, x9, x43 => if x43 = true then (some false) else (if x9 = 0 then ((loca_Metrics.f k x6 x1 (x0.length : Int)).bind fun bt573 => (if bt573.2 = 0 then ((calamusref06_Same.f k bt573.1 x0).bind fun t577 => (some t577)) else (some false))) else (some true))
def calamuslaw06_LocaPuts.f (k : Nat) (l0 : List (S111)) (a1 : Int) : Option (Bool) := (calamuslaw06_alive.f k).bind fun t556 => (if t556 = true then ((some (([] : List (S111)) : List (S111))).bind fun y557 => (if y557.length + l0.length < 8796093022208 then ((some (y557 ++ l0 : List (S111))).bind fun y560 => ((loca_PutMetrics.f y560 a1).bind fun bt563 => ((calamusref06_PutMetrics.f k l0 a1).bind fun bt567 => (if bt563.2 = bt567.2 then ((calamusref02_Same.f bt563.1 bt567.1).bind fun t571 => (if t571 = true then ((calamusref06_Same.f k y560 l0).bind fun t572 => (calamuslaw06_LocaPuts.j0 k l0 a1 bt563.1 bt567.2 (!t572))) else (calamuslaw06_LocaPuts.j0 k l0 a1 bt563.1 bt567.2 true))) else (calamuslaw06_LocaPuts.j0 k l0 a1 bt563.1 bt567.2 true))))) else (none))) else (some false))
theorem calamuslaw06_LocaPuts.mono_l : ∀ k, (∀ y0 y1 y2 y3 y4, LeO (calamuslaw06_LocaPuts.j0 k y0 y1 y2 y3 y4) (calamuslaw06_LocaPuts.j0 (k + 1) y0 y1 y2 y3 y4))
  | 0 => fun _ _ _ _ _ r h => by simp [calamuslaw06_LocaPuts.j0] at h
  | k + 1 => by
    have ih0 := calamuslaw06_LocaPuts.mono_l k
    · intro y0 y1 y2 y3 y4
      unfold calamuslaw06_LocaPuts.j0
      repeat' first
      | (with_reducible exact ih0 _ _ _ _ _)
      | (with_reducible exact calamuslaw06_alive.mono _)
      | (with_reducible exact calamusref06_PutMetrics.mono _ _ _)
      | (with_reducible exact calamusref06_Same.mono _ _ _)
      | (with_reducible exact loca_Metrics.mono _ _ _ _)
      | (with_reducible exact LeO.refl _)
      | (with_reducible exact LeO.none _)
      | (with_reducible refine LeO.ite ?_ ?_)
      | (with_reducible refine LeO.bind ?_ (fun _ => ?_))
      | exact ih0 _ _ _ _ _
      | exact calamuslaw06_alive.mono _
      | exact calamusref06_PutMetrics.mono _ _ _
      | exact calamusref06_Same.mono _ _ _
      | exact loca_Metrics.mono _ _ _ _
      | exact LeO.none _
      | refine LeO.ite ?_ ?_
      | refine LeO.bind ?_ (fun _ => ?_)
theorem calamuslaw06_LocaPuts.mono : ∀ a0 a1 k, LeO (calamuslaw06_LocaPuts.f k a0 a1) (calamuslaw06_LocaPuts.f (k + 1) a0 a1) := by
  intro a0 a1 k
  have ih0 := calamuslaw06_LocaPuts.mono_l k
  unfold calamuslaw06_LocaPuts.f
  repeat' first
      | (with_reducible exact ih0 _ _ _ _ _)
      | (with_reducible exact calamuslaw06_alive.mono _)
      | (with_reducible exact calamusref06_PutMetrics.mono _ _ _)
      | (with_reducible exact calamusref06_Same.mono _ _ _)
      | (with_reducible exact loca_Metrics.mono _ _ _ _)
      | (with_reducible exact LeO.refl _)
      | (with_reducible exact LeO.none _)
      | (with_reducible refine LeO.ite ?_ ?_)
      | (with_reducible refine LeO.bind ?_ (fun _ => ?_))
      | exact ih0 _ _ _ _ _
      | exact calamuslaw06_alive.mono _
      | exact calamusref06_PutMetrics.mono _ _ _
      | exact calamusref06_Same.mono _ _ _
      | exact loca_Metrics.mono _ _ _ _
      | exact LeO.none _
      | refine LeO.ite ?_ ?_
      | refine LeO.bind ?_ (fun _ => ?_)
set_option maxHeartbeats 8000000 in
set_option maxRecDepth 100000 in
theorem calamuslaw06_LocaPuts.calls (k : Nat) (A0 : Option Addr) (c0 : Nat) (l0 : List (S111)) (a1 : Int) (r : Bool) (w : World) (hr0 : Kd.C k111 w A0 l0.length l0) (hc0 : l0.length ≤ c0) (h : calamuslaw06_LocaPuts.f k l0 a1 = some r) :
    Calls Try.prog 19 #[.slice A0 l0.length c0, .int .i64 a1] w fun e w' => e = .returned (.bool r) ∧ Below w.heap.size w w' := by
  have HR0 := Aside0.mk hr0
  have HC0 := Aside0.mk hc0
  clear hr0 hc0
  have HB := Aside0.mk (Below.refl w.heap.size w)
  have H : ((calamuslaw06_alive.f k).bind fun t556 => (if t556 = true then ((some (([] : List (S111)) : List (S111))).bind fun y557 => (if y557.length + l0.length < 8796093022208 then ((some (y557 ++ l0 : List (S111))).bind fun y560 => ((loca_PutMetrics.f y560 a1).bind fun bt563 => ((calamusref06_PutMetrics.f k l0 a1).bind fun bt567 => (if bt563.2 = bt567.2 then ((calamusref02_Same.f bt563.1 bt567.1).bind fun t571 => (if t571 = true then ((calamusref06_Same.f k y560 l0).bind fun t572 => (calamuslaw06_LocaPuts.j0 k l0 a1 bt563.1 bt567.2 (!t572))) else (calamuslaw06_LocaPuts.j0 k l0 a1 bt563.1 bt567.2 true))) else (calamuslaw06_LocaPuts.j0 k l0 a1 bt563.1 bt567.2 true))))) else (none))) else (some false))) = some r := h
  clear h
  replace H := Option.bind_eq_some_iff.mp H
  obtain ⟨t556, A30, H⟩ := H
  replace H : (if t556 = true then ((some (([] : List (S111)) : List (S111))).bind fun y557 => (if y557.length + l0.length < 8796093022208 then ((some (y557 ++ l0 : List (S111))).bind fun y560 => ((loca_PutMetrics.f y560 a1).bind fun bt563 => ((calamusref06_PutMetrics.f k l0 a1).bind fun bt567 => (if bt563.2 = bt567.2 then ((calamusref02_Same.f bt563.1 bt567.1).bind fun t571 => (if t571 = true then ((calamusref06_Same.f k y560 l0).bind fun t572 => (calamuslaw06_LocaPuts.j0 k l0 a1 bt563.1 bt567.2 (!t572))) else (calamuslaw06_LocaPuts.j0 k l0 a1 bt563.1 bt567.2 true))) else (calamuslaw06_LocaPuts.j0 k l0 a1 bt563.1 bt567.2 true))))) else (none))) else (some false)) = some r := H
  have A3 := Aside0.mk A30
  clear A30
  by_cases c4 : t556 = true
  · subst c4
    have H1 : ((some (([] : List (S111)) : List (S111))).bind fun y557 => (if y557.length + l0.length < 8796093022208 then ((some (y557 ++ l0 : List (S111))).bind fun y560 => ((loca_PutMetrics.f y560 a1).bind fun bt563 => ((calamusref06_PutMetrics.f k l0 a1).bind fun bt567 => (if bt563.2 = bt567.2 then ((calamusref02_Same.f bt563.1 bt567.1).bind fun t571 => (if t571 = true then ((calamusref06_Same.f k y560 l0).bind fun t572 => (calamuslaw06_LocaPuts.j0 k l0 a1 bt563.1 bt567.2 (!t572))) else (calamuslaw06_LocaPuts.j0 k l0 a1 bt563.1 bt567.2 true))) else (calamuslaw06_LocaPuts.j0 k l0 a1 bt563.1 bt567.2 true))))) else (none))) = some r := by rw [if_pos rfl] at H; exact H
    clear H
    have H := H1
    clear H1
    obtain ⟨y557, hy557⟩ : ∃ y_ : List (S111), y_ = (([] : List (S111))) := ⟨_, rfl⟩
    replace H : (if y557.length + l0.length < 8796093022208 then ((some (y557 ++ l0 : List (S111))).bind fun y560 => ((loca_PutMetrics.f y560 a1).bind fun bt563 => ((calamusref06_PutMetrics.f k l0 a1).bind fun bt567 => (if bt563.2 = bt567.2 then ((calamusref02_Same.f bt563.1 bt567.1).bind fun t571 => (if t571 = true then ((calamusref06_Same.f k y560 l0).bind fun t572 => (calamuslaw06_LocaPuts.j0 k l0 a1 bt563.1 bt567.2 (!t572))) else (calamuslaw06_LocaPuts.j0 k l0 a1 bt563.1 bt567.2 true))) else (calamuslaw06_LocaPuts.j0 k l0 a1 bt563.1 bt567.2 true))))) else (none)) = some r := by first | (rw [hy557]; with_reducible exact H) | (have H2_ := (Option.bind_some _ _).symm.trans H; rw [hy557]; with_reducible exact H2_) | (have H2_ := (Option.bind_some _ _).symm.trans H; with_reducible exact H2_) | with_reducible exact H | (rw [hy557]; exact H) | exact H
    have Ny557 := Aside0.mk hy557
    clear hy557
    by_cases c5 : y557.length + l0.length < 8796093022208
    · rw [if_pos c5] at H
      have LMc5 := Aside0.mk c5
      clear c5
      obtain ⟨y560, hy560⟩ : ∃ y_ : List (S111), y_ = (y557 ++ l0) := ⟨_, rfl⟩
      replace H : ((loca_PutMetrics.f y560 a1).bind fun bt563 => ((calamusref06_PutMetrics.f k l0 a1).bind fun bt567 => (if bt563.2 = bt567.2 then ((calamusref02_Same.f bt563.1 bt567.1).bind fun t571 => (if t571 = true then ((calamusref06_Same.f k y560 l0).bind fun t572 => (calamuslaw06_LocaPuts.j0 k l0 a1 bt563.1 bt567.2 (!t572))) else (calamuslaw06_LocaPuts.j0 k l0 a1 bt563.1 bt567.2 true))) else (calamuslaw06_LocaPuts.j0 k l0 a1 bt563.1 bt567.2 true)))) = some r := by first | (rw [hy560]; with_reducible exact H) | (have H2_ := (Option.bind_some _ _).symm.trans H; rw [hy560]; with_reducible exact H2_) | (have H2_ := (Option.bind_some _ _).symm.trans H; with_reducible exact H2_) | with_reducible exact H | (rw [hy560]; exact H) | exact H
      have Ny560 := Aside0.mk hy560
      clear hy560
      replace H := Option.bind_eq_some_iff.mp H
      obtain ⟨⟨t563, t564⟩, A60, H⟩ := H
      replace H : ((calamusref06_PutMetrics.f k l0 a1).bind fun bt567 => (if t564 = bt567.2 then ((calamusref02_Same.f t563 bt567.1).bind fun t571 => (if t571 = true then ((calamusref06_Same.f k y560 l0).bind fun t572 => (calamuslaw06_LocaPuts.j0 k l0 a1 t563 bt567.2 (!t572))) else (calamuslaw06_LocaPuts.j0 k l0 a1 t563 bt567.2 true))) else (calamuslaw06_LocaPuts.j0 k l0 a1 t563 bt567.2 true))) = some r := H
      have A6 := Aside0.mk A60
      clear A60
      replace H := Option.bind_eq_some_iff.mp H
      obtain ⟨⟨t567, t568⟩, A70, H⟩ := H
      replace H : (if t564 = t568 then ((calamusref02_Same.f t563 t567).bind fun t571 => (if t571 = true then ((calamusref06_Same.f k y560 l0).bind fun t572 => (calamuslaw06_LocaPuts.j0 k l0 a1 t563 t568 (!t572))) else (calamuslaw06_LocaPuts.j0 k l0 a1 t563 t568 true))) else (calamuslaw06_LocaPuts.j0 k l0 a1 t563 t568 true)) = some r := H
      have A7 := Aside0.mk A70
      clear A70
      have HC8 := Aside0.mk H
      clear H
      go_enter Try.func19, Try.ntmps19
      go_upto_region 6 with (first | ((with_reducible refine gate_callee (f := 50) rfl ?_); refine goesL_ (some 12) rfl rfl Try.func50 (by kernel_rfl) rfl #[] rfl (by (try simp only [List.map_toArray, List.map_cons, List.map_nil]); first | done | rfl | (simp only [List.length_drop, List.length_take]; rfl)) ?_; (with_reducible refine (calamuslaw06_alive.calls k  true _ A3.out).mono ?_); rintro e w9 ⟨rfl, hb⟩; refine ⟨_, rfl, ?_⟩; have n0_ := Aside0.mk (below_step (by repeat (first | (with_reducible first | exact HB.out | apply below_alloc | apply pw_below_drewN | apply below_drew1) | exact HB.out)) hb); clear HB; have HB := n0_; clear n0_; (try clear hb); (try clear hb2); (try clear hk); (try clear hi)) | ((with_reducible refine gate_dst (N := 14) rfl ?_); refine Kd.R_lit k111 _ 111 ?hg (N := 14) ?hd (xs := ([] : List (S111))) (inner := []) (ok := fun _ => True) (okp := fun _ => True) ?hr ?hp (fun _ hk => hk) trivial (Below.refl _ _) (Nat.le_refl _) (by simp) ?_; (case hd => rfl); (case hg => rfl); (case hr => first | (go_simp; done) | (go_simp; rfl)); (case hp => exact (Reps.none _ _)); intro v558 w10 ho11 hb hg_ hnew_; clear hg_ hnew_; (first | rw [← Ny557.out] at ho11 | (simp only [Int.reduceToNat] at ho11; rw [← Ny557.out] at ho11)); have n0_ := Aside0.mk (Kd.R_lower ho11 (below_size (by repeat (first | (with_reducible first | exact HB.out | apply below_alloc | apply pw_below_drewN | apply below_drew1) | exact HB.out)))); have n1_ := Aside0.mk (below_step (by repeat (first | (with_reducible first | exact HB.out | apply below_alloc | apply pw_below_drewN | apply below_drew1) | exact HB.out)) hb); clear HB; have HO559 := n0_; have HB := n1_; clear n0_ n1_; clear hb ho11) | ((with_reducible refine gate_builtin (b := .append) (xs := #[.tmp 14, .tmp 15]) rfl ?_); at_builtin; refine Kd.R_append_rows k111 (w0 := w) w.heap.size rfl (.tmp 14) (.tmp 15) 73 111 (.agg #[(.int .i64 0), (.int .i64 0)]) 16 rfl Try.underlying73 info111 rfl (by decide) (by omega) v558 y557 l0 _ _ _ (fun _ => True) (fun _ => False) rfl rfl ?aO ?aR (fun _ _ h => h) (fun _ h => h.elim) ?aF ?aB ?aS ?aL ?_; (case aR => repeat (first | exact (Kd.C_below HR0.out HB.out) | (with_reducible refine Kd.C_alloc ?_ _) | (with_reducible refine Kd.C_drewN ?_ _) | (with_reducible refine Kd.C_drew ?_))); (case aB => exact (by repeat (first | (with_reducible first | exact HB.out | apply below_alloc | apply pw_below_drewN | apply below_drew1) | exact HB.out))); (case aF => exact (fun _ _ => trivial)); (case aO => exact (by (with_reducible repeat (first | apply Kd.R_alloc | apply Kd.R_drewN | apply Kd.R_drew)); exact HO559.out)); (case aS => exact (below_size (by repeat (first | (with_reducible first | exact HB.out | apply below_alloc | apply pw_below_drewN | apply below_drew1) | exact HB.out)))); (case aL => have := LMc5.out; omega); intro v561 w12 ho hb hg hat; rw [← Ny560.out] at ho; have n0_ := Aside0.mk (hb); have n1_ := Aside0.mk (ho); clear HB; clear HO559; have HB := n0_; have HO562 := n1_; clear n0_ n1_; clear ho hb hg hat; obtain ⟨Ao13, co13, eo13⟩ := Kd.R_slice HO562.out; subst eo13) | ((with_reducible refine gate_callee (f := 61) rfl ?_); refine goesL_ (some 20) rfl rfl Try.func61 (by kernel_rfl) rfl #[.slice Ao13 y560.length co13, .int .i64 a1] rfl (by (try simp only [List.map_toArray, List.map_cons, List.map_nil]); first | done | rfl | (simp only [List.length_drop, List.length_take]; rfl)) ?_; (with_reducible refine (loca_PutMetrics.calls _ _ y560 a1 t563 t564 _ ?side1 ?side2 A6.out).mono ?_); (case side1 => repeat (first | exact (Kd.R_reads' HO562.out).2.2 | (with_reducible refine Kd.C_alloc ?_ _) | (with_reducible refine Kd.C_drewN ?_ _) | (with_reducible refine Kd.C_drew ?_))); (case side2 => exact (Kd.R_reads' HO562.out).2.1); rintro e w14 ⟨v565, rfl, ho0, hb⟩; refine ⟨_, rfl, ?_⟩; have n0_ := Aside0.mk (Kd.R_below (by (with_reducible repeat (first | apply Kd.R_alloc | apply Kd.R_drewN | apply Kd.R_drew)); exact HO562.out) hb); have n1_ := Aside0.mk (Kd.R_lower ho0 (below_size (by repeat (first | (with_reducible first | exact HB.out | apply below_alloc | apply pw_below_drewN | apply below_drew1) | exact HB.out)))); have n2_ := Aside0.mk (below_step (by repeat (first | (with_reducible first | exact HB.out | apply below_alloc | apply pw_below_drewN | apply below_drew1) | exact HB.out)) hb); clear HO562; clear HB; have HO562 := n0_; have HO566 := n1_; have HB := n2_; clear n0_ n1_ n2_; (try clear hb); (try clear hb2); (try clear hk); (try clear hi); (try clear ho0)) | ((with_reducible refine gate_callee (f := 62) rfl ?_); refine goesL_ (some 26) rfl rfl Try.func62 (by kernel_rfl) rfl #[.slice A0 l0.length c0, .int .i64 a1] rfl (by (try simp only [List.map_toArray, List.map_cons, List.map_nil]); first | done | rfl | (simp only [List.length_drop, List.length_take]; rfl)) ?_; (with_reducible refine (calamusref06_PutMetrics.calls k _ _ l0 a1 t567 t568 _ ?side1 ?side2 A7.out).mono ?_); (case side1 => repeat (first | exact (Kd.C_below HR0.out HB.out) | (with_reducible refine Kd.C_alloc ?_ _) | (with_reducible refine Kd.C_drewN ?_ _) | (with_reducible refine Kd.C_drew ?_))); (case side2 => exact HC0.out); rintro e w15 ⟨v569, rfl, ho0, hb⟩; refine ⟨_, rfl, ?_⟩; have n0_ := Aside0.mk (Kd.R_below (by (with_reducible repeat (first | apply Kd.R_alloc | apply Kd.R_drewN | apply Kd.R_drew)); exact HO562.out) hb); have n1_ := Aside0.mk (Kd.R_elder' (by (with_reducible repeat (first | apply Kd.R_alloc | apply Kd.R_drewN | apply Kd.R_drew)); exact HO566.out) (Kd.R_base ho0) hb); have n2_ := Aside0.mk (Kd.R_lower (Kd.R_new' ho0 (Kd.R_lt (by (with_reducible repeat (first | apply Kd.R_alloc | apply Kd.R_drewN | apply Kd.R_drew)); exact HO566.out))) (below_size (by repeat (first | (with_reducible first | exact HB.out | apply below_alloc | apply pw_below_drewN | apply below_drew1) | exact HB.out)))); have n3_ := Aside0.mk (below_step (by repeat (first | (with_reducible first | exact HB.out | apply below_alloc | apply pw_below_drewN | apply below_drew1) | exact HB.out)) hb); clear HO562; clear HO566; clear HB; have HO562 := n0_; have HO566 := n1_; have HO570 := n2_; have HB := n3_; clear n0_ n1_ n2_ n3_; (try clear hb); (try clear hb2); (try clear hk); (try clear hi); (try clear ho0)))
      (try simp only [Act.put, List.setIfInBounds_toArray, List.set_cons_zero, List.set_cons_succ])
      go_cut [43] (fun v43 wc => ∃ (kq : Nat) (x43_7 : Bool), v43 = .bool x43_7 ∧ Aside0 (calamuslaw06_LocaPuts.j0 kq l0 a1 t563 t568 x43_7 = some r) ∧ Aside0 (kq ≤ k) ∧ Aside0 (Kd.R (Kd.int .u8) 5 wc w.heap.size (fun _ => True) v565 t563) ∧ Aside0 (Below w.heap.size w wc))
      case first =>
        have H := HC8.out
        clear HC8
        by_cases c16 : t564 = t568
        · rw [if_pos c16] at H
          have c16b0 : (t564 == t568) = true := beq_iff_eq.mpr c16
          have c16b1 : (t564 != t568) = false := bne_eq_false_iff_eq.mpr c16
          clear c16
          (first | rw [c16b0] | (simp only [i64_w, i32_w]; rw [c16b0]) | skip)
          replace H := Option.bind_eq_some_iff.mp H
          obtain ⟨t571, A170, H⟩ := H
          replace H : (if t571 = true then ((calamusref06_Same.f k y560 l0).bind fun t572 => (calamuslaw06_LocaPuts.j0 k l0 a1 t563 t568 (!t572))) else (calamuslaw06_LocaPuts.j0 k l0 a1 t563 t568 true)) = some r := H
          have A17 := Aside0.mk A170
          clear A170
          by_cases c18 : t571 = true
          · subst c18
            have H1 : ((calamusref06_Same.f k y560 l0).bind fun t572 => (calamuslaw06_LocaPuts.j0 k l0 a1 t563 t568 (!t572))) = some r := by rw [if_pos rfl] at H; exact H
            clear H
            have H := H1
            clear H1
            replace H := Option.bind_eq_some_iff.mp H
            obtain ⟨t572, A190, H⟩ := H
            replace H : (calamuslaw06_LocaPuts.j0 k l0 a1 t563 t568 (!t572)) = some r := H
            have A19 := Aside0.mk A190
            clear A190
            have H' := Aside0.mk H
            clear H
            obtain ⟨Ao20, co20, eo20⟩ := Kd.R_slice HO566.out
            subst eo20
            obtain ⟨Ao21, co21, eo21⟩ := Kd.R_slice HO570.out
            subst eo21
            go_wp2_with (first | (go_at_call 33; (with_reducible refine (calamusref02_Same.calls _ _ t563 _ _ t567 true _ ?side1 ?side2 ?side3 ?side4 A17.out).mono ?_); (case side1 => repeat (first | exact (Kd.R_reads' HO566.out).2.2 | (with_reducible refine Kd.C_alloc ?_ _) | (with_reducible refine Kd.C_drewN ?_ _) | (with_reducible refine Kd.C_drew ?_))); (case side2 => exact (Kd.R_reads' HO566.out).2.1); (case side3 => repeat (first | exact (Kd.R_reads' HO570.out).2.2 | (with_reducible refine Kd.C_alloc ?_ _) | (with_reducible refine Kd.C_drewN ?_ _) | (with_reducible refine Kd.C_drew ?_))); (case side4 => exact (Kd.R_reads' HO570.out).2.1); rintro e w' ⟨rfl, ⟨nd, rfl⟩⟩) | (go_at_call 60; (with_reducible refine (calamusref06_Same.calls k _ _ y560 _ _ l0 t572 _ ?side1 ?side2 ?side3 ?side4 A19.out).mono ?_); (case side1 => repeat (first | exact (Kd.R_reads' HO562.out).2.2 | (with_reducible refine Kd.C_alloc ?_ _) | (with_reducible refine Kd.C_drewN ?_ _) | (with_reducible refine Kd.C_drew ?_))); (case side2 => exact (Kd.R_reads' HO562.out).2.1); (case side3 => repeat (first | exact (Kd.C_below HR0.out (by repeat (first | (with_reducible first | exact HB.out | apply below_alloc | apply pw_below_drewN | apply below_drew1) | exact HB.out))) | (with_reducible refine Kd.C_alloc ?_ _) | (with_reducible refine Kd.C_drewN ?_ _) | (with_reducible refine Kd.C_drew ?_))); (case side4 => exact HC0.out); rintro e w' ⟨rfl, ⟨nd, rfl⟩⟩))
            go_meet
            case rel => exact ⟨_, (!t572), (by first | rfl | (simp; done) | (simp [*]; done)), H', ⟨by first | omega | exact Nat.le_refl _⟩, ⟨by (with_reducible repeat (first | apply Kd.R_alloc | apply Kd.R_drewN | apply Kd.R_drew)); exact Kd.R_mono HO566.out (fun _ hk => trivial)⟩, ⟨by repeat (first | (with_reducible first | exact HB.out | apply below_alloc | apply pw_below_drewN | apply below_drew1) | exact HB.out)⟩⟩
          · replace c18 := Bool.eq_false_iff.mpr c18
            subst c18
            have H1 : (calamuslaw06_LocaPuts.j0 k l0 a1 t563 t568 true) = some r := by rw [if_neg (show ¬ (false = true) by decide)] at H; exact H
            clear H
            have H := H1
            clear H1
            have H' := Aside0.mk H
            clear H
            obtain ⟨Ao22, co22, eo22⟩ := Kd.R_slice HO566.out
            subst eo22
            obtain ⟨Ao23, co23, eo23⟩ := Kd.R_slice HO570.out
            subst eo23
            go_wp2_with (first | (go_at_call 33; (with_reducible refine (calamusref02_Same.calls _ _ t563 _ _ t567 false _ ?side1 ?side2 ?side3 ?side4 A17.out).mono ?_); (case side1 => repeat (first | exact (Kd.R_reads' HO566.out).2.2 | (with_reducible refine Kd.C_alloc ?_ _) | (with_reducible refine Kd.C_drewN ?_ _) | (with_reducible refine Kd.C_drew ?_))); (case side2 => exact (Kd.R_reads' HO566.out).2.1); (case side3 => repeat (first | exact (Kd.R_reads' HO570.out).2.2 | (with_reducible refine Kd.C_alloc ?_ _) | (with_reducible refine Kd.C_drewN ?_ _) | (with_reducible refine Kd.C_drew ?_))); (case side4 => exact (Kd.R_reads' HO570.out).2.1); rintro e w' ⟨rfl, ⟨nd, rfl⟩⟩))
            go_meet
            case rel => exact ⟨_, (true), (by first | rfl | (simp; done) | (simp [*]; done)), H', ⟨by first | omega | exact Nat.le_refl _⟩, ⟨by (with_reducible repeat (first | apply Kd.R_alloc | apply Kd.R_drewN | apply Kd.R_drew)); exact Kd.R_mono HO566.out (fun _ hk => trivial)⟩, ⟨by repeat (first | (with_reducible first | exact HB.out | apply below_alloc | apply pw_below_drewN | apply below_drew1) | exact HB.out)⟩⟩
        · rw [if_neg c16] at H
          have c16b0 : (t564 == t568) = false := beq_eq_false_iff_ne.mpr c16
          have c16b1 : (t564 != t568) = true := bne_iff_ne.mpr c16
          (first | rw [c16b0] | (simp only [i64_w, i32_w]; rw [c16b0]) | skip)
          have H' := Aside0.mk H
          clear H
          go_wp2
          go_meet
          case rel => exact ⟨_, (true), (by first | rfl | (simp; done) | (simp [*]; done)), H', ⟨by first | omega | exact Nat.le_refl _⟩, ⟨by (with_reducible repeat (first | apply Kd.R_alloc | apply Kd.R_drewN | apply Kd.R_drew)); exact Kd.R_mono HO566.out (fun _ hk => trivial)⟩, ⟨by repeat (first | (with_reducible first | exact HB.out | apply below_alloc | apply pw_below_drewN | apply below_drew1) | exact HB.out)⟩⟩
      case rest =>
        clear HC8
        try clear c1
        try clear p2
        try clear c4
        try clear c5
        try clear c6
        try clear c16
        try clear c16b0
        try clear c16b1
        try clear c18
        try clear c19
        obtain ⟨kq, x43_7, rfl, HA, HJ7, HO_6, HB⟩ := hcut
        cases kq with
        | zero => exact absurd HA.out (by simp [calamuslaw06_LocaPuts.j0])
        | succ kj7 =>
          have H := HA.out
          clear HA
          simp only [calamuslaw06_LocaPuts.j0] at H
          by_cases c24 : x43_7 = true
          · subst c24
            have H1 : (some false) = some r := by rw [if_pos rfl] at H; exact H
            clear H
            have H := H1
            clear H1
            obtain rfl := Option.some.inj H
            go_wp2
            go_ret
            exact ⟨by first | rfl | (simp [errW_none, errW_some] <;> rfl) | (simp [*, errW_none, errW_some] <;> rfl), by repeat (first | (with_reducible first | exact HB.out | apply below_alloc | apply pw_below_drewN | apply below_drew1) | exact HB.out)⟩
          · replace c24 := Bool.eq_false_iff.mpr c24
            subst c24
            have H1 : (if t568 = 0 then ((loca_Metrics.f kj7 t563 a1 (l0.length : Int)).bind fun bt573 => (if bt573.2 = 0 then ((calamusref06_Same.f kj7 bt573.1 l0).bind fun t577 => (some t577)) else (some false))) else (some true)) = some r := by rw [if_neg (show ¬ (false = true) by decide)] at H; exact H
            clear H
            have H := H1
            clear H1
            by_cases c25 : t568 = 0
            · rw [if_pos c25] at H
              have c25b0 : (t568 == 0) = true := beq_iff_eq.mpr c25
              have c25b1 : (t568 != 0) = false := bne_eq_false_iff_eq.mpr c25
              clear c25
              replace H := Option.bind_eq_some_iff.mp H
              obtain ⟨⟨t573, t574⟩, A260, H⟩ := H
              replace H : (if t574 = 0 then ((calamusref06_Same.f kj7 t573 l0).bind fun t577 => (some t577)) else (some false)) = some r := H
              have A26 := Aside0.mk A260
              clear A260
              by_cases c27 : t574 = 0
              · rw [if_pos c27] at H
                have c27b0 : (t574 == 0) = true := beq_iff_eq.mpr c27
                have c27b1 : (t574 != 0) = false := bne_eq_false_iff_eq.mpr c27
                clear c27
                replace H := Option.bind_eq_some_iff.mp H
                obtain ⟨t577, A280, H⟩ := H
                replace H : (some t577) = some r := H
                have A28 := Aside0.mk A280
                clear A280
                obtain rfl := Option.some.inj H
                obtain ⟨Ao29, co29, eo29⟩ := Kd.R_slice HO_6.out
                subst eo29
                go_wp2_with (first | ((with_reducible refine gate_callee (f := 58) rfl ?_); refine goesL_ (some 51) rfl rfl Try.func58 (by kernel_rfl) rfl #[.slice Ao29 t563.length co29, .int .i64 a1, .int .i64 (l0.length : Int)] rfl (by (try simp only [List.map_toArray, List.map_cons, List.map_nil]); first | done | rfl | (simp only [List.length_drop, List.length_take]; rfl)) ?_; (with_reducible refine (loca_Metrics.calls kj7 _ _ t563 a1 (l0.length : Int) t573 t574 _ ?side1 ?side2 A26.out).mono ?_); (case side1 => repeat (first | exact (Kd.R_reads' HO_6.out).2.2 | (with_reducible refine Kd.C_alloc ?_ _) | (with_reducible refine Kd.C_drewN ?_ _) | (with_reducible refine Kd.C_drew ?_))); (case side2 => exact (Kd.R_reads' HO_6.out).2.1); rintro e w30 ⟨v575, rfl, ho0, hb⟩; refine ⟨_, rfl, ?_⟩; have n0_ := Aside0.mk (Kd.R_below (by (with_reducible repeat (first | apply Kd.R_alloc | apply Kd.R_drewN | apply Kd.R_drew)); exact HO_6.out) hb); have n1_ := Aside0.mk (Kd.R_lower ho0 (below_size (by repeat (first | (with_reducible first | exact HB.out | apply below_alloc | apply pw_below_drewN | apply below_drew1) | exact HB.out)))); have n2_ := Aside0.mk (below_step (by repeat (first | (with_reducible first | exact HB.out | apply below_alloc | apply pw_below_drewN | apply below_drew1) | exact HB.out)) hb); clear HO_6; clear HB; have HO_6 := n0_; have HO576 := n1_; have HB := n2_; clear n0_ n1_ n2_; (try clear hb); (try clear hb2); (try clear hk); (try clear hi); (try clear ho0); obtain ⟨Ao31, co31, eo31⟩ := Kd.R_slice HO576.out; subst eo31) | (go_at_call 60; (with_reducible refine (calamusref06_Same.calls kj7 _ _ t573 _ _ l0 t577 _ ?side1 ?side2 ?side3 ?side4 A28.out).mono ?_); (case side1 => repeat (first | exact (Kd.R_reads' HO576.out).2.2 | (with_reducible refine Kd.C_alloc ?_ _) | (with_reducible refine Kd.C_drewN ?_ _) | (with_reducible refine Kd.C_drew ?_))); (case side2 => exact (Kd.R_reads' HO576.out).2.1); (case side3 => repeat (first | exact (Kd.C_below HR0.out HB.out) | (with_reducible refine Kd.C_alloc ?_ _) | (with_reducible refine Kd.C_drewN ?_ _) | (with_reducible refine Kd.C_drew ?_))); (case side4 => exact HC0.out); rintro e w' ⟨rfl, ⟨nd, rfl⟩⟩))
                go_ret
                exact ⟨by first | rfl | (simp [errW_none, errW_some] <;> rfl) | (simp [*, errW_none, errW_some] <;> rfl), by repeat (first | (with_reducible first | exact HB.out | apply below_alloc | apply pw_below_drewN | apply below_drew1) | exact HB.out)⟩
              · rw [if_neg c27] at H
                have c27b0 : (t574 == 0) = false := beq_eq_false_iff_ne.mpr c27
                have c27b1 : (t574 != 0) = true := bne_iff_ne.mpr c27
                obtain rfl := Option.some.inj H
                obtain ⟨Ao32, co32, eo32⟩ := Kd.R_slice HO_6.out
                subst eo32
                go_wp2_with (first | ((with_reducible refine gate_callee (f := 58) rfl ?_); refine goesL_ (some 51) rfl rfl Try.func58 (by kernel_rfl) rfl #[.slice Ao32 t563.length co32, .int .i64 a1, .int .i64 (l0.length : Int)] rfl (by (try simp only [List.map_toArray, List.map_cons, List.map_nil]); first | done | rfl | (simp only [List.length_drop, List.length_take]; rfl)) ?_; (with_reducible refine (loca_Metrics.calls kj7 _ _ t563 a1 (l0.length : Int) t573 t574 _ ?side1 ?side2 A26.out).mono ?_); (case side1 => repeat (first | exact (Kd.R_reads' HO_6.out).2.2 | (with_reducible refine Kd.C_alloc ?_ _) | (with_reducible refine Kd.C_drewN ?_ _) | (with_reducible refine Kd.C_drew ?_))); (case side2 => exact (Kd.R_reads' HO_6.out).2.1); rintro e w33 ⟨v575, rfl, ho0, hb⟩; refine ⟨_, rfl, ?_⟩; have n0_ := Aside0.mk (Kd.R_below (by (with_reducible repeat (first | apply Kd.R_alloc | apply Kd.R_drewN | apply Kd.R_drew)); exact HO_6.out) hb); have n1_ := Aside0.mk (Kd.R_lower ho0 (below_size (by repeat (first | (with_reducible first | exact HB.out | apply below_alloc | apply pw_below_drewN | apply below_drew1) | exact HB.out)))); have n2_ := Aside0.mk (below_step (by repeat (first | (with_reducible first | exact HB.out | apply below_alloc | apply pw_below_drewN | apply below_drew1) | exact HB.out)) hb); clear HO_6; clear HB; have HO_6 := n0_; have HO576 := n1_; have HB := n2_; clear n0_ n1_ n2_; (try clear hb); (try clear hb2); (try clear hk); (try clear hi); (try clear ho0)))
                go_ret
                exact ⟨by first | rfl | (simp [errW_none, errW_some] <;> rfl) | (simp [*, errW_none, errW_some] <;> rfl), by repeat (first | (with_reducible first | exact HB.out | apply below_alloc | apply pw_below_drewN | apply below_drew1) | exact HB.out)⟩
            · rw [if_neg c25] at H
              have c25b0 : (t568 == 0) = false := beq_eq_false_iff_ne.mpr c25
              have c25b1 : (t568 != 0) = true := bne_iff_ne.mpr c25
              obtain rfl := Option.some.inj H
              go_wp2
              go_ret
              exact ⟨by first | rfl | (simp [errW_none, errW_some] <;> rfl) | (simp [*, errW_none, errW_some] <;> rfl), by repeat (first | (with_reducible first | exact HB.out | apply below_alloc | apply pw_below_drewN | apply below_drew1) | exact HB.out)⟩
    · rw [if_neg c5] at H
      exact absurd H (by simp)
  · replace c4 := Bool.eq_false_iff.mpr c4
    subst c4
    have H1 : (some false) = some r := by rw [if_neg (show ¬ (false = true) by decide)] at H; exact H
    clear H
    have H := H1
    clear H1
    obtain rfl := Option.some.inj H
    go_enter Try.func19, Try.ntmps19
    go_wp2_with (first | ((with_reducible refine gate_callee (f := 50) rfl ?_); refine goesL_ (some 12) rfl rfl Try.func50 (by kernel_rfl) rfl #[] rfl (by (try simp only [List.map_toArray, List.map_cons, List.map_nil]); first | done | rfl | (simp only [List.length_drop, List.length_take]; rfl)) ?_; (with_reducible refine (calamuslaw06_alive.calls k  false _ A3.out).mono ?_); rintro e w34 ⟨rfl, hb⟩; refine ⟨_, rfl, ?_⟩; have n0_ := Aside0.mk (below_step (by repeat (first | (with_reducible first | exact HB.out | apply below_alloc | apply pw_below_drewN | apply below_drew1) | exact HB.out)) hb); clear HB; have HB := n0_; clear n0_; (try clear hb); (try clear hb2); (try clear hk); (try clear hi)))
    go_ret
    exact ⟨by first | rfl | (simp [errW_none, errW_some] <;> rfl) | (simp [*, errW_none, errW_some] <;> rfl), by repeat (first | (with_reducible first | exact HB.out | apply below_alloc | apply pw_below_drewN | apply below_drew1) | exact HB.out)⟩

end Go.Proofs.Ytcclmaicdmogjaa.P

-- Written by wip/pr.py over the kit's print
namespace Go.Proofs.Ytcclmaicdmogjaa.P
open Go.RowKit Go.Proofs.YtcclmaicdmogjaaW.PrintWords Go.Proofs.YtcclmaicdmogjaaW.PrintLast Go.Proofs.YtcclmaicdmogjaaW.PrintMore
attribute [local go_sem] max2_int min2_int max_two min_two max_three min_three max_four min_four   -- for this text's walks alone
set_option linter.unusedVariables false
set_option linter.unusedSimpArgs false

/-! ### calamusref02_There: function 78 -/
def calamusref02_There.f (l0 : List Int) (a1 : Int) (a2 : Int) : Option (Bool) := if a1 ≥ 0 then (if a2 ≥ 0 then (if a1 ≤ (l0.length : Int) then (some (decide (a2 ≤ (wrap64 ((l0.length : Int) - a1))))) else (some false)) else (some false)) else (some false)
set_option maxHeartbeats 8000000 in
set_option maxRecDepth 100000 in
theorem calamusref02_There.calls (A0 : Option Addr) (c0 : Nat) (l0 : List Int) (a1 : Int) (a2 : Int) (r : Bool) (w : World) (hr0 : Kd.C (Kd.int .u8) w A0 l0.length l0) (hc0 : l0.length ≤ c0) (h : calamusref02_There.f l0 a1 a2 = some r) :
    Calls Try.prog 78 #[.slice A0 l0.length c0, .int .i64 a1, .int .i64 a2] w fun e w' => e = .returned (.bool r) ∧ Drawn0 w w' := by
  have HR0 := Aside0.mk hr0
  have HC0 := Aside0.mk hc0
  clear hr0 hc0
  have H : (if a1 ≥ 0 then (if a2 ≥ 0 then (if a1 ≤ (l0.length : Int) then (some (decide (a2 ≤ (wrap64 ((l0.length : Int) - a1))))) else (some false)) else (some false)) else (some false)) = some r := h
  clear h
  by_cases c4 : a1 ≥ 0
  · rw [if_pos c4] at H
    have c4b0 : decide (0 ≤ a1) = true := decide_eq_true c4
    clear c4
    by_cases c5 : a2 ≥ 0
    · rw [if_pos c5] at H
      have c5b0 : decide (0 ≤ a2) = true := decide_eq_true c5
      clear c5
      by_cases c6 : a1 ≤ (l0.length : Int)
      · rw [if_pos c6] at H
        have c6b0 : decide (a1 ≤ (l0.length : Int)) = true := decide_eq_true c6
        clear c6
        obtain rfl := Option.some.inj H
        go_enter Try.func78, Try.ntmps78
        go_wp2
        go_ret
        exact ⟨by first | rfl | (simp; done) | (simp [*]; done), by repeat (first | exact Drawn0.refl _ | apply Drawn0.step)⟩
      · rw [if_neg c6] at H
        have c6b0 : decide (a1 ≤ (l0.length : Int)) = false := decide_eq_false c6
        clear c6
        obtain rfl := Option.some.inj H
        go_enter Try.func78, Try.ntmps78
        go_wp2
        go_ret
        exact ⟨by first | rfl | (simp; done) | (simp [*]; done), by repeat (first | exact Drawn0.refl _ | apply Drawn0.step)⟩
    · rw [if_neg c5] at H
      have c5b0 : decide (0 ≤ a2) = false := decide_eq_false c5
      clear c5
      obtain rfl := Option.some.inj H
      go_enter Try.func78, Try.ntmps78
      go_wp2
      go_ret
      exact ⟨by first | rfl | (simp; done) | (simp [*]; done), by repeat (first | exact Drawn0.refl _ | apply Drawn0.step)⟩
  · rw [if_neg c4] at H
    have c4b0 : decide (0 ≤ a1) = false := decide_eq_false c4
    clear c4
    obtain rfl := Option.some.inj H
    go_enter Try.func78, Try.ntmps78
    go_wp2
    go_ret
    exact ⟨by first | rfl | (simp; done) | (simp [*]; done), by repeat (first | exact Drawn0.refl _ | apply Drawn0.step)⟩

end Go.Proofs.Ytcclmaicdmogjaa.P

-- Written by wip/pr.py over the kit's print
namespace Go.Proofs.Ytcclmaicdmogjaa.P
open Go.RowKit Go.Proofs.YtcclmaicdmogjaaW.PrintWords Go.Proofs.YtcclmaicdmogjaaW.PrintLast Go.Proofs.YtcclmaicdmogjaaW.PrintMore
attribute [local go_sem] max2_int min2_int max_two min_two max_three min_three max_four min_four   -- for this text's walks alone
set_option linter.unusedVariables false
set_option linter.unusedSimpArgs false

/-! ### calamusref02_U: function 37 -/
mutual
def calamusref02_U.j0 : Nat → List Int → Int → Int → Bool → Option (Int × Int)
  | 0, _, _, _, _ => none
  | k + 1, x0, x1, x2, x15 => if x15 = true then (some (0, 2)) else ((calamusref02_There.f x0 x1 x2).bind fun t203 => (if t203 = true then (calamusref02_U.l0 k x0 x1 x2 0 x1) else (some (0, 3))))
def calamusref02_U.l0 : Nat → List Int → Int → Int → Int → Int → Option (Int × Int)
  | 0, _, _, _, _, _ => none
  | k + 1, x0, x1, x2, x8, x9 => if x9 < (wrap64 (x1 + x2)) then (if 0 ≤ x9 then (if x9 < (x0.length : Int) then (calamusref02_U.l0 k x0 x1 x2 (wrap64 ((wrap64 (256 * x8)) + (wrap64 (rd x0 x9)))) (wrap64 (x9 + 1))) else (none)) else (none)) else (some (x8, 0))
end
def calamusref02_U.f (k : Nat) (l0 : List Int) (a1 : Int) (a2 : Int) : Option (Int × Int) := if a2 < 1 then (calamusref02_U.j0 k l0 a1 a2 true) else (calamusref02_U.j0 k l0 a1 a2 (decide (a2 > 4)))
theorem calamusref02_U.mono_l : ∀ k, (∀ y0 y1 y2 y3, LeO (calamusref02_U.j0 k y0 y1 y2 y3) (calamusref02_U.j0 (k + 1) y0 y1 y2 y3)) ∧ (∀ y0 y1 y2 y3 y4, LeO (calamusref02_U.l0 k y0 y1 y2 y3 y4) (calamusref02_U.l0 (k + 1) y0 y1 y2 y3 y4))
  | 0 => ⟨fun _ _ _ _ r h => by simp [calamusref02_U.j0] at h, fun _ _ _ _ _ r h => by simp [calamusref02_U.l0] at h⟩
  | k + 1 => by
    obtain ⟨ih0, ih1⟩ := calamusref02_U.mono_l k
    refine ⟨?_, ?_⟩
    · intro y0 y1 y2 y3
      unfold calamusref02_U.j0
      repeat' first
      | (with_reducible exact ih0 _ _ _ _)
      | (with_reducible exact ih1 _ _ _ _ _)
      | (with_reducible exact LeO.refl _)
      | (with_reducible exact LeO.none _)
      | (with_reducible refine LeO.ite ?_ ?_)
      | (with_reducible refine LeO.bind ?_ (fun _ => ?_))
      | exact ih0 _ _ _ _
      | exact ih1 _ _ _ _ _
      | exact LeO.none _
      | refine LeO.ite ?_ ?_
      | refine LeO.bind ?_ (fun _ => ?_)
    · intro y0 y1 y2 y3 y4
      unfold calamusref02_U.l0
      repeat' first
      | (with_reducible exact ih0 _ _ _ _)
      | (with_reducible exact ih1 _ _ _ _ _)
      | (with_reducible exact LeO.refl _)
      | (with_reducible exact LeO.none _)
      | (with_reducible refine LeO.ite ?_ ?_)
      | (with_reducible refine LeO.bind ?_ (fun _ => ?_))
      | exact ih0 _ _ _ _
      | exact ih1 _ _ _ _ _
      | exact LeO.none _
      | refine LeO.ite ?_ ?_
      | refine LeO.bind ?_ (fun _ => ?_)
theorem calamusref02_U.mono : ∀ a0 a1 a2 k, LeO (calamusref02_U.f k a0 a1 a2) (calamusref02_U.f (k + 1) a0 a1 a2) := by
  intro a0 a1 a2 k
  obtain ⟨ih0, ih1⟩ := calamusref02_U.mono_l k
  unfold calamusref02_U.f
  repeat' first
      | (with_reducible exact ih0 _ _ _ _)
      | (with_reducible exact ih1 _ _ _ _ _)
      | (with_reducible exact LeO.refl _)
      | (with_reducible exact LeO.none _)
      | (with_reducible refine LeO.ite ?_ ?_)
      | (with_reducible refine LeO.bind ?_ (fun _ => ?_))
      | exact ih0 _ _ _ _
      | exact ih1 _ _ _ _ _
      | exact LeO.none _
      | refine LeO.ite ?_ ?_
      | refine LeO.bind ?_ (fun _ => ?_)
set_option maxHeartbeats 8000000 in
set_option maxRecDepth 100000 in
theorem calamusref02_U.calls (k : Nat) (A0 : Option Addr) (c0 : Nat) (l0 : List Int) (a1 : Int) (a2 : Int) (r1 : Int) (r2 : Int) (w : World) (hr0 : Kd.C (Kd.int .u8) w A0 l0.length l0) (hc0 : l0.length ≤ c0) (h : calamusref02_U.f k l0 a1 a2 = some (r1, r2)) :
    Calls Try.prog 37 #[.slice A0 l0.length c0, .int .i64 a1, .int .i64 a2] w fun e w' => e = .returned (.tuple #[.int .i64 r1, .int .i64 r2]) ∧ Drawn0 w w' := by
  have HR0 := Aside0.mk hr0
  have HC0 := Aside0.mk hc0
  clear hr0 hc0
  have H : (if a2 < 1 then (calamusref02_U.j0 k l0 a1 a2 true) else (calamusref02_U.j0 k l0 a1 a2 (decide (a2 > 4)))) = some (r1, r2) := h
  clear h
  have HC4 := Aside0.mk H
  clear H
  go_enter Try.func37, Try.ntmps37
  go_upto_region 1 with (fail)
  go_cut [15] (fun v15 wc => ∃ (kq : Nat) (x15_3 : Bool), v15 = .bool x15_3 ∧ Aside0 (calamusref02_U.j0 kq l0 a1 a2 x15_3 = some (r1, r2)) ∧ Aside0 (kq ≤ k) ∧ Drawn0 w wc)
  case first =>
    have H := HC4.out
    clear HC4
    by_cases c5 : a2 < 1
    · rw [if_pos c5] at H
      have c5b0 : decide (a2 < 1) = true := decide_eq_true c5
      clear c5
      (first | rw [c5b0] | (simp only [i64_w, i32_w]; rw [c5b0]) | skip)
      have H' := Aside0.mk H
      clear H
      go_wp2
      go_meet
      case rel => exact ⟨_, (true), (by first | rfl | (simp; done) | (simp [*]; done)), H', ⟨by first | omega | exact Nat.le_refl _⟩, by repeat (first | exact Drawn0.refl _ | apply Drawn0.step)⟩
    · rw [if_neg c5] at H
      have c5b0 : decide (a2 < 1) = false := decide_eq_false c5
      clear c5
      (first | rw [c5b0] | (simp only [i64_w, i32_w]; rw [c5b0]) | skip)
      have H' := Aside0.mk H
      clear H
      go_wp2
      go_meet
      case rel => exact ⟨_, (decide (a2 > 4)), (by first | rfl | (simp; done) | (simp [*]; done)), H', ⟨by first | omega | exact Nat.le_refl _⟩, by repeat (first | exact Drawn0.refl _ | apply Drawn0.step)⟩
  case rest =>
    clear HC4
    try clear p2
    try clear c3
    try clear c5
    try clear c5b0
    obtain ⟨kq, x15_3, rfl, HA, HJ3, ⟨mc3, rfl⟩⟩ := hcut
    cases kq with
    | zero => exact absurd HA.out (by simp [calamusref02_U.j0])
    | succ kj3 =>
      have H := HA.out
      clear HA
      simp only [calamusref02_U.j0] at H
      by_cases c6 : x15_3 = true
      · subst c6
        have H1 : (some (0, 2)) = some (r1, r2) := by rw [if_pos rfl] at H; exact H
        clear H
        have H := H1
        clear H1
        simp only [Option.some.injEq, Prod.mk.injEq] at H
        obtain ⟨rfl, rfl⟩ := H
        go_wp2
        go_ret2
        exact ⟨by first | rfl | (simp; done) | (simp [*]; done), by repeat (first | exact Drawn0.refl _ | apply Drawn0.step)⟩
      · replace c6 := Bool.eq_false_iff.mpr c6
        subst c6
        have H1 : ((calamusref02_There.f l0 a1 a2).bind fun t203 => (if t203 = true then (calamusref02_U.l0 kj3 l0 a1 a2 0 a1) else (some (0, 3)))) = some (r1, r2) := by rw [if_neg (show ¬ (false = true) by decide)] at H; exact H
        clear H
        have H := H1
        clear H1
        replace H := Option.bind_eq_some_iff.mp H
        obtain ⟨t203, A70, H⟩ := H
        replace H : (if t203 = true then (calamusref02_U.l0 kj3 l0 a1 a2 0 a1) else (some (0, 3))) = some (r1, r2) := H
        have A7 := Aside0.mk A70
        clear A70
        by_cases c8 : t203 = true
        · subst c8
          have H1 : (calamusref02_U.l0 kj3 l0 a1 a2 0 a1) = some (r1, r2) := by rw [if_pos rfl] at H; exact H
          clear H
          have H := H1
          clear H1
          have H' := Aside0.mk H
          clear H
          go_wp2_with (first | ((with_reducible refine gate_callee (f := 78) rfl ?_); refine goesL_ (some 19) rfl rfl Try.func78 (by kernel_rfl) rfl #[.slice A0 l0.length c0, .int .i64 a1, .int .i64 a2] rfl (by (try simp only [List.map_toArray, List.map_cons, List.map_nil]); first | done | rfl | (simp only [List.length_drop, List.length_take]; rfl)) ?_; (with_reducible refine (calamusref02_There.calls _ _ l0 a1 a2 true _ ?side1 ?side2 A7.out).mono ?_); (case side1 => repeat (first | exact HR0.out | (with_reducible refine Kd.C_alloc ?_ _) | (with_reducible refine Kd.C_drewN ?_ _) | (with_reducible refine Kd.C_drew ?_))); (case side2 => exact HC0.out); rintro e w' ⟨rfl, ⟨nd, rfl⟩⟩; refine ⟨_, rfl, ?_⟩))
          go_loopg [8, 9] kj3 (fun kq v8 v9 w' => ∃ (x8_2 : Int) (x9_2 : Int), v8 = .int .i64 x8_2 ∧ v9 = .int .i64 x9_2 ∧ Aside0 (calamusref02_U.l0 kq l0 a1 a2 x8_2 x9_2 = some (r1, r2)) ∧ Aside0 (kq ≤ kj3) ∧ Drawn0 w w')
          case atStart => exact ⟨(0), (a1), (by first | rfl | (simp; done) | (simp [*]; done)), (by first | rfl | (simp; done) | (simp [*]; done)), H', ⟨Nat.le_refl _⟩, by repeat (first | exact Drawn0.refl _ | apply Drawn0.step)⟩
          case round =>
            clear H'
            try clear p2
            try clear c3
            try clear c5
            try clear c5b0
            try clear c6
            try clear c7
            try clear c8
            try clear p2
            obtain ⟨x8_2, x9_2, rfl, rfl, HA, HK2, ⟨m2, rfl⟩⟩ := hrel
            cases gk with
            | zero => exact absurd HA.out (by simp [calamusref02_U.l0])
            | succ k2 =>
              have H := HA.out
              clear HA
              simp only [calamusref02_U.l0] at H
              by_cases c9 : x9_2 < (wrap64 (a1 + a2))
              · rw [if_pos c9] at H
                have c9b0 : decide (x9_2 < (wrap64 (a1 + a2))) = true := decide_eq_true c9
                clear c9
                by_cases c10 : 0 ≤ x9_2
                · rw [if_pos c10] at H
                  have c10b0 : decide (0 ≤ x9_2) = true := decide_eq_true c10
                  clear c10
                  by_cases c11 : x9_2 < (l0.length : Int)
                  · rw [if_pos c11] at H
                    have c11b0 : decide (x9_2 < (l0.length : Int)) = true := decide_eq_true c11
                    clear c11
                    have H' := Aside0.mk H
                    clear H
                    have p204 : 0 ≤ (x9_2 : Int) := of_decide_eq_true (by first | (with_reducible assumption) | assumption)
                    have q204 : x9_2 < (l0.length : Int) := of_decide_eq_true (by first | (with_reducible assumption) | assumption)
                    obtain ⟨ad204, e204, hx204_0⟩ := Kd.at_int HR0.out x9_2 p204 q204
                    cases e204
                    replace p204 := eq_true p204
                    replace q204 := eq_true q204
                    go_wp2
                    go_roundg k2
                    case measure => have := HJ3.out; have := HK2.out; omega
                    case rel => exact ⟨(wrap64 ((wrap64 (256 * x8_2)) + (wrap64 (rd l0 x9_2)))), (wrap64 (x9_2 + 1)), (by first | rfl | (simp; done) | (simp [*]; done)), (by first | rfl | (simp; done) | (simp [*]; done)), H', ⟨by have := HJ3.out; have := HK2.out; omega⟩, by repeat (first | exact Drawn0.refl _ | apply Drawn0.step)⟩
                  · rw [if_neg c11] at H
                    exact absurd H (by simp)
                · rw [if_neg c10] at H
                  exact absurd H (by simp)
              · rw [if_neg c9] at H
                have c9b0 : decide (x9_2 < (wrap64 (a1 + a2))) = false := decide_eq_false c9
                clear c9
                simp only [Option.some.injEq, Prod.mk.injEq] at H
                obtain ⟨rfl, rfl⟩ := H
                go_wp2
                go_ret2
                exact ⟨by first | rfl | (simp; done) | (simp [*]; done), by repeat (first | exact Drawn0.refl _ | apply Drawn0.step)⟩
        · replace c8 := Bool.eq_false_iff.mpr c8
          subst c8
          have H1 : (some (0, 3)) = some (r1, r2) := by rw [if_neg (show ¬ (false = true) by decide)] at H; exact H
          clear H
          have H := H1
          clear H1
          simp only [Option.some.injEq, Prod.mk.injEq] at H
          obtain ⟨rfl, rfl⟩ := H
          go_wp2_with (first | ((with_reducible refine gate_callee (f := 78) rfl ?_); refine goesL_ (some 19) rfl rfl Try.func78 (by kernel_rfl) rfl #[.slice A0 l0.length c0, .int .i64 a1, .int .i64 a2] rfl (by (try simp only [List.map_toArray, List.map_cons, List.map_nil]); first | done | rfl | (simp only [List.length_drop, List.length_take]; rfl)) ?_; (with_reducible refine (calamusref02_There.calls _ _ l0 a1 a2 false _ ?side1 ?side2 A7.out).mono ?_); (case side1 => repeat (first | exact HR0.out | (with_reducible refine Kd.C_alloc ?_ _) | (with_reducible refine Kd.C_drewN ?_ _) | (with_reducible refine Kd.C_drew ?_))); (case side2 => exact HC0.out); rintro e w' ⟨rfl, ⟨nd, rfl⟩⟩; refine ⟨_, rfl, ?_⟩))
          go_ret2
          exact ⟨by first | rfl | (simp; done) | (simp [*]; done), by repeat (first | exact Drawn0.refl _ | apply Drawn0.step)⟩

end Go.Proofs.Ytcclmaicdmogjaa.P

-- Written by wip/pr.py over the kit's print
namespace Go.Proofs.Ytcclmaicdmogjaa.P
open Go.RowKit Go.Proofs.YtcclmaicdmogjaaW.PrintWords Go.Proofs.YtcclmaicdmogjaaW.PrintLast Go.Proofs.YtcclmaicdmogjaaW.PrintMore
attribute [local go_sem] max2_int min2_int max_two min_two max_three min_three max_four min_four   -- for this text's walks alone
set_option linter.unusedVariables false
set_option linter.unusedSimpArgs false

/-! ### calamusref02_S: function 39 -/
def calamusref02_S.l0 : Nat → Int → Int → Int → Int → Option (Int × Int)
  | 0, _, _, _, _ => none
  | k + 1, x2, x8, x10, x11 => if x11 < x2 then (calamusref02_S.l0 k x2 x8 (wrap64 (x10 * 256)) (wrap64 (x11 + 1))) else (if (wrap64 (2 * x8)) ≥ x10 then (some (wrap64 (x8 - x10), 0)) else (some (x8, 0)))
def calamusref02_S.f (k : Nat) (l0 : List Int) (a1 : Int) (a2 : Int) : Option (Int × Int) := (calamusref02_U.f k l0 a1 a2).bind fun bt205 => (if bt205.2 = 0 then (calamusref02_S.l0 k a2 bt205.1 1 0) else (some (0, bt205.2)))
theorem calamusref02_S.mono_l : ∀ k, (∀ y0 y1 y2 y3, LeO (calamusref02_S.l0 k y0 y1 y2 y3) (calamusref02_S.l0 (k + 1) y0 y1 y2 y3))
  | 0 => fun _ _ _ _ r h => by simp [calamusref02_S.l0] at h
  | k + 1 => by
    have ih0 := calamusref02_S.mono_l k
    · intro y0 y1 y2 y3
      unfold calamusref02_S.l0
      repeat' first
      | (with_reducible exact ih0 _ _ _ _)
      | (with_reducible exact calamusref02_U.mono _ _ _ _)
      | (with_reducible exact LeO.refl _)
      | (with_reducible exact LeO.none _)
      | (with_reducible refine LeO.ite ?_ ?_)
      | (with_reducible refine LeO.bind ?_ (fun _ => ?_))
      | exact ih0 _ _ _ _
      | exact calamusref02_U.mono _ _ _ _
      | exact LeO.none _
      | refine LeO.ite ?_ ?_
      | refine LeO.bind ?_ (fun _ => ?_)
theorem calamusref02_S.mono : ∀ a0 a1 a2 k, LeO (calamusref02_S.f k a0 a1 a2) (calamusref02_S.f (k + 1) a0 a1 a2) := by
  intro a0 a1 a2 k
  have ih0 := calamusref02_S.mono_l k
  unfold calamusref02_S.f
  repeat' first
      | (with_reducible exact ih0 _ _ _ _)
      | (with_reducible exact calamusref02_U.mono _ _ _ _)
      | (with_reducible exact LeO.refl _)
      | (with_reducible exact LeO.none _)
      | (with_reducible refine LeO.ite ?_ ?_)
      | (with_reducible refine LeO.bind ?_ (fun _ => ?_))
      | exact ih0 _ _ _ _
      | exact calamusref02_U.mono _ _ _ _
      | exact LeO.none _
      | refine LeO.ite ?_ ?_
      | refine LeO.bind ?_ (fun _ => ?_)
set_option maxHeartbeats 8000000 in
set_option maxRecDepth 100000 in
theorem calamusref02_S.calls (k : Nat) (A0 : Option Addr) (c0 : Nat) (l0 : List Int) (a1 : Int) (a2 : Int) (r1 : Int) (r2 : Int) (w : World) (hr0 : Kd.C (Kd.int .u8) w A0 l0.length l0) (hc0 : l0.length ≤ c0) (h : calamusref02_S.f k l0 a1 a2 = some (r1, r2)) :
    Calls Try.prog 39 #[.slice A0 l0.length c0, .int .i64 a1, .int .i64 a2] w fun e w' => e = .returned (.tuple #[.int .i64 r1, .int .i64 r2]) ∧ Drawn0 w w' := by
  have HR0 := Aside0.mk hr0
  have HC0 := Aside0.mk hc0
  clear hr0 hc0
  have H : ((calamusref02_U.f k l0 a1 a2).bind fun bt205 => (if bt205.2 = 0 then (calamusref02_S.l0 k a2 bt205.1 1 0) else (some (0, bt205.2)))) = some (r1, r2) := h
  clear h
  replace H := Option.bind_eq_some_iff.mp H
  obtain ⟨⟨t205, t206⟩, A40, H⟩ := H
  replace H : (if t206 = 0 then (calamusref02_S.l0 k a2 t205 1 0) else (some (0, t206))) = some (r1, r2) := H
  have A4 := Aside0.mk A40
  clear A40
  by_cases c5 : t206 = 0
  · rw [if_pos c5] at H
    have c5b0 : (t206 == 0) = true := beq_iff_eq.mpr c5
    have c5b1 : (t206 != 0) = false := bne_eq_false_iff_eq.mpr c5
    clear c5
    have H' := Aside0.mk H
    clear H
    go_enter Try.func39, Try.ntmps39
    go_wp2_with (first | ((with_reducible refine gate_callee (f := 37) rfl ?_); refine goesL_ (some 16) rfl rfl Try.func37 (by kernel_rfl) rfl #[.slice A0 l0.length c0, .int .i64 a1, .int .i64 a2] rfl (by (try simp only [List.map_toArray, List.map_cons, List.map_nil]); first | done | rfl | (simp only [List.length_drop, List.length_take]; rfl)) ?_; (with_reducible refine (calamusref02_U.calls k _ _ l0 a1 a2 t205 t206 _ ?side1 ?side2 A4.out).mono ?_); (case side1 => repeat (first | exact HR0.out | (with_reducible refine Kd.C_alloc ?_ _) | (with_reducible refine Kd.C_drewN ?_ _) | (with_reducible refine Kd.C_drew ?_))); (case side2 => exact HC0.out); rintro e w' ⟨rfl, ⟨nd, rfl⟩⟩; refine ⟨_, rfl, ?_⟩))
    go_loopg [10, 11] k (fun kq v10 v11 w' => ∃ (x10_1 : Int) (x11_1 : Int), v10 = .int .i64 x10_1 ∧ v11 = .int .i64 x11_1 ∧ Aside0 (calamusref02_S.l0 kq a2 t205 x10_1 x11_1 = some (r1, r2)) ∧ Aside0 (kq ≤ k) ∧ Drawn0 w w')
    case atStart => exact ⟨(1), (0), (by first | rfl | (simp; done) | (simp [*]; done)), (by first | rfl | (simp; done) | (simp [*]; done)), H', ⟨Nat.le_refl _⟩, by repeat (first | exact Drawn0.refl _ | apply Drawn0.step)⟩
    case round =>
      clear H'
      try clear p2
      try clear c3
      try clear c5
      try clear c5b0
      try clear c5b1
      obtain ⟨x10_1, x11_1, rfl, rfl, HA, HK1, ⟨m1, rfl⟩⟩ := hrel
      cases gk with
      | zero => exact absurd HA.out (by simp [calamusref02_S.l0])
      | succ k1 =>
        have H := HA.out
        clear HA
        simp only [calamusref02_S.l0] at H
        by_cases c6 : x11_1 < a2
        · rw [if_pos c6] at H
          have c6b0 : decide (x11_1 < a2) = true := decide_eq_true c6
          clear c6
          have H' := Aside0.mk H
          clear H
          go_wp2
          go_roundg k1
          case measure => have := HK1.out; omega
          case rel => exact ⟨(wrap64 (x10_1 * 256)), (wrap64 (x11_1 + 1)), (by first | rfl | (simp; done) | (simp [*]; done)), (by first | rfl | (simp; done) | (simp [*]; done)), H', ⟨by have := HK1.out; omega⟩, by repeat (first | exact Drawn0.refl _ | apply Drawn0.step)⟩
        · rw [if_neg c6] at H
          have c6b0 : decide (x11_1 < a2) = false := decide_eq_false c6
          clear c6
          by_cases c7 : (wrap64 (2 * t205)) ≥ x10_1
          · rw [if_pos c7] at H
            have c7b0 : decide (x10_1 ≤ (wrap64 (2 * t205))) = true := decide_eq_true c7
            clear c7
            simp only [Option.some.injEq, Prod.mk.injEq] at H
            obtain ⟨rfl, rfl⟩ := H
            go_wp2
            go_ret2
            exact ⟨by first | rfl | (simp; done) | (simp [*]; done), by repeat (first | exact Drawn0.refl _ | apply Drawn0.step)⟩
          · rw [if_neg c7] at H
            have c7b0 : decide (x10_1 ≤ (wrap64 (2 * t205))) = false := decide_eq_false c7
            clear c7
            simp only [Option.some.injEq, Prod.mk.injEq] at H
            obtain ⟨rfl, rfl⟩ := H
            go_wp2
            go_ret2
            exact ⟨by first | rfl | (simp; done) | (simp [*]; done), by repeat (first | exact Drawn0.refl _ | apply Drawn0.step)⟩
  · rw [if_neg c5] at H
    have c5b0 : (t206 == 0) = false := beq_eq_false_iff_ne.mpr c5
    have c5b1 : (t206 != 0) = true := bne_iff_ne.mpr c5
    simp only [Option.some.injEq, Prod.mk.injEq] at H
    obtain ⟨rfl, rfl⟩ := H
    go_enter Try.func39, Try.ntmps39
    go_wp2_with (first | ((with_reducible refine gate_callee (f := 37) rfl ?_); refine goesL_ (some 16) rfl rfl Try.func37 (by kernel_rfl) rfl #[.slice A0 l0.length c0, .int .i64 a1, .int .i64 a2] rfl (by (try simp only [List.map_toArray, List.map_cons, List.map_nil]); first | done | rfl | (simp only [List.length_drop, List.length_take]; rfl)) ?_; (with_reducible refine (calamusref02_U.calls k _ _ l0 a1 a2 t205 t206 _ ?side1 ?side2 A4.out).mono ?_); (case side1 => repeat (first | exact HR0.out | (with_reducible refine Kd.C_alloc ?_ _) | (with_reducible refine Kd.C_drewN ?_ _) | (with_reducible refine Kd.C_drew ?_))); (case side2 => exact HC0.out); rintro e w' ⟨rfl, ⟨nd, rfl⟩⟩; refine ⟨_, rfl, ?_⟩))
    go_ret2
    exact ⟨by first | rfl | (simp; done) | (simp [*]; done), by repeat (first | exact Drawn0.refl _ | apply Drawn0.step)⟩

end Go.Proofs.Ytcclmaicdmogjaa.P

-- Written by wip/pr.py over the kit's print
namespace Go.Proofs.Ytcclmaicdmogjaa.P
open Go.RowKit Go.Proofs.YtcclmaicdmogjaaW.PrintWords Go.Proofs.YtcclmaicdmogjaaW.PrintLast Go.Proofs.YtcclmaicdmogjaaW.PrintMore
attribute [local go_sem] max2_int min2_int max_two min_two max_three min_three max_four min_four   -- for this text's walks alone
set_option linter.unusedVariables false
set_option linter.unusedSimpArgs false

/-! ### calamusref02_Copy: function 26 -/
def calamusref02_Copy.f (l0 : List Int) : Option (List Int) := (some (([] : List Int) : List Int)).bind fun y108 => (if y108.length + l0.length < 140737488355328 then (some (y108 ++ l0)) else (none))
set_option maxHeartbeats 8000000 in
set_option maxRecDepth 100000 in
theorem calamusref02_Copy.calls (A0 : Option Addr) (c0 : Nat) (l0 : List Int) (r : List Int) (w : World) (hr0 : Kd.C (Kd.int .u8) w A0 l0.length l0) (hc0 : l0.length ≤ c0) (h : calamusref02_Copy.f l0 = some r) :
    Calls Try.prog 26 #[.slice A0 l0.length c0] w fun e w' => ∃ v0_ : Value, e = .returned (v0_) ∧ Kd.R (Kd.int .u8) 5 w' w.heap.size (fun _ => True) v0_ r ∧ Below w.heap.size w w' := by
  have HR0 := Aside0.mk hr0
  have HC0 := Aside0.mk hc0
  clear hr0 hc0
  have HB := Aside0.mk (Below.refl w.heap.size w)
  have H : ((some (([] : List Int) : List Int)).bind fun y108 => (if y108.length + l0.length < 140737488355328 then (some (y108 ++ l0)) else (none))) = some r := h
  clear h
  obtain ⟨y108, hy108⟩ : ∃ y_ : List Int, y_ = (([] : List Int)) := ⟨_, rfl⟩
  replace H : (if y108.length + l0.length < 140737488355328 then (some (y108 ++ l0)) else (none)) = some r := by first | (rw [hy108]; with_reducible exact H) | (have H2_ := (Option.bind_some _ _).symm.trans H; rw [hy108]; with_reducible exact H2_) | (have H2_ := (Option.bind_some _ _).symm.trans H; with_reducible exact H2_) | with_reducible exact H | (rw [hy108]; exact H) | exact H
  have Ny108 := Aside0.mk hy108
  clear hy108
  by_cases c2 : y108.length + l0.length < 140737488355328
  · rw [if_pos c2] at H
    have LMc2 := Aside0.mk c2
    clear c2
    obtain ⟨y111, hy111⟩ : ∃ y_ : List Int, y_ = (y108 ++ l0) := ⟨_, rfl⟩
    replace H : (some y111) = some r := by first | (rw [hy111]; with_reducible exact H) | (have H2_ := (Option.bind_some _ _).symm.trans H; rw [hy111]; with_reducible exact H2_) | (have H2_ := (Option.bind_some _ _).symm.trans H; with_reducible exact H2_) | with_reducible exact H | (rw [hy111]; exact H) | exact H
    have Ny111 := Aside0.mk hy111
    clear hy111
    obtain rfl := Option.some.inj H
    go_enter Try.func26, Try.ntmps26
    go_wp2_with (first | ((with_reducible refine gate_dst (N := 3) rfl ?_); refine Kd.R_lit (Kd.int .u8) _ 5 ?hg (N := 3) ?hd (xs := ([] : List Int)) (inner := []) (ok := fun _ => True) (okp := fun _ => True) ?hr ?hp (fun _ hk => hk) trivial (Below.refl _ _) (Nat.le_refl _) (by simp) ?_; (case hd => rfl); (case hg => rfl); (case hr => first | (go_simp; done) | (go_simp; rfl)); (case hp => exact (Reps.none _ _)); intro v109 w3 ho4 hb hg_ hnew_; clear hg_ hnew_; (first | rw [← Ny108.out] at ho4 | (simp only [Int.reduceToNat] at ho4; rw [← Ny108.out] at ho4)); have n0_ := Aside0.mk (Kd.R_lower ho4 (below_size (by repeat (first | (with_reducible first | exact HB.out | apply below_alloc | apply pw_below_drewN | apply below_drew1) | exact HB.out)))); have n1_ := Aside0.mk (below_step (by repeat (first | (with_reducible first | exact HB.out | apply below_alloc | apply pw_below_drewN | apply below_drew1) | exact HB.out)) hb); clear HB; have HO110 := n0_; have HB := n1_; clear n0_ n1_; clear hb ho4) | ((with_reducible refine gate_builtin (b := .append) (xs := #[.tmp 3, .tmp 4]) rfl ?_); at_builtin; refine Kd.R_append_rows (Kd.int .u8) (w0 := w) w.heap.size rfl (.tmp 3) (.tmp 4) 23 5 (.int .u8 0) 1 rfl Try.underlying23 info5 rfl (by decide) (by omega) v109 y108 l0 _ _ _ (fun _ => True) (fun _ => False) rfl rfl ?aO ?aR (fun _ _ h => h) (fun _ h => h.elim) ?aF ?aB ?aS ?aL ?_; (case aR => repeat (first | exact (Kd.C_below HR0.out HB.out) | (with_reducible refine Kd.C_alloc ?_ _) | (with_reducible refine Kd.C_drewN ?_ _) | (with_reducible refine Kd.C_drew ?_))); (case aB => exact (by repeat (first | (with_reducible first | exact HB.out | apply below_alloc | apply pw_below_drewN | apply below_drew1) | exact HB.out))); (case aF => exact (fun _ _ => trivial)); (case aO => exact (by (with_reducible repeat (first | apply Kd.R_alloc | apply Kd.R_drewN | apply Kd.R_drew)); exact HO110.out)); (case aS => exact (below_size (by repeat (first | (with_reducible first | exact HB.out | apply below_alloc | apply pw_below_drewN | apply below_drew1) | exact HB.out)))); (case aL => have := LMc2.out; omega); intro v112 w5 ho hb hg hat; rw [← Ny111.out] at ho; have n0_ := Aside0.mk (hb); have n1_ := Aside0.mk (ho); clear HB; clear HO110; have HB := n0_; have HO113 := n1_; clear n0_ n1_; clear ho hb hg hat))
    go_ret
    exact ⟨_, by first | rfl | (simp [errW_none, errW_some] <;> rfl) | (simp [*, errW_none, errW_some] <;> rfl), by (with_reducible repeat (first | apply Kd.R_alloc | apply Kd.R_drewN | apply Kd.R_drew)); exact HO113.out, by repeat (first | (with_reducible first | exact HB.out | apply below_alloc | apply pw_below_drewN | apply below_drew1) | exact HB.out)⟩
  · rw [if_neg c2] at H
    exact absurd H (by simp)

end Go.Proofs.Ytcclmaicdmogjaa.P

namespace Go.Proofs.Ytcclmaicdmogjaa.P
open Go.RowKit Go.Proofs.YtcclmaicdmogjaaW.PrintWords Go.Proofs.YtcclmaicdmogjaaW.PrintLast Go.Proofs.YtcclmaicdmogjaaW.PrintMore
set_option linter.unusedVariables false
set_option linter.unusedSimpArgs false

-- USES calamusref02_Copy calamusref02_Same
theorem copy_eq (l : List Int) (h : l.length < 140737488355328) : calamusref02_Copy.f l = some l := by
  unfold calamusref02_Copy.f; simp [h]
theorem same_refl (l : List Int) : calamusref02_Same.f l l = some true := by
  unfold calamusref02_Same.f; simp
theorem bytes_of_wf {l : List Int} (h : ∀ x ∈ l, (Lit.int .u8 x).wf = true) : isBytes l := fun x hx => by
  have := h x hx
  simp [Lit.wf, IntKind.min, IntKind.max, IntKind.bits, IntKind.signed] at this
  omega
theorem isBytes_zeros (n : Nat) : isBytes (List.replicate n 0) := fun x hx => by rw [List.mem_replicate] at hx; omega
theorem isBytes_set {l : List Int} (h : isBytes l) (i : Nat) (v : Int) (hv : 0 ≤ v ∧ v ≤ 255) : isBytes (l.set i v) := fun x hx => by
  rcases List.mem_or_eq_of_mem_set hx with h' | h'
  · exact h x h'
  · omega
theorem wf_u8_out {n : Int} (h : (Lit.int .u8 n).wf = true) : 0 ≤ n ∧ n ≤ 255 := by
  simp [Lit.wf, IntKind.min, IntKind.max, IntKind.bits, IntKind.signed] at h; omega
theorem wf_u16_out {n : Int} (h : (Lit.int .u16 n).wf = true) : 0 ≤ n ∧ n ≤ 65535 := by
  simp [Lit.wf, IntKind.min, IntKind.max, IntKind.bits, IntKind.signed] at h; omega
theorem wf_u32_out {n : Int} (h : (Lit.int .u32 n).wf = true) : 0 ≤ n ∧ n ≤ 4294967295 := by
  simp [Lit.wf, IntKind.min, IntKind.max, IntKind.bits, IntKind.signed] at h; omega
theorem wf_i32_out {n : Int} (h : (Lit.int .i32 n).wf = true) : -2147483648 ≤ n ∧ n ≤ 2147483647 := by
  simp [Lit.wf, IntKind.min, IntKind.max, IntKind.bits, IntKind.signed] at h; omega
theorem wf_i64_out {n : Int} (h : (Lit.int .i64 n).wf = true) : -9223372036854775808 ≤ n ∧ n ≤ 9223372036854775807 := by
  simp [Lit.wf, IntKind.min, IntKind.max, IntKind.bits, IntKind.signed] at h; omega

end Go.Proofs.Ytcclmaicdmogjaa.P
