/- Part 1 of the proof of the law LocaBackUpto: The law LocaBackUpto. -/
import Derived.Test.YtcclmaicdmogjaaProg
import Derived.Below
import Derived.Deep.Draws
import Derived.Deep.AppendLies
import Derived.Maps.AppendAt
import Derived.OwnWalk
import Derived.Laws.BytesArg
import Derived.Laws.MakeOwn
import Derived.Laws.OwnMore
import Derived.Deep.OwnRows
import Derived.Tactics
import Derived.Lib.ConvBytes
import Derived.Laws.Slices
import Derived.WalkKit
import Derived.KernelRfl
import Derived.RowKit3
import Derived.Deep.LoopGhost
import Derived.Deep.QuietTactic
import Derived.BigQuiet
import Derived.WideLaws
import Derived.Deep.DeepCutAuto
import Derived.Deep.CutBlock
import Derived.Deep.RegionHeld3
import Derived.Laws.Rows
import Derived.Lib.AppendStr
import Derived.ArgAppend
import Derived.Laws.IdiomCopy
import Derived.OrdersHeld
import Derived.Laws.BitsLemmas
import Derived.RowKit
import Derived.Test.YtcclmaicdmogjaaWWords
import Derived.Test.YtcclmaicdmogjaaWLast
import Derived.Test.YtcclmaicdmogjaaWTab
import Derived.Test.YtcclmaicdmogjaaWFour
import Derived.Test.YtcclmaicdmogjaaWQPut
import Derived.Test.YtcclmaicdmogjaaWApart
import Derived.Test.YtcclmaicdmogjaaWArr
import Derived.Test.YtcclmaicdmogjaaWZeros
import Derived.Test.YtcclmaicdmogjaaWFoot
import Derived.Test.YtcclmaicdmogjaaWKept
import Derived.Test.YtcclmaicdmogjaaWShare
import Derived.Test.YtcclmaicdmogjaaWN
import Derived.Test.YtcclmaicdmogjaaWFootNe
import Derived.Test.YtcclmaicdmogjaaWAt
import Derived.Test.YtcclmaicdmogjaaWEqStruct
import Derived.Test.YtcclmaicdmogjaaWRepsOne
import Derived.Test.YtcclmaicdmogjaaWInv
import Derived.Test.YtcclmaicdmogjaaWInvWords
import Derived.Test.YtcclmaicdmogjaaWGuard
import Derived.Test.YtcclmaicdmogjaaWNEv
import Derived.Test.YtcclmaicdmogjaaWMore
import Derived.Test.YtcclmaicdmogjaaPb
-- Written by wip/pr.py over the kit's print
namespace Go.Proofs.Ytcclmaicdmogjaa.P
open Go.RowKit Go.Proofs.YtcclmaicdmogjaaW.PrintWords Go.Proofs.YtcclmaicdmogjaaW.PrintLast Go.Proofs.YtcclmaicdmogjaaW.PrintMore
attribute [local go_sem] max2_int min2_int max_two min_two max_three min_three max_four min_four   -- for this text's walks alone
set_option linter.unusedVariables false
set_option linter.unusedSimpArgs false



def errW : Option Int → Value
  | none => .nilIface
  | some c => .iface 0 (.int .i64 c)
theorem errW_none : errW none = .nilIface := rfl
theorem errW_some (c : Int) : errW (some c) = .iface 0 (.int .i64 c) := rfl

theorem info3 : (Try.prog.info? 3).map (fun i => (i.zero, i.size, i.bytes)) = some (some (.int .i64 0), 1, 8) := by kernel_rfl
theorem info5 : (Try.prog.info? 5).map (fun i => (i.zero, i.size, i.bytes)) = some (some (.int .u8 0), 1, 1) := by kernel_rfl
theorem info91 : (Try.prog.info? 91).map (fun i => (i.zero, i.size, i.bytes)) = some (some (.agg #[(.string ⟨#[]⟩), (.slice none 0 0)]), 2, 40) := by kernel_rfl
theorem info111 : (Try.prog.info? 111).map (fun i => (i.zero, i.size, i.bytes)) = some (some (.agg #[(.int .i64 0), (.int .i64 0)]), 2, 16) := by kernel_rfl
-- the values' own types
def rd_L2 (xs : List (List Int)) (i : Int) : (List Int) := xs.getD i.toNat ([] : List Int)
theorem at_L2 {w : World} {A : Option Addr} {n : Nat} {xs : List (List Int)} (h : Kd.C (Kd.slice 5 (Kd.int .u8)) w A n xs) (i : Int) (h0 : 0 ≤ i) (h1 : i < n) : ∃ ad A0 c0, A = some ad ∧ w.cell? (ad.add i.toNat) = some (.slice A0 (rd_L2 xs i).length c0) ∧ (rd_L2 xs i).length ≤ c0 ∧ (Kd.int .u8).C w A0 (rd_L2 xs i).length (rd_L2 xs i) := by
  obtain ⟨ad, c, e, _, hK, hc0⟩ := Kd.C_get h ([] : List Int) i h0 h1
  have hc : ∀ j u, c[j]? = some u → w.cell? (ad.add (i.toNat * 1 + j)) = some u := hc0
  obtain ⟨A0, c0, rfl, l0, g0⟩ := hK
  exact ⟨ad, A0, c0, e, by have hq := hc 0 _ rfl; rwa [Nat.mul_one, Nat.add_zero] at hq, l0, g0⟩

def rd_L4 (xs : List (List Int)) (i : Int) : (List Int) := xs.getD i.toNat ([] : List Int)
theorem at_L4 {w : World} {A : Option Addr} {n : Nat} {xs : List (List Int)} (h : Kd.C (Kd.slice 3 (Kd.int .i64)) w A n xs) (i : Int) (h0 : 0 ≤ i) (h1 : i < n) : ∃ ad A0 c0, A = some ad ∧ w.cell? (ad.add i.toNat) = some (.slice A0 (rd_L4 xs i).length c0) ∧ (rd_L4 xs i).length ≤ c0 ∧ (Kd.int .i64).C w A0 (rd_L4 xs i).length (rd_L4 xs i) := by
  obtain ⟨ad, c, e, _, hK, hc0⟩ := Kd.C_get h ([] : List Int) i h0 h1
  have hc : ∀ j u, c[j]? = some u → w.cell? (ad.add (i.toNat * 1 + j)) = some u := hc0
  obtain ⟨A0, c0, rfl, l0, g0⟩ := hK
  exact ⟨ad, A0, c0, e, by have hq := hc 0 _ rfl; rwa [Nat.mul_one, Nat.add_zero] at hq, l0, g0⟩

/-! #### struct type 111 -/
structure S111 where
  f0 : Int
  f1 : Int
def z111 : S111 := ⟨(0 : Int), (0 : Int)⟩
def k111 : Kd S111 := Kd.iso (Kd.pair (Kd.int .i64) (Kd.int .i64)) (fun x : S111 => (x.f0, x.f1))
theorem k111_open {w : World} {x : S111} {cs : List Value} (h : k111.K w x cs) : cs = [.int .i64 x.f0, .int .i64 x.f1] := by
  obtain ⟨_, _, rfl, rfl, rfl⟩ := h
  exact rfl
theorem k111_openM {w : World} {base : Nat} {ok : Nat → Prop} {x : S111} {cs : List Value} (h : k111.M w base ok x cs) : cs = [.int .i64 x.f0, .int .i64 x.f1] := by
  obtain ⟨_, _, rfl, rfl, rfl⟩ := h
  exact rfl
theorem k111_mk (w : World) (x : S111)  : k111.K w x [.int .i64 x.f0, .int .i64 x.f1] := ⟨[.int .i64 x.f0], [.int .i64 x.f1], rfl, rfl, rfl⟩
theorem k111_mkM (w : World) (base : Nat) (ok : Nat → Prop) (x : S111)  : k111.M w base ok x [.int .i64 x.f0, .int .i64 x.f1] := ⟨[.int .i64 x.f0], [.int .i64 x.f1], rfl, rfl, rfl⟩
theorem k111_mkF (W : World) (ok : Nat → Prop) (x : S111) : Kd.FK k111 W ok x [.int .i64 x.f0, .int .i64 x.f1] := fun W2 _ => k111_mk W2 x
def rd_T111 (xs : List S111) (i : Int) : S111 := xs.getD i.toNat z111
theorem at_T111 {w : World} {A : Option Addr} {n : Nat} {xs : List S111} (h : Kd.C k111 w A n xs) (i : Int) (h0 : 0 ≤ i) (h1 : i < n) : ∃ ad , A = some ad ∧ w.cell? (ad.add (i.toNat * 2)) = some (.int .i64 (rd_T111 xs i).f0) ∧ w.cell? ⟨(ad.add (i.toNat * 2)).block, (ad.add (i.toNat * 2)).off + 1, none⟩ = some (.int .i64 (rd_T111 xs i).f1) := by
  obtain ⟨ad, c, e, _, hK, hc0⟩ := Kd.C_get h z111 i h0 h1
  have hc : ∀ j u, c[j]? = some u → w.cell? (ad.add (i.toNat * 2 + j)) = some u := hc0
  obtain rfl := k111_open hK
  exact ⟨ad, e, hc 0 _ rfl, by rw [← add_field _ _ 1 (by omega)]; exact hc 1 _ rfl⟩

def rd_L7 (xs : List (List S111)) (i : Int) : (List S111) := xs.getD i.toNat ([] : List S111)
theorem at_L7 {w : World} {A : Option Addr} {n : Nat} {xs : List (List S111)} (h : Kd.C (Kd.slice 111 k111) w A n xs) (i : Int) (h0 : 0 ≤ i) (h1 : i < n) : ∃ ad A0 c0, A = some ad ∧ w.cell? (ad.add i.toNat) = some (.slice A0 (rd_L7 xs i).length c0) ∧ (rd_L7 xs i).length ≤ c0 ∧ k111.C w A0 (rd_L7 xs i).length (rd_L7 xs i) := by
  obtain ⟨ad, c, e, _, hK, hc0⟩ := Kd.C_get h ([] : List S111) i h0 h1
  have hc : ∀ j u, c[j]? = some u → w.cell? (ad.add (i.toNat * 1 + j)) = some u := hc0
  obtain ⟨A0, c0, rfl, l0, g0⟩ := hK
  exact ⟨ad, A0, c0, e, by have hq := hc 0 _ rfl; rwa [Nat.mul_one, Nat.add_zero] at hq, l0, g0⟩

/-! #### struct type 91 -/
structure S91 where
  f0 : ByteArray
  f1 : (List Int)
def z91 : S91 := ⟨(⟨#[]⟩ : ByteArray), ([] : List Int)⟩
def k91 : Kd S91 := Kd.iso (Kd.pair Kd.string (Kd.slice 5 (Kd.int .u8))) (fun x : S91 => (x.f0, x.f1))
theorem k91_open {w : World} {x : S91} {cs : List Value} (h : k91.K w x cs) : ∃ A1 c1, cs = [.string x.f0, .slice A1 x.f1.length c1] ∧ x.f1.length ≤ c1 ∧ (Kd.int .u8).C w A1 x.f1.length x.f1 := by
  obtain ⟨_, _, rfl, rfl, ⟨A1, c1, rfl, l1, g1⟩⟩ := h
  exact ⟨A1, c1, rfl, l1, g1⟩
theorem k91_openM {w : World} {base : Nat} {ok : Nat → Prop} {x : S91} {cs : List Value} (h : k91.M w base ok x cs) : ∃ v1, cs = [.string x.f0, v1] ∧ (Kd.int .u8).R 5 w base ok v1 x.f1 := by
  obtain ⟨_, _, rfl, rfl, ⟨v1, rfl, g1⟩⟩ := h
  exact ⟨v1, rfl, g1⟩
theorem k91_mk (w : World) (x : S91) {A1 : Option Addr} {c1 : Nat} (l1 : x.f1.length ≤ c1) (g1 : (Kd.int .u8).C w A1 x.f1.length x.f1) : k91.K w x [.string x.f0, .slice A1 x.f1.length c1] := ⟨[.string x.f0], [.slice A1 x.f1.length c1], rfl, rfl, ⟨A1, c1, rfl, l1, g1⟩⟩
theorem k91_mkM (w : World) (base : Nat) (ok : Nat → Prop) (x : S91) {v1 : Value} (g1 : (Kd.int .u8).R 5 w base ok v1 x.f1) : k91.M w base ok x [.string x.f0, v1] := ⟨[.string x.f0], [v1], rfl, rfl, ⟨v1, rfl, g1⟩⟩
theorem k91_openF {W : World} {ok : Nat → Prop} {x : S91} {cs : List Value} (h : Kd.FK k91 W ok x cs) : ∃ A1 c1, cs = [.string x.f0, .slice A1 x.f1.length c1] ∧ x.f1.length ≤ c1 ∧ Kd.F (Kd.int .u8) W ok A1 x.f1.length x.f1 := by
  obtain ⟨A1, c1, rfl, l1, _⟩ := k91_open (Kd.FK_now h)
  exact ⟨A1, c1, rfl, l1, (fun W' hW => by obtain ⟨A1_, c1_, he, l1_, g1_⟩ := k91_open (h W' hW); injection (Option.some.inj (show some (Value.slice A1 x.f1.length c1) = some (Value.slice A1_ x.f1.length c1_) from congrArg (fun l => l[1]?) he)) with ha_ _ _; rw [ha_]; exact g1_)⟩
theorem k91_mkF (W : World) (ok : Nat → Prop) (x : S91) {A1 : Option Addr} {c1 : Nat} (l1 : x.f1.length ≤ c1) (g1 : Kd.F (Kd.int .u8) W ok A1 x.f1.length x.f1) : Kd.FK k91 W ok x [.string x.f0, .slice A1 x.f1.length c1] := fun W2 hW => k91_mk W2 x l1 (g1 W2 hW)
def rd_T91 (xs : List S91) (i : Int) : S91 := xs.getD i.toNat z91
theorem at_T91 {w : World} {A : Option Addr} {n : Nat} {xs : List S91} (h : Kd.C k91 w A n xs) (i : Int) (h0 : 0 ≤ i) (h1 : i < n) : ∃ ad A1 c1, A = some ad ∧ w.cell? (ad.add (i.toNat * 2)) = some (.string (rd_T91 xs i).f0) ∧ w.cell? ⟨(ad.add (i.toNat * 2)).block, (ad.add (i.toNat * 2)).off + 1, none⟩ = some (.slice A1 (rd_T91 xs i).f1.length c1) ∧ (rd_T91 xs i).f1.length ≤ c1 ∧ (Kd.int .u8).C w A1 (rd_T91 xs i).f1.length (rd_T91 xs i).f1 := by
  obtain ⟨ad, c, e, _, hK, hc0⟩ := Kd.C_get h z91 i h0 h1
  have hc : ∀ j u, c[j]? = some u → w.cell? (ad.add (i.toNat * 2 + j)) = some u := hc0
  obtain ⟨A1, c1, rfl, l1, g1⟩ := k91_open hK
  exact ⟨ad, A1, c1, e, hc 0 _ rfl, by rw [← add_field _ _ 1 (by omega)]; exact hc 1 _ rfl, l1, g1⟩

end Go.Proofs.Ytcclmaicdmogjaa.P

-- Written by wip/pr.py over the kit's print
namespace Go.Proofs.Ytcclmaicdmogjaa.P
open Go.RowKit Go.Proofs.YtcclmaicdmogjaaW.PrintWords Go.Proofs.YtcclmaicdmogjaaW.PrintLast Go.Proofs.YtcclmaicdmogjaaW.PrintMore
attribute [local go_sem] max2_int min2_int max_two min_two max_three min_three max_four min_four   -- for this text's walks alone
set_option linter.unusedVariables false
set_option linter.unusedSimpArgs false

/-! ### be_there: function 77 -/
def be_there.f (l0 : List Int) (a1 : Int) (a2 : Int) : Option (Bool) := if a1 ≥ 0 then (if a2 ≥ 0 then (if a1 ≤ (l0.length : Int) then (some (decide (a2 ≤ (wrap64 ((l0.length : Int) - a1))))) else (some false)) else (some false)) else (some false)
set_option maxHeartbeats 8000000 in
set_option maxRecDepth 100000 in
theorem be_there.calls (A0 : Option Addr) (c0 : Nat) (l0 : List Int) (a1 : Int) (a2 : Int) (r : Bool) (w : World) (hr0 : Kd.C (Kd.int .u8) w A0 l0.length l0) (hc0 : l0.length ≤ c0) (h : be_there.f l0 a1 a2 = some r) :
    Calls Try.prog 77 #[.slice A0 l0.length c0, .int .i64 a1, .int .i64 a2] w fun e w' => e = .returned (.bool r) ∧ Drawn0 w w' := by
  have HR0 := Aside0.mk hr0
  have HC0 := Aside0.mk hc0
  clear hr0 hc0
  have H : (if a1 ≥ 0 then (if a2 ≥ 0 then (if a1 ≤ (l0.length : Int) then (some (decide (a2 ≤ (wrap64 ((l0.length : Int) - a1))))) else (some false)) else (some false)) else (some false)) = some r := h
  clear h
  by_cases c4 : a1 ≥ 0
  · rw [if_pos c4] at H
    have c4b0 : decide (0 ≤ a1) = true := decide_eq_true c4
    clear c4
    by_cases c5 : a2 ≥ 0
    · rw [if_pos c5] at H
      have c5b0 : decide (0 ≤ a2) = true := decide_eq_true c5
      clear c5
      by_cases c6 : a1 ≤ (l0.length : Int)
      · rw [if_pos c6] at H
        have c6b0 : decide (a1 ≤ (l0.length : Int)) = true := decide_eq_true c6
        clear c6
        obtain rfl := Option.some.inj H
        go_enter Try.func77, Try.ntmps77
        go_wp2
        go_ret
        exact ⟨by first | rfl | (simp; done) | (simp [*]; done), by repeat (first | exact Drawn0.refl _ | apply Drawn0.step)⟩
      · rw [if_neg c6] at H
        have c6b0 : decide (a1 ≤ (l0.length : Int)) = false := decide_eq_false c6
        clear c6
        obtain rfl := Option.some.inj H
        go_enter Try.func77, Try.ntmps77
        go_wp2
        go_ret
        exact ⟨by first | rfl | (simp; done) | (simp [*]; done), by repeat (first | exact Drawn0.refl _ | apply Drawn0.step)⟩
    · rw [if_neg c5] at H
      have c5b0 : decide (0 ≤ a2) = false := decide_eq_false c5
      clear c5
      obtain rfl := Option.some.inj H
      go_enter Try.func77, Try.ntmps77
      go_wp2
      go_ret
      exact ⟨by first | rfl | (simp; done) | (simp [*]; done), by repeat (first | exact Drawn0.refl _ | apply Drawn0.step)⟩
  · rw [if_neg c4] at H
    have c4b0 : decide (0 ≤ a1) = false := decide_eq_false c4
    clear c4
    obtain rfl := Option.some.inj H
    go_enter Try.func77, Try.ntmps77
    go_wp2
    go_ret
    exact ⟨by first | rfl | (simp; done) | (simp [*]; done), by repeat (first | exact Drawn0.refl _ | apply Drawn0.step)⟩

end Go.Proofs.Ytcclmaicdmogjaa.P

-- Written by wip/pr.py over the kit's print
namespace Go.Proofs.Ytcclmaicdmogjaa.P
open Go.RowKit Go.Proofs.YtcclmaicdmogjaaW.PrintWords Go.Proofs.YtcclmaicdmogjaaW.PrintLast Go.Proofs.YtcclmaicdmogjaaW.PrintMore
attribute [local go_sem] max2_int min2_int max_two min_two max_three min_three max_four min_four   -- for this text's walks alone
set_option linter.unusedVariables false
set_option linter.unusedSimpArgs false

/-! ### be_U: function 36 (by hand) -/
-- FUNC calamus/be.U
-- ROUNDS no
-- MAKES no
-- INFO uint8
def be_U.f (l0 : List Int) (a1 : Int) (a2 : Int) : Option (Int × Int) :=
  if isBytes l0 ∧ inI a1 ∧ inI a2 then (if a2 < 1 ∨ a2 > 4 then some (0, 2) else if 0 ≤ a1 ∧ a1 + a2 ≤ l0.length then some (pre (l0.drop a1.toNat) a2.toNat, 0) else some (0, 3)) else none
theorem be_there_eq (l0 : List Int) (a1 a2 : Int) (hm : l0.length ≤ 9223372036854775807) (h1 : inI a1) (h2 : 0 ≤ a2) : be_there.f l0 a1 a2 = some (decide (0 ≤ a1 ∧ a1 + a2 ≤ l0.length)) := by
  unfold inI at h1
  unfold be_there.f
  by_cases c1 : a1 ≥ 0
  · rw [if_pos c1, if_pos (by omega)]
    by_cases c2 : a1 ≤ (l0.length : Int)
    · rw [if_pos c2, IntWalk.wrap64_in _ ⟨by omega, by omega⟩]
      congr 1
      rw [decide_eq_decide]; omega
    · rw [if_neg c2]; simp; omega
  · rw [if_neg c1]; simp; omega
set_option maxHeartbeats 8000000 in
set_option maxRecDepth 100000 in
theorem be_U.calls (A0 : Option Addr) (c0 : Nat) (l0 : List Int) (a1 : Int) (a2 : Int) (r1 : Int) (r2 : Int) (w : World) (hr0 : Kd.C (Kd.int .u8) w A0 l0.length l0) (hc0 : l0.length ≤ c0) (h : be_U.f l0 a1 a2 = some (r1, r2)) :
    Calls Try.prog 36 #[.slice A0 l0.length c0, .int .i64 a1, .int .i64 a2] w fun e w' => e = .returned (.tuple #[.int .i64 r1, .int .i64 r2]) ∧ Drawn0 w w' := by
  have HC := Aside0.mk hr0
  have HL := Aside0.mk hc0
  have hmax : l0.length ≤ 9223372036854775807 := Kd.C_max hr0
  clear hr0 hc0
  unfold be_U.f at h
  split at h
  case isFalse => cases h
  rename_i hg
  obtain ⟨hb, hi1, hi2⟩ := hg
  have HB := Aside0.mk hb
  have HT := fun h2 => be_there_eq l0 a1 a2 hmax hi1 h2
  have HI := Aside0.mk hi1
  unfold inI at hi1 hi2
  obtain ⟨hi11, hi12⟩ := hi1
  obtain ⟨hi21, hi22⟩ := hi2
  clear hb
  by_cases hlo : a2 < 1
  · rw [if_pos (.inl hlo)] at h
    simp only [Option.some.injEq, Prod.mk.injEq] at h
    obtain ⟨rfl, rfl⟩ := h
    clear HT
    go_enter Try.func36, Try.ntmps36
    go_wp2
    go_ret2
    exact ⟨rfl, Drawn0.refl _⟩
  by_cases hhi : a2 > 4
  · rw [if_pos (.inr hhi)] at h
    simp only [Option.some.injEq, Prod.mk.injEq] at h
    obtain ⟨rfl, rfl⟩ := h
    clear HT
    have hhi' : 4 < a2 := hhi
    go_enter Try.func36, Try.ntmps36
    go_wp2
    go_ret2
    exact ⟨rfl, Drawn0.refl _⟩
  rw [if_neg (by omega)] at h
  have hhi' : a2 ≤ 4 := by omega
  have hlo' : 1 ≤ a2 := by omega
  by_cases hth : 0 ≤ a1 ∧ a1 + a2 ≤ l0.length
  · rw [if_pos hth] at h
    have HT' := Aside0.mk (HT (by omega))
    clear HT
    rw [show decide (0 ≤ a1 ∧ a1 + a2 ≤ (l0.length : Int)) = true from decide_eq_true hth] at HT'
    obtain ⟨hth1, hth2⟩ := hth
    simp only [Option.some.injEq, Prod.mk.injEq] at h
    obtain ⟨hr, rfl⟩ := h
    obtain ⟨A', l', c', hcut, hC', hL', HE⟩ := C_midc (P := Try.prog) (k := .u8) 23 5 Try.underlying23 (info_parts info5).choose_spec.1 (info_parts info5).choose_spec.2.2.1 A0 c0 l0 a1 (a1 + a2) hth1 (by omega) hth2 HL.out
    have HLE := Aside0.mk (show l'.length = a2.toNat by rw [HE.out, List.length_drop, List.length_take]; omega)
    have hl4 : l'.length ≤ 4 := by have := HLE.out; omega
    have HB' := Aside0.mk (show isBytes l' by rw [HE.out]; exact (HB.out.take _).drop _)
    have HR := Aside0.mk (show pre l' l'.length = r1 by
      rw [← hr, HLE.out]
      unfold pre
      rw [HE.out]
      rw [List.take_of_length_le (by rw [List.length_drop, List.length_take]; omega), List.take_drop, show (a1 + a2).toNat = a1.toNat + a2.toNat by omega])
    have HC' := Aside0.mk (fun w' => hC' w')
    clear hr hC'
    go_enter Try.func36, Try.ntmps36
    go_wp2_with (go_at_call 77; refine (be_there.calls _ _ l0 a1 a2 true _ HC.out HL.out HT'.out).mono ?_; rintro e w' ⟨rfl, ⟨nd, rfl⟩⟩)
    go_loopg [8, 31] 4 (fun kq v8 v31 w' => ∃ (k : Nat), v31 = .int .i64 (k : Int) ∧ v8 = .int .i64 (pre l' k) ∧ k ≤ l'.length ∧ Aside0 (4 - k = kq) ∧ Aside0 (Kd.C (Kd.int .u8) w' A' l'.length l') ∧ Drawn0 w w')
    case atStart => exact ⟨0, rfl, rfl, by omega, ⟨rfl⟩, ⟨HC'.out _ (by repeat (first | exact HC.out | (with_reducible refine Kd.C_drewN ?_ _) | (with_reducible refine Kd.C_drew ?_)))⟩, ⟨nd, rfl⟩⟩
    case round =>
      obtain ⟨k, rfl, rfl, hkl, HK, HC2, ⟨m', rfl⟩⟩ := hrel
      obtain ⟨hp0, hpb⟩ : 0 ≤ pre l' k ∧ pre l' k ≤ 4294967295 := by
        have := pre_bd l' HB'.out k hkl
        have h256 : (256 : Int) ^ k ≤ 256 ^ 4 := by
          have : k = 0 ∨ k = 1 ∨ k = 2 ∨ k = 3 ∨ k = 4 := by omega
          rcases this with rfl | rfl | rfl | rfl | rfl <;> decide
        omega
      by_cases hkl' : k < l'.length
      · obtain ⟨ad, y, rfl, hx, HY⟩ := C_at HC2.out k hkl'
        obtain ⟨hy0, hy1⟩ := byte_at HB'.out HY
        go_wp2
        go_roundg (4 - (k + 1))
        case measure => have := HK.out; omega
        case rel =>
          have hor := i64_or8 (pre l' k * 256) y (by omega) (by omega) (by omega) hy0 (by omega)
          have hsucc := pre_succ l' k hkl'
          have hy := HY.out
          refine ⟨k + 1, by go_num, ?_, by omega, ⟨rfl⟩, HC2, ⟨m', rfl⟩⟩
          rw [hsucc, hy, ← hor]
      · obtain rfl : k = l'.length := by omega
        go_wp2
        go_ret2
        exact ⟨ret_ints HR.out rfl, ⟨m', rfl⟩⟩
  · rw [if_neg hth] at h
    have HT' := Aside0.mk (HT (by omega))
    clear HT
    rw [show decide (0 ≤ a1 ∧ a1 + a2 ≤ (l0.length : Int)) = false from decide_eq_false hth] at HT'
    simp only [Option.some.injEq, Prod.mk.injEq] at h
    obtain ⟨rfl, rfl⟩ := h
    clear hth
    go_enter Try.func36, Try.ntmps36
    go_wp2_with (go_at_call 77; refine (be_there.calls _ _ l0 a1 a2 false _ HC.out HL.out HT'.out).mono ?_; rintro e w' ⟨rfl, ⟨nd, rfl⟩⟩)
    go_ret2
    exact ⟨rfl, ⟨nd, rfl⟩⟩


end Go.Proofs.Ytcclmaicdmogjaa.P

-- Written by wip/pr.py over the kit's print
namespace Go.Proofs.Ytcclmaicdmogjaa.P
open Go.RowKit Go.Proofs.YtcclmaicdmogjaaW.PrintWords Go.Proofs.YtcclmaicdmogjaaW.PrintLast Go.Proofs.YtcclmaicdmogjaaW.PrintMore
attribute [local go_sem] max2_int min2_int max_two min_two max_three min_three max_four min_four   -- for this text's walks alone
set_option linter.unusedVariables false
set_option linter.unusedSimpArgs false

/-! ### cmp_isNaN_int: function 115 -/
def cmp_isNaN_int.f (a0 : Int) : Option (Bool) := some (a0 != a0)
set_option maxHeartbeats 8000000 in
set_option maxRecDepth 100000 in
theorem cmp_isNaN_int.calls (a0 : Int) (r : Bool) (w : World) (h : cmp_isNaN_int.f a0 = some r) :
    Calls Try.prog 115 #[.int .i64 a0] w fun e w' => e = .returned (.bool r) ∧ Drawn0 w w' := by
  have H : (some (a0 != a0)) = some r := h
  clear h
  obtain rfl := Option.some.inj H
  go_enter Try.func115, Try.ntmps115
  go_wp2
  go_ret
  exact ⟨by first | rfl | (simp; done) | (simp [*]; done), by repeat (first | exact Drawn0.refl _ | apply Drawn0.step)⟩

end Go.Proofs.Ytcclmaicdmogjaa.P

-- Written by wip/pr.py over the kit's print
namespace Go.Proofs.Ytcclmaicdmogjaa.P
open Go.RowKit Go.Proofs.YtcclmaicdmogjaaW.PrintWords Go.Proofs.YtcclmaicdmogjaaW.PrintLast Go.Proofs.YtcclmaicdmogjaaW.PrintMore
attribute [local go_sem] max2_int min2_int max_two min_two max_three min_three max_four min_four   -- for this text's walks alone
set_option linter.unusedVariables false
set_option linter.unusedSimpArgs false

/-! ### cmp_Less_int: function 108 -/
def cmp_Less_int.f (a0 : Int) (a1 : Int) : Option (Bool) := (cmp_isNaN_int.f a0).bind fun t378 => (if t378 = true then ((cmp_isNaN_int.f a1).bind fun t379 => (if t379 = true then (some (decide (a0 < a1))) else (some true))) else (some (decide (a0 < a1))))
set_option maxHeartbeats 8000000 in
set_option maxRecDepth 100000 in
theorem cmp_Less_int.calls (a0 : Int) (a1 : Int) (r : Bool) (w : World) (h : cmp_Less_int.f a0 a1 = some r) :
    Calls Try.prog 108 #[.int .i64 a0, .int .i64 a1] w fun e w' => e = .returned (.bool r) ∧ Drawn0 w w' := by
  have H : ((cmp_isNaN_int.f a0).bind fun t378 => (if t378 = true then ((cmp_isNaN_int.f a1).bind fun t379 => (if t379 = true then (some (decide (a0 < a1))) else (some true))) else (some (decide (a0 < a1))))) = some r := h
  clear h
  replace H := Option.bind_eq_some_iff.mp H
  obtain ⟨t378, A30, H⟩ := H
  replace H : (if t378 = true then ((cmp_isNaN_int.f a1).bind fun t379 => (if t379 = true then (some (decide (a0 < a1))) else (some true))) else (some (decide (a0 < a1)))) = some r := H
  have A3 := Aside0.mk A30
  clear A30
  by_cases c4 : t378 = true
  · subst c4
    have H1 : ((cmp_isNaN_int.f a1).bind fun t379 => (if t379 = true then (some (decide (a0 < a1))) else (some true))) = some r := by rw [if_pos rfl] at H; exact H
    clear H
    have H := H1
    clear H1
    replace H := Option.bind_eq_some_iff.mp H
    obtain ⟨t379, A50, H⟩ := H
    replace H : (if t379 = true then (some (decide (a0 < a1))) else (some true)) = some r := H
    have A5 := Aside0.mk A50
    clear A50
    by_cases c6 : t379 = true
    · subst c6
      have H1 : (some (decide (a0 < a1))) = some r := by rw [if_pos rfl] at H; exact H
      clear H
      have H := H1
      clear H1
      obtain rfl := Option.some.inj H
      go_enter Try.func108, Try.ntmps108
      go_wp2_with (first | ((with_reducible refine gate_callee (f := 115) rfl ?_); refine goesL_ (some 6) rfl rfl Try.func115 (by kernel_rfl) rfl #[.int .i64 a0] rfl (by (try simp only [List.map_toArray, List.map_cons, List.map_nil]); first | done | rfl | (simp only [List.length_drop, List.length_take]; rfl)) ?_; (with_reducible refine (cmp_isNaN_int.calls a0 true _ A3.out).mono ?_); rintro e w' ⟨rfl, ⟨nd, rfl⟩⟩; refine ⟨_, rfl, ?_⟩) | (go_at_call 115; (with_reducible refine (cmp_isNaN_int.calls a1 true _ A5.out).mono ?_); rintro e w' ⟨rfl, ⟨nd, rfl⟩⟩))
      go_ret
      exact ⟨by first | rfl | (simp; done) | (simp [*]; done), by repeat (first | exact Drawn0.refl _ | apply Drawn0.step)⟩
    · replace c6 := Bool.eq_false_iff.mpr c6
      subst c6
      have H1 : (some true) = some r := by rw [if_neg (show ¬ (false = true) by decide)] at H; exact H
      clear H
      have H := H1
      clear H1
      obtain rfl := Option.some.inj H
      go_enter Try.func108, Try.ntmps108
      go_wp2_with (first | ((with_reducible refine gate_callee (f := 115) rfl ?_); refine goesL_ (some 6) rfl rfl Try.func115 (by kernel_rfl) rfl #[.int .i64 a0] rfl (by (try simp only [List.map_toArray, List.map_cons, List.map_nil]); first | done | rfl | (simp only [List.length_drop, List.length_take]; rfl)) ?_; (with_reducible refine (cmp_isNaN_int.calls a0 true _ A3.out).mono ?_); rintro e w' ⟨rfl, ⟨nd, rfl⟩⟩; refine ⟨_, rfl, ?_⟩) | (go_at_call 115; (with_reducible refine (cmp_isNaN_int.calls a1 false _ A5.out).mono ?_); rintro e w' ⟨rfl, ⟨nd, rfl⟩⟩))
      go_ret
      exact ⟨by first | rfl | (simp; done) | (simp [*]; done), by repeat (first | exact Drawn0.refl _ | apply Drawn0.step)⟩
  · replace c4 := Bool.eq_false_iff.mpr c4
    subst c4
    have H1 : (some (decide (a0 < a1))) = some r := by rw [if_neg (show ¬ (false = true) by decide)] at H; exact H
    clear H
    have H := H1
    clear H1
    obtain rfl := Option.some.inj H
    go_enter Try.func108, Try.ntmps108
    go_wp2_with (first | ((with_reducible refine gate_callee (f := 115) rfl ?_); refine goesL_ (some 6) rfl rfl Try.func115 (by kernel_rfl) rfl #[.int .i64 a0] rfl (by (try simp only [List.map_toArray, List.map_cons, List.map_nil]); first | done | rfl | (simp only [List.length_drop, List.length_take]; rfl)) ?_; (with_reducible refine (cmp_isNaN_int.calls a0 false _ A3.out).mono ?_); rintro e w' ⟨rfl, ⟨nd, rfl⟩⟩; refine ⟨_, rfl, ?_⟩))
    go_ret
    exact ⟨by first | rfl | (simp; done) | (simp [*]; done), by repeat (first | exact Drawn0.refl _ | apply Drawn0.step)⟩

end Go.Proofs.Ytcclmaicdmogjaa.P

-- Written by wip/pr.py over the kit's print
namespace Go.Proofs.Ytcclmaicdmogjaa.P
open Go.RowKit Go.Proofs.YtcclmaicdmogjaaW.PrintWords Go.Proofs.YtcclmaicdmogjaaW.PrintLast Go.Proofs.YtcclmaicdmogjaaW.PrintMore
attribute [local go_sem] max2_int min2_int max_two min_two max_three min_three max_four min_four   -- for this text's walks alone
set_option linter.unusedVariables false
set_option linter.unusedSimpArgs false

/-! ### slices_IsSorted_int_int: function 85 -/
def slices_IsSorted_int_int.l0 : Nat → List Int → Int → Option (Bool)
  | 0, _, _ => none
  | k + 1, x0, x3 => if x3 > 0 then (if 0 ≤ x3 then (if x3 < (x0.length : Int) then (if 0 ≤ (wrap64 (x3 - 1)) then (if (wrap64 (x3 - 1)) < (x0.length : Int) then ((cmp_Less_int.f (rd x0 x3) (rd x0 (wrap64 (x3 - 1)))).bind fun t382 => (if t382 = true then (some false) else (slices_IsSorted_int_int.l0 k x0 (wrap64 (x3 - 1))))) else (none)) else (none)) else (none)) else (none)) else (some true)
def slices_IsSorted_int_int.f (k : Nat) (l0 : List Int) : Option (Bool) := slices_IsSorted_int_int.l0 k l0 (wrap64 ((l0.length : Int) - 1))
theorem slices_IsSorted_int_int.mono_l : ∀ k, (∀ y0 y1, LeO (slices_IsSorted_int_int.l0 k y0 y1) (slices_IsSorted_int_int.l0 (k + 1) y0 y1))
  | 0 => fun _ _ r h => by simp [slices_IsSorted_int_int.l0] at h
  | k + 1 => by
    have ih0 := slices_IsSorted_int_int.mono_l k
    · intro y0 y1
      unfold slices_IsSorted_int_int.l0
      repeat' first
      | (with_reducible exact ih0 _ _)
      | (with_reducible exact LeO.refl _)
      | (with_reducible exact LeO.none _)
      | (with_reducible refine LeO.ite ?_ ?_)
      | (with_reducible refine LeO.bind ?_ (fun _ => ?_))
      | exact ih0 _ _
      | exact LeO.none _
      | refine LeO.ite ?_ ?_
      | refine LeO.bind ?_ (fun _ => ?_)
theorem slices_IsSorted_int_int.mono : ∀ a0 k, LeO (slices_IsSorted_int_int.f k a0) (slices_IsSorted_int_int.f (k + 1) a0) := by
  intro a0 k
  have ih0 := slices_IsSorted_int_int.mono_l k
  unfold slices_IsSorted_int_int.f
  repeat' first
      | (with_reducible exact ih0 _ _)
      | (with_reducible exact LeO.refl _)
      | (with_reducible exact LeO.none _)
      | (with_reducible refine LeO.ite ?_ ?_)
      | (with_reducible refine LeO.bind ?_ (fun _ => ?_))
      | exact ih0 _ _
      | exact LeO.none _
      | refine LeO.ite ?_ ?_
      | refine LeO.bind ?_ (fun _ => ?_)
set_option maxHeartbeats 8000000 in
set_option maxRecDepth 100000 in
theorem slices_IsSorted_int_int.calls (k : Nat) (A0 : Option Addr) (c0 : Nat) (l0 : List Int) (r : Bool) (w : World) (hr0 : Kd.C (Kd.int .i64) w A0 l0.length l0) (hc0 : l0.length ≤ c0) (h : slices_IsSorted_int_int.f k l0 = some r) :
    Calls Try.prog 85 #[.slice A0 l0.length c0] w fun e w' => e = .returned (.bool r) ∧ Drawn0 w w' := by
  have HR0 := Aside0.mk hr0
  have HC0 := Aside0.mk hc0
  clear hr0 hc0
  have H : (slices_IsSorted_int_int.l0 k l0 (wrap64 ((l0.length : Int) - 1))) = some r := h
  clear h
  have H' := Aside0.mk H
  clear H
  go_enter Try.func85, Try.ntmps85
  go_wp2
  repeat (go_quiet (fail); try go_wp2)
  go_loopg [3] k (fun kq v3 w' => ∃ (x3_1 : Int), v3 = .int .i64 x3_1 ∧ Aside0 (slices_IsSorted_int_int.l0 kq l0 x3_1 = some r) ∧ Aside0 (kq ≤ k) ∧ Drawn0 w w')
  case atStart => exact ⟨(wrap64 ((l0.length : Int) - 1)), (by first | rfl | (simp; done) | (simp [*]; done)), H', ⟨Nat.le_refl _⟩, by repeat (first | exact Drawn0.refl _ | apply Drawn0.step)⟩
  case round =>
    clear H'
    obtain ⟨x3_1, rfl, HA, HK1, ⟨m1, rfl⟩⟩ := hrel
    cases gk with
    | zero => exact absurd HA.out (by simp [slices_IsSorted_int_int.l0])
    | succ k1 =>
      have H := HA.out
      clear HA
      simp only [slices_IsSorted_int_int.l0] at H
      by_cases c2 : x3_1 > 0
      · rw [if_pos c2] at H
        have c2b0 : decide (0 < x3_1) = true := decide_eq_true c2
        clear c2
        by_cases c3 : 0 ≤ x3_1
        · rw [if_pos c3] at H
          have c3b0 : decide (0 ≤ x3_1) = true := decide_eq_true c3
          clear c3
          by_cases c4 : x3_1 < (l0.length : Int)
          · rw [if_pos c4] at H
            have c4b0 : decide (x3_1 < (l0.length : Int)) = true := decide_eq_true c4
            clear c4
            obtain ⟨ji5, hji5⟩ : ∃ j_ : Int, (wrap64 (x3_1 - 1)) = j_ := ⟨_, rfl⟩
            replace H : (if 0 ≤ (ji5) then (if (ji5) < (l0.length : Int) then ((cmp_Less_int.f (rd l0 x3_1) (rd l0 (ji5))).bind fun t382 => (if t382 = true then (some false) else (slices_IsSorted_int_int.l0 k1 l0 ji5))) else (none)) else (none)) = some r := by first | (rw [hji5] at H; exact H) | (simp only [hji5] at H ⊢; exact H)
            have hji5w : (IntKind.i64.wrap (x3_1 - 1)) = ji5 := (i64_w _).trans hji5
            by_cases c6 : 0 ≤ (ji5)
            · rw [if_pos c6] at H
              have c6b0 : decide (0 ≤ (ji5)) = true := decide_eq_true c6
              clear c6
              by_cases c7 : (ji5) < (l0.length : Int)
              · rw [if_pos c7] at H
                have c7b0 : decide ((ji5) < (l0.length : Int)) = true := decide_eq_true c7
                clear c7
                replace H := Option.bind_eq_some_iff.mp H
                obtain ⟨t382, A80, H⟩ := H
                replace H : (if t382 = true then (some false) else (slices_IsSorted_int_int.l0 k1 l0 ji5)) = some r := H
                have A8 := Aside0.mk A80
                clear A80
                by_cases c9 : t382 = true
                · subst c9
                  have H1 : (some false) = some r := by rw [if_pos rfl] at H; exact H
                  clear H
                  have H := H1
                  clear H1
                  obtain rfl := Option.some.inj H
                  have p380 : 0 ≤ (x3_1 : Int) := of_decide_eq_true (by first | (with_reducible assumption) | assumption)
                  have q380 : x3_1 < (l0.length : Int) := of_decide_eq_true (by first | (with_reducible assumption) | assumption)
                  obtain ⟨ad380, e380, hx380_0⟩ := Kd.at_int HR0.out x3_1 p380 q380
                  cases e380
                  replace p380 := eq_true p380
                  replace q380 := eq_true q380
                  have p381 : 0 ≤ ((ji5) : Int) := of_decide_eq_true (by first | (with_reducible assumption) | assumption)
                  have q381 : (ji5) < (l0.length : Int) := of_decide_eq_true (by first | (with_reducible assumption) | assumption)
                  obtain ⟨ad381, e381, hx381_0⟩ := Kd.at_int HR0.out (ji5) p381 q381
                  obtain rfl : ad380 = ad381 := (by injection e381)
                  replace p381 := eq_true p381
                  replace q381 := eq_true q381
                  go_wp2_with (first | (go_at_call 108; (with_reducible refine (cmp_Less_int.calls (rd l0 x3_1) (rd l0 (ji5)) true _ A8.out).mono ?_); rintro e w' ⟨rfl, ⟨nd, rfl⟩⟩; (try first | exact ⟨rfl, _, World.drewN_drewN _ _ _⟩ | exact ⟨rfl, _, Eq.trans (World.drewN_drewN _ _ _) (congrArg (World.drewN _) (Nat.add_assoc _ _ _))⟩)))
                  repeat (go_quiet (first | (go_at_call 108; (with_reducible refine (cmp_Less_int.calls (rd l0 x3_1) (rd l0 (ji5)) true _ A8.out).mono ?_); rintro e w' ⟨rfl, ⟨nd, rfl⟩⟩; (try first | exact ⟨rfl, _, World.drewN_drewN _ _ _⟩ | exact ⟨rfl, _, Eq.trans (World.drewN_drewN _ _ _) (congrArg (World.drewN _) (Nat.add_assoc _ _ _))⟩))); try go_wp2_with (first | (go_at_call 108; (with_reducible refine (cmp_Less_int.calls (rd l0 x3_1) (rd l0 (ji5)) true _ A8.out).mono ?_); rintro e w' ⟨rfl, ⟨nd, rfl⟩⟩; (try first | exact ⟨rfl, _, World.drewN_drewN _ _ _⟩ | exact ⟨rfl, _, Eq.trans (World.drewN_drewN _ _ _) (congrArg (World.drewN _) (Nat.add_assoc _ _ _))⟩))))
                  go_ret
                  exact ⟨by first | rfl | (simp; done) | (simp only [← hji5] <;> (first | rfl | simp)) | (simp [*]; done), by repeat (first | exact Drawn0.refl _ | apply Drawn0.step)⟩
                · replace c9 := Bool.eq_false_iff.mpr c9
                  subst c9
                  have H1 : (slices_IsSorted_int_int.l0 k1 l0 ji5) = some r := by rw [if_neg (show ¬ (false = true) by decide)] at H; exact H
                  clear H
                  have H := H1
                  clear H1
                  have H' := Aside0.mk H
                  clear H
                  have p380 : 0 ≤ (x3_1 : Int) := of_decide_eq_true (by first | (with_reducible assumption) | assumption)
                  have q380 : x3_1 < (l0.length : Int) := of_decide_eq_true (by first | (with_reducible assumption) | assumption)
                  obtain ⟨ad380, e380, hx380_0⟩ := Kd.at_int HR0.out x3_1 p380 q380
                  cases e380
                  replace p380 := eq_true p380
                  replace q380 := eq_true q380
                  have p381 : 0 ≤ ((ji5) : Int) := of_decide_eq_true (by first | (with_reducible assumption) | assumption)
                  have q381 : (ji5) < (l0.length : Int) := of_decide_eq_true (by first | (with_reducible assumption) | assumption)
                  obtain ⟨ad381, e381, hx381_0⟩ := Kd.at_int HR0.out (ji5) p381 q381
                  obtain rfl : ad380 = ad381 := (by injection e381)
                  replace p381 := eq_true p381
                  replace q381 := eq_true q381
                  go_wp2_with (first | (go_at_call 108; (with_reducible refine (cmp_Less_int.calls (rd l0 x3_1) (rd l0 (ji5)) false _ A8.out).mono ?_); rintro e w' ⟨rfl, ⟨nd, rfl⟩⟩; (try first | exact ⟨rfl, _, World.drewN_drewN _ _ _⟩ | exact ⟨rfl, _, Eq.trans (World.drewN_drewN _ _ _) (congrArg (World.drewN _) (Nat.add_assoc _ _ _))⟩)))
                  repeat (go_quiet (first | (go_at_call 108; (with_reducible refine (cmp_Less_int.calls (rd l0 x3_1) (rd l0 (ji5)) false _ A8.out).mono ?_); rintro e w' ⟨rfl, ⟨nd, rfl⟩⟩; (try first | exact ⟨rfl, _, World.drewN_drewN _ _ _⟩ | exact ⟨rfl, _, Eq.trans (World.drewN_drewN _ _ _) (congrArg (World.drewN _) (Nat.add_assoc _ _ _))⟩))); try go_wp2_with (first | (go_at_call 108; (with_reducible refine (cmp_Less_int.calls (rd l0 x3_1) (rd l0 (ji5)) false _ A8.out).mono ?_); rintro e w' ⟨rfl, ⟨nd, rfl⟩⟩; (try first | exact ⟨rfl, _, World.drewN_drewN _ _ _⟩ | exact ⟨rfl, _, Eq.trans (World.drewN_drewN _ _ _) (congrArg (World.drewN _) (Nat.add_assoc _ _ _))⟩))))
                  go_roundg k1
                  case measure => have := HK1.out; omega
                  case rel => exact ⟨(ji5), (by first | rfl | (simp; done) | (simp only [← hji5] <;> (first | rfl | simp)) | (simp [*]; done)), H', ⟨by have := HK1.out; omega⟩, by repeat (first | exact Drawn0.refl _ | apply Drawn0.step)⟩
              · rw [if_neg c7] at H
                exact absurd H (by simp)
            · rw [if_neg c6] at H
              exact absurd H (by simp)
          · rw [if_neg c4] at H
            exact absurd H (by simp)
        · rw [if_neg c3] at H
          exact absurd H (by simp)
      · rw [if_neg c2] at H
        have c2b0 : decide (0 < x3_1) = false := decide_eq_false c2
        clear c2
        obtain rfl := Option.some.inj H
        go_wp2
        repeat (go_quiet (fail); try go_wp2)
        go_ret
        exact ⟨by first | rfl | (simp; done) | (simp [*]; done), by repeat (first | exact Drawn0.refl _ | apply Drawn0.step)⟩

end Go.Proofs.Ytcclmaicdmogjaa.P

-- Written by wip/pr.py over the kit's print
namespace Go.Proofs.Ytcclmaicdmogjaa.P
open Go.RowKit Go.Proofs.YtcclmaicdmogjaaW.PrintWords Go.Proofs.YtcclmaicdmogjaaW.PrintLast Go.Proofs.YtcclmaicdmogjaaW.PrintMore
attribute [local go_sem] max2_int min2_int max_two min_two max_three min_three max_four min_four   -- for this text's walks alone
set_option linter.unusedVariables false
set_option linter.unusedSimpArgs false

/-! ### loca_Read: function 51 -/
mutual
def loca_Read.j0 : Nat → List Int → Bool → Int → Bool → Option (List Int × Int)
  | 0, _, _, _, _ => none
  | k + 1, x0, x1, x2, x18 => if x18 = true then (some (([] : List Int), 2)) else (if x1 = true then (loca_Read.j1 k x0 x1 x2 4) else (loca_Read.j1 k x0 x1 x2 2))
def loca_Read.j1 : Nat → List Int → Bool → Int → Int → Option (List Int × Int)
  | 0, _, _, _, _ => none
  | k + 1, x0, x1, x2, x8 => if (x0.length : Int) < (wrap64 (x8 * (wrap64 (x2 + 1)))) then (some (([] : List Int), 3)) else (loca_Read.l0 k x0 x1 x8 ([] : List Int) (wrap64 (x2 + 1)) 0)
def loca_Read.l0 : Nat → List Int → Bool → Int → List Int → Int → Int → Option (List Int × Int)
  | 0, _, _, _, _, _, _ => none
  | k + 1, x0, x1, x8, x9, x28, x29 => if x29 < x28 then ((be_U.f x0 (wrap64 (x29 * x8)) x8).bind fun bt383 => (if x1 = true then (if x9.length < 17592186044416 then (loca_Read.l0 k x0 x1 x8 (x9 ++ [bt383.1]) x28 (wrap64 (x29 + 1))) else (none)) else (if x9.length < 17592186044416 then (loca_Read.l0 k x0 x1 x8 (x9 ++ [wrap64 (bt383.1 * 2)]) x28 (wrap64 (x29 + 1))) else (none)))) else ((slices_IsSorted_int_int.f k x9).bind fun t391 => (if t391 = true then (some (x9, 0)) else (some (([] : List Int), 12))))
end
def loca_Read.f (k : Nat) (l0 : List Int) (a1 : Bool) (a2 : Int) : Option (List Int × Int) := if a2 < 0 then (loca_Read.j0 k l0 a1 a2 true) else (loca_Read.j0 k l0 a1 a2 (decide (a2 > 1024)))
theorem loca_Read.mono_l : ∀ k, (∀ y0 y1 y2 y3, LeO (loca_Read.j0 k y0 y1 y2 y3) (loca_Read.j0 (k + 1) y0 y1 y2 y3)) ∧ (∀ y0 y1 y2 y3, LeO (loca_Read.j1 k y0 y1 y2 y3) (loca_Read.j1 (k + 1) y0 y1 y2 y3)) ∧ (∀ y0 y1 y2 y3 y4 y5, LeO (loca_Read.l0 k y0 y1 y2 y3 y4 y5) (loca_Read.l0 (k + 1) y0 y1 y2 y3 y4 y5))
  | 0 => ⟨fun _ _ _ _ r h => by simp [loca_Read.j0] at h, fun _ _ _ _ r h => by simp [loca_Read.j1] at h, fun _ _ _ _ _ _ r h => by simp [loca_Read.l0] at h⟩
  | k + 1 => by
    obtain ⟨ih0, ih1, ih2⟩ := loca_Read.mono_l k
    refine ⟨?_, ?_, ?_⟩
    · intro y0 y1 y2 y3
      unfold loca_Read.j0
      repeat' first
      | (with_reducible exact ih0 _ _ _ _)
      | (with_reducible exact ih1 _ _ _ _)
      | (with_reducible exact ih2 _ _ _ _ _ _)
      | (with_reducible exact slices_IsSorted_int_int.mono _ _)
      | (with_reducible exact LeO.refl _)
      | (with_reducible exact LeO.none _)
      | (with_reducible refine LeO.ite ?_ ?_)
      | (with_reducible refine LeO.bind ?_ (fun _ => ?_))
      | exact ih0 _ _ _ _
      | exact ih1 _ _ _ _
      | exact ih2 _ _ _ _ _ _
      | exact slices_IsSorted_int_int.mono _ _
      | exact LeO.none _
      | refine LeO.ite ?_ ?_
      | refine LeO.bind ?_ (fun _ => ?_)
    · intro y0 y1 y2 y3
      unfold loca_Read.j1
      repeat' first
      | (with_reducible exact ih0 _ _ _ _)
      | (with_reducible exact ih1 _ _ _ _)
      | (with_reducible exact ih2 _ _ _ _ _ _)
      | (with_reducible exact slices_IsSorted_int_int.mono _ _)
      | (with_reducible exact LeO.refl _)
      | (with_reducible exact LeO.none _)
      | (with_reducible refine LeO.ite ?_ ?_)
      | (with_reducible refine LeO.bind ?_ (fun _ => ?_))
      | exact ih0 _ _ _ _
      | exact ih1 _ _ _ _
      | exact ih2 _ _ _ _ _ _
      | exact slices_IsSorted_int_int.mono _ _
      | exact LeO.none _
      | refine LeO.ite ?_ ?_
      | refine LeO.bind ?_ (fun _ => ?_)
    · intro y0 y1 y2 y3 y4 y5
      unfold loca_Read.l0
      repeat' first
      | (with_reducible exact ih0 _ _ _ _)
      | (with_reducible exact ih1 _ _ _ _)
      | (with_reducible exact ih2 _ _ _ _ _ _)
      | (with_reducible exact slices_IsSorted_int_int.mono _ _)
      | (with_reducible exact LeO.refl _)
      | (with_reducible exact LeO.none _)
      | (with_reducible refine LeO.ite ?_ ?_)
      | (with_reducible refine LeO.bind ?_ (fun _ => ?_))
      | exact ih0 _ _ _ _
      | exact ih1 _ _ _ _
      | exact ih2 _ _ _ _ _ _
      | exact slices_IsSorted_int_int.mono _ _
      | exact LeO.none _
      | refine LeO.ite ?_ ?_
      | refine LeO.bind ?_ (fun _ => ?_)
theorem loca_Read.mono : ∀ a0 a1 a2 k, LeO (loca_Read.f k a0 a1 a2) (loca_Read.f (k + 1) a0 a1 a2) := by
  intro a0 a1 a2 k
  obtain ⟨ih0, ih1, ih2⟩ := loca_Read.mono_l k
  unfold loca_Read.f
  repeat' first
      | (with_reducible exact ih0 _ _ _ _)
      | (with_reducible exact ih1 _ _ _ _)
      | (with_reducible exact ih2 _ _ _ _ _ _)
      | (with_reducible exact slices_IsSorted_int_int.mono _ _)
      | (with_reducible exact LeO.refl _)
      | (with_reducible exact LeO.none _)
      | (with_reducible refine LeO.ite ?_ ?_)
      | (with_reducible refine LeO.bind ?_ (fun _ => ?_))
      | exact ih0 _ _ _ _
      | exact ih1 _ _ _ _
      | exact ih2 _ _ _ _ _ _
      | exact slices_IsSorted_int_int.mono _ _
      | exact LeO.none _
      | refine LeO.ite ?_ ?_
      | refine LeO.bind ?_ (fun _ => ?_)
set_option maxHeartbeats 8000000 in
set_option maxRecDepth 100000 in
theorem loca_Read.calls (k : Nat) (A0 : Option Addr) (c0 : Nat) (l0 : List Int) (a1 : Bool) (a2 : Int) (r1 : List Int) (r2 : Int) (w : World) (hr0 : Kd.C (Kd.int .u8) w A0 l0.length l0) (hc0 : l0.length ≤ c0) (h : loca_Read.f k l0 a1 a2 = some (r1, r2)) :
    Calls Try.prog 51 #[.slice A0 l0.length c0, .bool a1, .int .i64 a2] w fun e w' => ∃ v0_ : Value, e = .returned (.tuple #[v0_, .int .i64 r2]) ∧ Kd.R (Kd.int .i64) 3 w' w.heap.size (fun _ => True) v0_ r1 ∧ Below w.heap.size w w' := by
  have HR0 := Aside0.mk hr0
  have HC0 := Aside0.mk hc0
  clear hr0 hc0
  have HB := Aside0.mk (Below.refl w.heap.size w)
  have H : (if a2 < 0 then (loca_Read.j0 k l0 a1 a2 true) else (loca_Read.j0 k l0 a1 a2 (decide (a2 > 1024)))) = some (r1, r2) := h
  clear h
  have HC4 := Aside0.mk H
  clear H
  go_enter Try.func51, Try.ntmps51
  go_upto_region 1 with (fail)
  go_cut [18] (fun v18 wc => ∃ (kq : Nat) (x18_3 : Bool), v18 = .bool x18_3 ∧ Aside0 (loca_Read.j0 kq l0 a1 a2 x18_3 = some (r1, r2)) ∧ Aside0 (kq ≤ k) ∧ Aside0 (Below w.heap.size w wc))
  case first =>
    have H := HC4.out
    clear HC4
    by_cases c5 : a2 < 0
    · rw [if_pos c5] at H
      have c5b0 : decide (a2 < 0) = true := decide_eq_true c5
      clear c5
      (first | rw [c5b0] | (simp only [i64_w, i32_w]; rw [c5b0]) | skip)
      have H' := Aside0.mk H
      clear H
      go_wp2
      go_meet
      case rel => exact ⟨_, (true), (by first | rfl | (simp; done) | (simp [*]; done)), H', ⟨by first | omega | exact Nat.le_refl _⟩, ⟨by repeat (first | (with_reducible first | exact HB.out | apply below_alloc | apply pw_below_drewN | apply below_drew1) | exact HB.out)⟩⟩
    · rw [if_neg c5] at H
      have c5b0 : decide (a2 < 0) = false := decide_eq_false c5
      clear c5
      (first | rw [c5b0] | (simp only [i64_w, i32_w]; rw [c5b0]) | skip)
      have H' := Aside0.mk H
      clear H
      go_wp2
      go_meet
      case rel => exact ⟨_, (decide (a2 > 1024)), (by first | rfl | (simp; done) | (simp [*]; done)), H', ⟨by first | omega | exact Nat.le_refl _⟩, ⟨by repeat (first | (with_reducible first | exact HB.out | apply below_alloc | apply pw_below_drewN | apply below_drew1) | exact HB.out)⟩⟩
  case rest =>
    clear HC4
    try clear p2
    try clear c5
    try clear c5b0
    obtain ⟨kq, x18_3, rfl, HA, HJ3, HB⟩ := hcut
    cases kq with
    | zero => exact absurd HA.out (by simp [loca_Read.j0])
    | succ kj3 =>
      have H := HA.out
      clear HA
      simp only [loca_Read.j0] at H
      by_cases c6 : x18_3 = true
      · subst c6
        have H1 : (some (([] : List Int), 2)) = some (r1, r2) := by rw [if_pos rfl] at H; exact H
        clear H
        have H := H1
        clear H1
        simp only [Option.some.injEq, Prod.mk.injEq] at H
        obtain ⟨rfl, rfl⟩ := H
        go_wp2
        go_ret2
        exact ⟨_, by first | rfl | (simp [errW_none, errW_some] <;> rfl) | (simp [*, errW_none, errW_some] <;> rfl), by first | exact Kd.R_nil _ _ _ _ _ | exact Kd.N_nil _ _ _ _ _ | exact Kd.V_nil _ _ _ _ _ | exact Kd.Q_nil _ _ _ _ _ | exact Kd.S_nil _ _ _ _ _, by repeat (first | (with_reducible first | exact HB.out | apply below_alloc | apply pw_below_drewN | apply below_drew1) | exact HB.out)⟩
      · replace c6 := Bool.eq_false_iff.mpr c6
        subst c6
        have H1 : (if a1 = true then (loca_Read.j1 kj3 l0 a1 a2 4) else (loca_Read.j1 kj3 l0 a1 a2 2)) = some (r1, r2) := by rw [if_neg (show ¬ (false = true) by decide)] at H; exact H
        clear H
        have H := H1
        clear H1
        have HC7 := Aside0.mk H
        clear H
        go_upto_if 19 with (fail)
        go_cut [8] (fun v8 wc => ∃ (kq : Nat) (x8_6 : Int), v8 = .int .i64 x8_6 ∧ Aside0 (loca_Read.j1 kq l0 a1 a2 x8_6 = some (r1, r2)) ∧ Aside0 (kq ≤ kj3) ∧ Aside0 (Below w.heap.size w wc))
        case first =>
          have H := HC7.out
          clear HC7
          by_cases c8 : a1 = true
          · subst c8
            have H1 : (loca_Read.j1 kj3 l0 true a2 4) = some (r1, r2) := by rw [if_pos rfl] at H; exact H
            clear H
            have H := H1
            clear H1
            have H' := Aside0.mk H
            clear H
            go_wp2
            go_meet
            case rel => exact ⟨_, (4), (by first | rfl | (simp; done) | (simp [*]; done)), H', ⟨by have := HJ3.out; first | omega | exact Nat.le_refl _⟩, ⟨by repeat (first | (with_reducible first | exact HB.out | apply below_alloc | apply pw_below_drewN | apply below_drew1) | exact HB.out)⟩⟩
          · replace c8 := Bool.eq_false_iff.mpr c8
            subst c8
            have H1 : (loca_Read.j1 kj3 l0 false a2 2) = some (r1, r2) := by rw [if_neg (show ¬ (false = true) by decide)] at H; exact H
            clear H
            have H := H1
            clear H1
            have H' := Aside0.mk H
            clear H
            go_wp2
            go_meet
            case rel => exact ⟨_, (2), (by first | rfl | (simp; done) | (simp [*]; done)), H', ⟨by have := HJ3.out; first | omega | exact Nat.le_refl _⟩, ⟨by repeat (first | (with_reducible first | exact HB.out | apply below_alloc | apply pw_below_drewN | apply below_drew1) | exact HB.out)⟩⟩
        case rest =>
          clear HC7
          try clear p2
          try clear c5
          try clear c5b0
          try clear c6
          try clear c8
          try clear p2
          obtain ⟨kq, x8_6, rfl, HA, HJ6, HB⟩ := hcut
          cases kq with
          | zero => exact absurd HA.out (by simp [loca_Read.j1])
          | succ kj6 =>
            have H := HA.out
            clear HA
            simp only [loca_Read.j1] at H
            by_cases c9 : (l0.length : Int) < (wrap64 (x8_6 * (wrap64 (a2 + 1))))
            · rw [if_pos c9] at H
              have c9b0 : decide ((l0.length : Int) < (wrap64 (x8_6 * (wrap64 (a2 + 1))))) = true := decide_eq_true c9
              clear c9
              simp only [Option.some.injEq, Prod.mk.injEq] at H
              obtain ⟨rfl, rfl⟩ := H
              go_wp2
              go_ret2
              exact ⟨_, by first | rfl | (simp [errW_none, errW_some] <;> rfl) | (simp [*, errW_none, errW_some] <;> rfl), by first | exact Kd.R_nil _ _ _ _ _ | exact Kd.N_nil _ _ _ _ _ | exact Kd.V_nil _ _ _ _ _ | exact Kd.Q_nil _ _ _ _ _ | exact Kd.S_nil _ _ _ _ _, by repeat (first | (with_reducible first | exact HB.out | apply below_alloc | apply pw_below_drewN | apply below_drew1) | exact HB.out)⟩
            · rw [if_neg c9] at H
              have c9b0 : decide ((l0.length : Int) < (wrap64 (x8_6 * (wrap64 (a2 + 1))))) = false := decide_eq_false c9
              clear c9
              have H' := Aside0.mk H
              clear H
              go_wp2
              go_loopg [9, 29] kj6 (fun kq v9 v29 w' => ∃ (x9_3 : List Int) (x29_3 : Int), v29 = .int .i64 x29_3 ∧ Aside0 (loca_Read.l0 kq l0 a1 x8_6 x9_3 (wrap64 (a2 + 1)) x29_3 = some (r1, r2)) ∧ Aside0 (kq ≤ kj6) ∧ Aside0 (Kd.R (Kd.int .i64) 3 w' w.heap.size (fun _ => True) v9 x9_3) ∧ Aside0 (Below w.heap.size w w'))
              case atStart => exact ⟨(([] : List Int)), (0), (by first | rfl | (simp; done) | (simp [*]; done)), H', ⟨Nat.le_refl _⟩, ⟨by first | exact Kd.R_nil _ _ _ _ _ | exact Kd.N_nil _ _ _ _ _ | exact Kd.V_nil _ _ _ _ _ | exact Kd.Q_nil _ _ _ _ _ | exact Kd.S_nil _ _ _ _ _⟩, ⟨by repeat (first | (with_reducible first | exact HB.out | apply below_alloc | apply pw_below_drewN | apply below_drew1) | exact HB.out)⟩⟩
              case round =>
                clear H'
                try clear p2
                try clear c5
                try clear c5b0
                try clear c6
                try clear p6
                try clear c8
                try clear c9
                try clear c9b0
                try clear p2
                obtain ⟨x9_3, x29_3, rfl, HA, HK3, HO_9, HB⟩ := hrel
                cases gk with
                | zero => exact absurd HA.out (by simp [loca_Read.l0])
                | succ k3 =>
                  have H := HA.out
                  clear HA
                  simp only [loca_Read.l0] at H
                  by_cases c10 : x29_3 < (wrap64 (a2 + 1))
                  · rw [if_pos c10] at H
                    have c10b0 : decide (x29_3 < (wrap64 (a2 + 1))) = true := decide_eq_true c10
                    clear c10
                    replace H := Option.bind_eq_some_iff.mp H
                    obtain ⟨⟨t383, t384⟩, A110, H⟩ := H
                    replace H : (if a1 = true then (if x9_3.length < 17592186044416 then (loca_Read.l0 k3 l0 a1 x8_6 (x9_3 ++ [t383]) (wrap64 (a2 + 1)) (wrap64 (x29_3 + 1))) else (none)) else (if x9_3.length < 17592186044416 then (loca_Read.l0 k3 l0 a1 x8_6 (x9_3 ++ [wrap64 (t383 * 2)]) (wrap64 (a2 + 1)) (wrap64 (x29_3 + 1))) else (none))) = some (r1, r2) := H
                    have A11 := Aside0.mk A110
                    clear A110
                    by_cases c12 : a1 = true
                    · subst c12
                      have H1 : (if x9_3.length < 17592186044416 then (loca_Read.l0 k3 l0 true x8_6 (x9_3 ++ [t383]) (wrap64 (a2 + 1)) (wrap64 (x29_3 + 1))) else (none)) = some (r1, r2) := by rw [if_pos rfl] at H; exact H
                      clear H
                      have H := H1
                      clear H1
                      by_cases c13 : x9_3.length < 17592186044416
                      · rw [if_pos c13] at H
                        have LMc13 := Aside0.mk c13
                        clear c13
                        obtain ⟨y385, hy385⟩ : ∃ y_ : List Int, y_ = (x9_3 ++ [t383]) := ⟨_, rfl⟩
                        replace H : (loca_Read.l0 k3 l0 true x8_6 y385 (wrap64 (a2 + 1)) (wrap64 (x29_3 + 1))) = some (r1, r2) := by first | (rw [hy385]; with_reducible exact H) | (have H2_ := (Option.bind_some _ _).symm.trans H; rw [hy385]; with_reducible exact H2_) | (have H2_ := (Option.bind_some _ _).symm.trans H; with_reducible exact H2_) | with_reducible exact H | (rw [hy385]; exact H) | exact H
                        have Ny385 := Aside0.mk hy385
                        clear hy385
                        have H' := Aside0.mk H
                        clear H
                        go_wp2_with (first | ((with_reducible refine gate_callee (f := 36) rfl ?_); refine goesL_ (some 38) rfl rfl Try.func36 (by kernel_rfl) rfl #[.slice A0 l0.length c0, .int .i64 (wrap64 (x29_3 * x8_6)), .int .i64 x8_6] rfl (by (try simp only [List.map_toArray, List.map_cons, List.map_nil]); first | done | rfl | (simp only [List.length_drop, List.length_take]; rfl)) ?_; (with_reducible refine (be_U.calls _ _ l0 (wrap64 (x29_3 * x8_6)) x8_6 t383 t384 _ ?side1 ?side2 A11.out).mono ?_); (case side1 => repeat (first | exact (Kd.C_below HR0.out HB.out) | (with_reducible refine Kd.C_alloc ?_ _) | (with_reducible refine Kd.C_drewN ?_ _) | (with_reducible refine Kd.C_drew ?_))); (case side2 => exact HC0.out); rintro e w' ⟨rfl, ⟨nd, rfl⟩⟩; refine ⟨_, rfl, ?_⟩) | ((with_reducible refine gate_builtin (b := .append) (xs := #[.tmp 45, .tmp 47]) rfl ?_); at_builtin; refine Kd.R_append (Kd.int .i64) (w0 := w) w.heap.size rfl (.tmp 45) (.tmp 47) 61 3 (.int .i64 0) 8 rfl Try.underlying61 info3 rfl (by decide) (by omega) u9 x9_3 t383 [.int .i64 t383] (fun _ => True) (fun _ => False) rfl rfl ?aP (fun _ hk => hk.elim) ?aF ?aO ?aB ?aS ?aL ?_; (case aP => exact rfl); (case aB => exact (by repeat (first | (with_reducible first | exact HB.out | apply below_alloc | apply pw_below_drewN | apply below_drew1) | exact HB.out))); (case aF => exact (fun _ _ => trivial)); (case aO => exact (by (with_reducible repeat (first | apply Kd.R_alloc | apply Kd.R_drewN | apply Kd.R_drew)); exact HO_9.out)); (case aS => exact (below_size (by repeat (first | (with_reducible first | exact HB.out | apply below_alloc | apply pw_below_drewN | apply below_drew1) | exact HB.out)))); (case aL => have := LMc13.out; omega); intro v386 w14 ho hb hg hat; rw [← Ny385.out] at ho; have n0_ := Aside0.mk (hb); have n1_ := Aside0.mk (ho); clear HB; clear HO_9; have HB := n0_; have HO387 := n1_; clear n0_ n1_; clear ho hb hg hat))
                        go_roundg k3
                        case measure => have := HJ3.out; have := HJ6.out; have := HK3.out; omega
                        case rel => exact ⟨(y385), (wrap64 (x29_3 + 1)), (by first | rfl | (simp; done) | (simp [*]; done)), H', ⟨by have := HJ3.out; have := HJ6.out; have := HK3.out; omega⟩, ⟨by (with_reducible repeat (first | apply Kd.R_alloc | apply Kd.R_drewN | apply Kd.R_drew)); exact HO387.out⟩, ⟨by repeat (first | (with_reducible first | exact HB.out | apply below_alloc | apply pw_below_drewN | apply below_drew1) | exact HB.out)⟩⟩
                      · rw [if_neg c13] at H
                        exact absurd H (by simp)
                    · replace c12 := Bool.eq_false_iff.mpr c12
                      subst c12
                      have H1 : (if x9_3.length < 17592186044416 then (loca_Read.l0 k3 l0 false x8_6 (x9_3 ++ [wrap64 (t383 * 2)]) (wrap64 (a2 + 1)) (wrap64 (x29_3 + 1))) else (none)) = some (r1, r2) := by rw [if_neg (show ¬ (false = true) by decide)] at H; exact H
                      clear H
                      have H := H1
                      clear H1
                      by_cases c15 : x9_3.length < 17592186044416
                      · rw [if_pos c15] at H
                        have LMc15 := Aside0.mk c15
                        clear c15
                        obtain ⟨y388, hy388⟩ : ∃ y_ : List Int, y_ = (x9_3 ++ [wrap64 (t383 * 2)]) := ⟨_, rfl⟩
                        replace H : (loca_Read.l0 k3 l0 false x8_6 y388 (wrap64 (a2 + 1)) (wrap64 (x29_3 + 1))) = some (r1, r2) := by first | (rw [hy388]; with_reducible exact H) | (have H2_ := (Option.bind_some _ _).symm.trans H; rw [hy388]; with_reducible exact H2_) | (have H2_ := (Option.bind_some _ _).symm.trans H; with_reducible exact H2_) | with_reducible exact H | (rw [hy388]; exact H) | exact H
                        have Ny388 := Aside0.mk hy388
                        clear hy388
                        have H' := Aside0.mk H
                        clear H
                        go_wp2_with (first | ((with_reducible refine gate_callee (f := 36) rfl ?_); refine goesL_ (some 38) rfl rfl Try.func36 (by kernel_rfl) rfl #[.slice A0 l0.length c0, .int .i64 (wrap64 (x29_3 * x8_6)), .int .i64 x8_6] rfl (by (try simp only [List.map_toArray, List.map_cons, List.map_nil]); first | done | rfl | (simp only [List.length_drop, List.length_take]; rfl)) ?_; (with_reducible refine (be_U.calls _ _ l0 (wrap64 (x29_3 * x8_6)) x8_6 t383 t384 _ ?side1 ?side2 A11.out).mono ?_); (case side1 => repeat (first | exact (Kd.C_below HR0.out HB.out) | (with_reducible refine Kd.C_alloc ?_ _) | (with_reducible refine Kd.C_drewN ?_ _) | (with_reducible refine Kd.C_drew ?_))); (case side2 => exact HC0.out); rintro e w' ⟨rfl, ⟨nd, rfl⟩⟩; refine ⟨_, rfl, ?_⟩) | ((with_reducible refine gate_builtin (b := .append) (xs := #[.tmp 45, .tmp 47]) rfl ?_); at_builtin; refine Kd.R_append (Kd.int .i64) (w0 := w) w.heap.size rfl (.tmp 45) (.tmp 47) 61 3 (.int .i64 0) 8 rfl Try.underlying61 info3 rfl (by decide) (by omega) u9 x9_3 (wrap64 (t383 * 2)) [.int .i64 (wrap64 (t383 * 2))] (fun _ => True) (fun _ => False) rfl rfl ?aP (fun _ hk => hk.elim) ?aF ?aO ?aB ?aS ?aL ?_; (case aP => exact rfl); (case aB => exact (by repeat (first | (with_reducible first | exact HB.out | apply below_alloc | apply pw_below_drewN | apply below_drew1) | exact HB.out))); (case aF => exact (fun _ _ => trivial)); (case aO => exact (by (with_reducible repeat (first | apply Kd.R_alloc | apply Kd.R_drewN | apply Kd.R_drew)); exact HO_9.out)); (case aS => exact (below_size (by repeat (first | (with_reducible first | exact HB.out | apply below_alloc | apply pw_below_drewN | apply below_drew1) | exact HB.out)))); (case aL => have := LMc15.out; omega); intro v389 w16 ho hb hg hat; rw [← Ny388.out] at ho; have n0_ := Aside0.mk (hb); have n1_ := Aside0.mk (ho); clear HB; clear HO_9; have HB := n0_; have HO390 := n1_; clear n0_ n1_; clear ho hb hg hat))
                        go_roundg k3
                        case measure => have := HJ3.out; have := HJ6.out; have := HK3.out; omega
                        case rel => exact ⟨(y388), (wrap64 (x29_3 + 1)), (by first | rfl | (simp; done) | (simp [*]; done)), H', ⟨by have := HJ3.out; have := HJ6.out; have := HK3.out; omega⟩, ⟨by (with_reducible repeat (first | apply Kd.R_alloc | apply Kd.R_drewN | apply Kd.R_drew)); exact HO390.out⟩, ⟨by repeat (first | (with_reducible first | exact HB.out | apply below_alloc | apply pw_below_drewN | apply below_drew1) | exact HB.out)⟩⟩
                      · rw [if_neg c15] at H
                        exact absurd H (by simp)
                  · rw [if_neg c10] at H
                    have c10b0 : decide (x29_3 < (wrap64 (a2 + 1))) = false := decide_eq_false c10
                    clear c10
                    replace H := Option.bind_eq_some_iff.mp H
                    obtain ⟨t391, A170, H⟩ := H
                    replace H : (if t391 = true then (some (x9_3, 0)) else (some (([] : List Int), 12))) = some (r1, r2) := H
                    have A17 := Aside0.mk A170
                    clear A170
                    by_cases c18 : t391 = true
                    · subst c18
                      have H1 : (some (x9_3, 0)) = some (r1, r2) := by rw [if_pos rfl] at H; exact H
                      clear H
                      have H := H1
                      clear H1
                      simp only [Option.some.injEq, Prod.mk.injEq] at H
                      obtain ⟨rfl, rfl⟩ := H
                      obtain ⟨Ao19, co19, eo19⟩ := Kd.R_slice HO_9.out
                      subst eo19
                      go_wp2_with (first | ((with_reducible refine gate_callee (f := 85) rfl ?_); refine goesL_ (some 51) rfl rfl Try.func85 (by kernel_rfl) rfl #[.slice Ao19 x9_3.length co19] rfl (by (try simp only [List.map_toArray, List.map_cons, List.map_nil]); first | done | rfl | (simp only [List.length_drop, List.length_take]; rfl)) ?_; (with_reducible refine (slices_IsSorted_int_int.calls k3 _ _ x9_3 true _ ?side1 ?side2 A17.out).mono ?_); (case side1 => repeat (first | exact (Kd.R_reads' HO_9.out).2.2 | (with_reducible refine Kd.C_alloc ?_ _) | (with_reducible refine Kd.C_drewN ?_ _) | (with_reducible refine Kd.C_drew ?_))); (case side2 => exact (Kd.R_reads' HO_9.out).2.1); rintro e w' ⟨rfl, ⟨nd, rfl⟩⟩; refine ⟨_, rfl, ?_⟩))
                      go_ret2
                      exact ⟨_, by first | rfl | (simp [errW_none, errW_some] <;> rfl) | (simp [*, errW_none, errW_some] <;> rfl), by (with_reducible repeat (first | apply Kd.R_alloc | apply Kd.R_drewN | apply Kd.R_drew)); exact HO_9.out, by repeat (first | (with_reducible first | exact HB.out | apply below_alloc | apply pw_below_drewN | apply below_drew1) | exact HB.out)⟩
                    · replace c18 := Bool.eq_false_iff.mpr c18
                      subst c18
                      have H1 : (some (([] : List Int), 12)) = some (r1, r2) := by rw [if_neg (show ¬ (false = true) by decide)] at H; exact H
                      clear H
                      have H := H1
                      clear H1
                      simp only [Option.some.injEq, Prod.mk.injEq] at H
                      obtain ⟨rfl, rfl⟩ := H
                      obtain ⟨Ao20, co20, eo20⟩ := Kd.R_slice HO_9.out
                      subst eo20
                      go_wp2_with (first | ((with_reducible refine gate_callee (f := 85) rfl ?_); refine goesL_ (some 51) rfl rfl Try.func85 (by kernel_rfl) rfl #[.slice Ao20 x9_3.length co20] rfl (by (try simp only [List.map_toArray, List.map_cons, List.map_nil]); first | done | rfl | (simp only [List.length_drop, List.length_take]; rfl)) ?_; (with_reducible refine (slices_IsSorted_int_int.calls k3 _ _ x9_3 false _ ?side1 ?side2 A17.out).mono ?_); (case side1 => repeat (first | exact (Kd.R_reads' HO_9.out).2.2 | (with_reducible refine Kd.C_alloc ?_ _) | (with_reducible refine Kd.C_drewN ?_ _) | (with_reducible refine Kd.C_drew ?_))); (case side2 => exact (Kd.R_reads' HO_9.out).2.1); rintro e w' ⟨rfl, ⟨nd, rfl⟩⟩; refine ⟨_, rfl, ?_⟩))
                      go_ret2
                      exact ⟨_, by first | rfl | (simp [errW_none, errW_some] <;> rfl) | (simp [*, errW_none, errW_some] <;> rfl), by first | exact Kd.R_nil _ _ _ _ _ | exact Kd.N_nil _ _ _ _ _ | exact Kd.V_nil _ _ _ _ _ | exact Kd.Q_nil _ _ _ _ _ | exact Kd.S_nil _ _ _ _ _, by repeat (first | (with_reducible first | exact HB.out | apply below_alloc | apply pw_below_drewN | apply below_drew1) | exact HB.out)⟩

end Go.Proofs.Ytcclmaicdmogjaa.P

-- Written by wip/pr.py over the kit's print
namespace Go.Proofs.Ytcclmaicdmogjaa.P
open Go.RowKit Go.Proofs.YtcclmaicdmogjaaW.PrintWords Go.Proofs.YtcclmaicdmogjaaW.PrintLast Go.Proofs.YtcclmaicdmogjaaW.PrintMore
attribute [local go_sem] max2_int min2_int max_two min_two max_three min_three max_four min_four   -- for this text's walks alone
set_option linter.unusedVariables false
set_option linter.unusedSimpArgs false

/-! ### calamusref02_Ints: function 53 -/
def calamusref02_Ints.l0 : Nat → List Int → List Int → Int → Int → Option (Bool)
  | 0, _, _, _, _ => none
  | k + 1, x0, x1, x12, x13 => if x13 < x12 then (if 0 ≤ x13 then (if x13 < (x0.length : Int) then (if x13 < (x1.length : Int) then (if (rd x0 x13) = (rd x1 x13) then (calamusref02_Ints.l0 k x0 x1 x12 (wrap64 (x13 + 1))) else (some false)) else (none)) else (none)) else (none)) else (some true)
def calamusref02_Ints.f (k : Nat) (l0 : List Int) (l1 : List Int) : Option (Bool) := if (l0.length : Int) = (l1.length : Int) then (calamusref02_Ints.l0 k l0 l1 (l0.length : Int) 0) else (some false)
theorem calamusref02_Ints.mono_l : ∀ k, (∀ y0 y1 y2 y3, LeO (calamusref02_Ints.l0 k y0 y1 y2 y3) (calamusref02_Ints.l0 (k + 1) y0 y1 y2 y3))
  | 0 => fun _ _ _ _ r h => by simp [calamusref02_Ints.l0] at h
  | k + 1 => by
    have ih0 := calamusref02_Ints.mono_l k
    · intro y0 y1 y2 y3
      unfold calamusref02_Ints.l0
      repeat' first
      | (with_reducible exact ih0 _ _ _ _)
      | (with_reducible exact LeO.refl _)
      | (with_reducible exact LeO.none _)
      | (with_reducible refine LeO.ite ?_ ?_)
      | (with_reducible refine LeO.bind ?_ (fun _ => ?_))
      | exact ih0 _ _ _ _
      | exact LeO.none _
      | refine LeO.ite ?_ ?_
      | refine LeO.bind ?_ (fun _ => ?_)
theorem calamusref02_Ints.mono : ∀ a0 a1 k, LeO (calamusref02_Ints.f k a0 a1) (calamusref02_Ints.f (k + 1) a0 a1) := by
  intro a0 a1 k
  have ih0 := calamusref02_Ints.mono_l k
  unfold calamusref02_Ints.f
  repeat' first
      | (with_reducible exact ih0 _ _ _ _)
      | (with_reducible exact LeO.refl _)
      | (with_reducible exact LeO.none _)
      | (with_reducible refine LeO.ite ?_ ?_)
      | (with_reducible refine LeO.bind ?_ (fun _ => ?_))
      | exact ih0 _ _ _ _
      | exact LeO.none _
      | refine LeO.ite ?_ ?_
      | refine LeO.bind ?_ (fun _ => ?_)
set_option maxHeartbeats 8000000 in
set_option maxRecDepth 100000 in
theorem calamusref02_Ints.calls (k : Nat) (A0 : Option Addr) (c0 : Nat) (l0 : List Int) (A1 : Option Addr) (c1 : Nat) (l1 : List Int) (r : Bool) (w : World) (hr0 : Kd.C (Kd.int .i64) w A0 l0.length l0) (hc0 : l0.length ≤ c0) (hr1 : Kd.C (Kd.int .i64) w A1 l1.length l1) (hc1 : l1.length ≤ c1) (h : calamusref02_Ints.f k l0 l1 = some r) :
    Calls Try.prog 53 #[.slice A0 l0.length c0, .slice A1 l1.length c1] w fun e w' => e = .returned (.bool r) ∧ Drawn0 w w' := by
  have HR0 := Aside0.mk hr0
  have HC0 := Aside0.mk hc0
  clear hr0 hc0
  have HR1 := Aside0.mk hr1
  have HC1 := Aside0.mk hc1
  clear hr1 hc1
  have H : (if (l0.length : Int) = (l1.length : Int) then (calamusref02_Ints.l0 k l0 l1 (l0.length : Int) 0) else (some false)) = some r := h
  clear h
  by_cases c3 : (l0.length : Int) = (l1.length : Int)
  · rw [if_pos c3] at H
    have c3b0 : ((l0.length : Int) == (l1.length : Int)) = true := beq_iff_eq.mpr c3
    have c3b1 : ((l0.length : Int) != (l1.length : Int)) = false := bne_eq_false_iff_eq.mpr c3
    have c3b2 : (l0.length == l1.length) = true := by first | simpa using c3 | (simp at c3 ⊢; omega)
    clear c3
    have H' := Aside0.mk H
    clear H
    go_enter Try.func53, Try.ntmps53
    go_wp2
    repeat (go_quiet (fail); try go_wp2)
    go_loopg [13] k (fun kq v13 w' => ∃ (x13_1 : Int), v13 = .int .i64 x13_1 ∧ Aside0 (calamusref02_Ints.l0 kq l0 l1 (l0.length : Int) x13_1 = some r) ∧ Aside0 (kq ≤ k) ∧ Drawn0 w w')
    case atStart => exact ⟨(0), (by first | rfl | (simp; done) | (simp [*]; done)), H', ⟨Nat.le_refl _⟩, by repeat (first | exact Drawn0.refl _ | apply Drawn0.step)⟩
    case round =>
      clear H'
      try clear c1
      try clear p2
      try clear c3
      try clear c3b0
      try clear c3b1
      try clear c3b2
      obtain ⟨x13_1, rfl, HA, HK1, ⟨m1, rfl⟩⟩ := hrel
      cases gk with
      | zero => exact absurd HA.out (by simp [calamusref02_Ints.l0])
      | succ k1 =>
        have H := HA.out
        clear HA
        simp only [calamusref02_Ints.l0] at H
        by_cases c4 : x13_1 < (l0.length : Int)
        · rw [if_pos c4] at H
          have c4b0 : decide (x13_1 < (l0.length : Int)) = true := decide_eq_true c4
          clear c4
          by_cases c5 : 0 ≤ x13_1
          · rw [if_pos c5] at H
            have c5b0 : decide (0 ≤ x13_1) = true := decide_eq_true c5
            clear c5
            by_cases c6 : x13_1 < (l0.length : Int)
            · rw [if_pos c6] at H
              have c6b0 : decide (x13_1 < (l0.length : Int)) = true := decide_eq_true c6
              clear c6
              by_cases c7 : x13_1 < (l1.length : Int)
              · rw [if_pos c7] at H
                have c7b0 : decide (x13_1 < (l1.length : Int)) = true := decide_eq_true c7
                clear c7
                by_cases c8 : (rd l0 x13_1) = (rd l1 x13_1)
                · rw [if_pos c8] at H
                  have c8b0 : ((rd l0 x13_1) == (rd l1 x13_1)) = true := beq_iff_eq.mpr c8
                  have c8b1 : ((rd l0 x13_1) != (rd l1 x13_1)) = false := bne_eq_false_iff_eq.mpr c8
                  clear c8
                  have H' := Aside0.mk H
                  clear H
                  have p392 : 0 ≤ (x13_1 : Int) := of_decide_eq_true (by first | (with_reducible assumption) | assumption)
                  have q392 : x13_1 < (l0.length : Int) := of_decide_eq_true (by first | (with_reducible assumption) | assumption)
                  obtain ⟨ad392, e392, hx392_0⟩ := Kd.at_int HR0.out x13_1 p392 q392
                  cases e392
                  replace p392 := eq_true p392
                  replace q392 := eq_true q392
                  have p393 : 0 ≤ (x13_1 : Int) := of_decide_eq_true (by first | (with_reducible assumption) | assumption)
                  have q393 : x13_1 < (l1.length : Int) := of_decide_eq_true (by first | (with_reducible assumption) | assumption)
                  obtain ⟨ad393, e393, hx393_0⟩ := Kd.at_int HR1.out x13_1 p393 q393
                  cases e393
                  replace p393 := eq_true p393
                  replace q393 := eq_true q393
                  go_wp2
                  repeat (go_quiet (fail); try go_wp2)
                  go_roundg k1
                  case measure => have := HK1.out; omega
                  case rel => exact ⟨(wrap64 (x13_1 + 1)), (by first | rfl | (simp; done) | (simp [*]; done)), H', ⟨by have := HK1.out; omega⟩, by repeat (first | exact Drawn0.refl _ | apply Drawn0.step)⟩
                · rw [if_neg c8] at H
                  have c8b0 : ((rd l0 x13_1) == (rd l1 x13_1)) = false := beq_eq_false_iff_ne.mpr c8
                  have c8b1 : ((rd l0 x13_1) != (rd l1 x13_1)) = true := bne_iff_ne.mpr c8
                  obtain rfl := Option.some.inj H
                  have p392 : 0 ≤ (x13_1 : Int) := of_decide_eq_true (by first | (with_reducible assumption) | assumption)
                  have q392 : x13_1 < (l0.length : Int) := of_decide_eq_true (by first | (with_reducible assumption) | assumption)
                  obtain ⟨ad392, e392, hx392_0⟩ := Kd.at_int HR0.out x13_1 p392 q392
                  cases e392
                  replace p392 := eq_true p392
                  replace q392 := eq_true q392
                  have p393 : 0 ≤ (x13_1 : Int) := of_decide_eq_true (by first | (with_reducible assumption) | assumption)
                  have q393 : x13_1 < (l1.length : Int) := of_decide_eq_true (by first | (with_reducible assumption) | assumption)
                  obtain ⟨ad393, e393, hx393_0⟩ := Kd.at_int HR1.out x13_1 p393 q393
                  cases e393
                  replace p393 := eq_true p393
                  replace q393 := eq_true q393
                  go_wp2
                  repeat (go_quiet (fail); try go_wp2)
                  go_ret
                  exact ⟨by first | rfl | (simp; done) | (simp [*]; done), by repeat (first | exact Drawn0.refl _ | apply Drawn0.step)⟩
              · rw [if_neg c7] at H
                exact absurd H (by simp)
            · rw [if_neg c6] at H
              exact absurd H (by simp)
          · rw [if_neg c5] at H
            exact absurd H (by simp)
        · rw [if_neg c4] at H
          have c4b0 : decide (x13_1 < (l0.length : Int)) = false := decide_eq_false c4
          clear c4
          obtain rfl := Option.some.inj H
          go_wp2
          repeat (go_quiet (fail); try go_wp2)
          go_ret
          exact ⟨by first | rfl | (simp; done) | (simp [*]; done), by repeat (first | exact Drawn0.refl _ | apply Drawn0.step)⟩
  · rw [if_neg c3] at H
    have c3b0 : ((l0.length : Int) == (l1.length : Int)) = false := beq_eq_false_iff_ne.mpr c3
    have c3b1 : ((l0.length : Int) != (l1.length : Int)) = true := bne_iff_ne.mpr c3
    have c3b2 : (l0.length == l1.length) = false := by first | simpa using c3 | (simp at c3 ⊢; omega)
    obtain rfl := Option.some.inj H
    go_enter Try.func53, Try.ntmps53
    go_wp2
    repeat (go_quiet (fail); try go_wp2)
    go_ret
    exact ⟨by first | rfl | (simp; done) | (simp [*]; done), by repeat (first | exact Drawn0.refl _ | apply Drawn0.step)⟩

end Go.Proofs.Ytcclmaicdmogjaa.P

-- Written by wip/pr.py over the kit's print
namespace Go.Proofs.Ytcclmaicdmogjaa.P
open Go.RowKit Go.Proofs.YtcclmaicdmogjaaW.PrintWords Go.Proofs.YtcclmaicdmogjaaW.PrintLast Go.Proofs.YtcclmaicdmogjaaW.PrintMore
attribute [local go_sem] max2_int min2_int max_two min_two max_three min_three max_four min_four   -- for this text's walks alone
set_option linter.unusedVariables false
set_option linter.unusedSimpArgs false

/-! ### be_Put: function 40 (by hand) -/
-- FUNC calamus/be.Put
-- ROUNDS no
-- MAKES yes
-- INFO uint8
def be_Put.f (a0 : Int) (a1 : Int) : Option (List Int) := if inI a0 ∧ inI a1 then some (putB a0 (widthB a1)) else none
set_option maxHeartbeats 8000000 in
set_option maxRecDepth 100000 in
theorem be_Put.calls (a0 : Int) (a1 : Int) (r : List Int) (w : World) (h : be_Put.f a0 a1 = some r) :
    Calls Try.prog 40 #[.int .i64 a0, .int .i64 a1] w fun e w' => ∃ v0_ : Value, e = .returned (v0_) ∧ Kd.R (Kd.int .u8) 5 w' w.heap.size (fun _ => True) v0_ r ∧ Below w.heap.size w w' := by
  unfold be_Put.f at h
  split at h
  case isFalse => cases h
  rename_i hg
  obtain ⟨⟨hi01, hi02⟩, ⟨hi11, hi12⟩⟩ := hg
  have HR := Aside0.mk (Option.some.inj h)
  clear h
  have HB := Aside0.mk (Below.refl w.heap.size w)
  obtain ⟨j, hj⟩ : ∃ j : Int, (if 8 < a1 then 8 else a1) = j := ⟨_, rfl⟩
  obtain ⟨W, hW⟩ : ∃ W : Nat, (if 0 < j then j else 0) = (W : Int) := ⟨(if 0 < j then j else 0).toNat, by split <;> omega⟩
  have HW := Aside0.mk (show widthB a1 = W by unfold widthB; rw [← hj] at hW; revert hW; (repeat' split) <;> omega)
  have hW8 : W ≤ 8 := by rw [← hj] at hW; revert hW; (repeat' split) <;> omega
  go_enter Try.func40, Try.ntmps40
  go_wp2_with (first | ((with_reducible refine gate_dst (N := 11) rfl ?_); refine Kd.R_make (Kd.int .u8) _ 5 rfl (N := 11) rfl 23 _ _ rfl (W : Int) rfl rfl Try.underlying23 (.int .u8 0) 1 info5 rfl (by decide) (by omega) 0 (ok := fun _ => True) (okp := fun _ => True) rfl (fun _ hk => hk) trivial (by omega) (by omega) (Below.refl _ _) (Nat.le_refl _) ?_; intro v188 w7 ho8 hb hg_ hnew_; clear hg_ hnew_; have HO := Aside0.mk (Kd.R_lower ho8 (below_size HB.out)); have HB2 := Aside0.mk (below_step HB.out hb); clear HB hb ho8))
  obtain ⟨xs, hxs⟩ : ∃ xs : List Int, xs = List.replicate W 0 := ⟨_, rfl⟩
  have HO1 : Aside0 (Kd.R (Kd.int .u8) 5 w7 w.heap.size (fun _ => True) v188 xs) := ⟨by rw [hxs]; exact HO.out⟩
  clear HO
  have HX := Aside0.mk hxs
  clear hxs
  by_cases hW0 : W = 0
  · subst hW0
    refine wp_loop_rounds 1 ?_
    rw [rounds_succ]
    go_wp2
    go_ret
    refine ⟨_, rfl, ?_, HB2.out⟩
    have := HO1.out
    rw [← HR.out, HW.out]
    rw [HX.out] at this
    simpa [putB] using this
  · obtain ⟨g, cap, hv, hgb, hgl, hgc⟩ := Kd.R_form HO1.out (by rw [HX.out]; simp; omega)
    have hlen : xs.length = W := by rw [HX.out]; simp
    rw [hlen] at hv
    subst hv
    have HG := Aside0.mk hgb
    clear hgb hgl hgc hlen
    go_loopg [6, 13] W (fun kq v6 v13 w' => ∃ (k : Nat), v13 = .int .i64 (k : Int) ∧ k ≤ W ∧ Aside0 (W - k = kq) ∧ Aside0 (Kd.R (Kd.int .u8) 5 w' w.heap.size (fun _ => True) (.slice (some ⟨g, 0, none⟩) W cap) (List.replicate (W - k) 0 ++ putB a0 k)) ∧ Aside0 (Below w.heap.size w w'))
    case atStart => exact ⟨0, rfl, by omega, ⟨rfl⟩, ⟨by have := HO1.out; rw [HX.out] at this; simpa [putB] using this⟩, HB2⟩
    case round =>
      obtain ⟨k, rfl, hk, HK, HO2, HB3⟩ := hrel
      by_cases hkl : k < W
      · obtain ⟨hx, hf⟩ := Kd.R_celln 0 HO2.out ((W - 1 - k : Nat) : Int) (by omega) (by omega)
        have hx2 : ∃ y, wr.cell? ⟨g, W - 1 - k, none⟩ = some (.int .u8 y) := ⟨_, by simpa using hx⟩
        have hf2 : wr.frozen? ⟨g, W - 1 - k, none⟩ = false := by simpa using hf
        clear hx hf
        obtain ⟨y, hx⟩ := hx2
        go_wp2
        go_roundg (W - (k + 1))
        case measure => have := HK.out; omega
        case rel => exact ⟨k + 1, by go_num, by omega, ⟨rfl⟩, ⟨put_stored HO2.out hkl rfl⟩, ⟨below_set HB3.out HG.out⟩⟩
      · obtain rfl : k = W := by omega
        go_wp2
        go_ret
        refine ⟨_, rfl, ?_, HB3.out⟩
        have := HO2.out
        rw [← HR.out, HW.out]
        simpa using this


end Go.Proofs.Ytcclmaicdmogjaa.P

-- Written by wip/pr.py over the kit's print
namespace Go.Proofs.Ytcclmaicdmogjaa.P
open Go.RowKit Go.Proofs.YtcclmaicdmogjaaW.PrintWords Go.Proofs.YtcclmaicdmogjaaW.PrintLast Go.Proofs.YtcclmaicdmogjaaW.PrintMore
attribute [local go_sem] max2_int min2_int max_two min_two max_three min_three max_four min_four   -- for this text's walks alone
set_option linter.unusedVariables false
set_option linter.unusedSimpArgs false

/-! ### loca_Write: function 54 (by hand) -/
-- FUNC calamus/loca.Write
-- ROUNDS no
-- MAKES yes
-- INFO uint8
/-- The first place (told from k on) of what p says; -1: nowhere. -/
def idxFrom {α : Type} (p : α → Bool) : List α → Int → Int
  | [], _ => -1
  | x :: r, k => if p x then k else idxFrom p r (k + 1)
theorem idxFrom_any {α : Type} (p : α → Bool) (l : List α) : ∀ k, 0 ≤ k → decide (0 ≤ idxFrom p l k) = l.any p := by
  induction l with
  | nil => intro k _; rfl
  | cons x r ih =>
    intro k hk
    simp only [idxFrom, List.any_cons]
    by_cases hp : p x = true
    · simp [hp, hk]
    · simp [hp, ih (k + 1) (by omega)]
def pw1 (x : Int) : Bool := decide (4294967295 < x)
def pw2 (x : Int) : Bool := decide (x % 2 = 1 ∨ 131070 < x)
/-- Never falling. -/
def ordB : List Int → Bool
  | a :: b :: r => decide (a ≤ b) && ordB (b :: r)
  | _ => true
def chk (x : List Int) : Nat → Bool
  | 0 => true
  | i + 1 => decide (x.getD i 0 ≤ x.getD (i + 1) 0) && chk x i
theorem chk_cons (a : Int) (x : List Int) (i : Nat) : chk (a :: x) (i + 1) = (decide (a ≤ x.getD 0 0) && chk x i) := by
  induction i with
  | zero => simp [chk]
  | succ i ih =>
    rw [chk, ih]
    simp only [chk, List.getD_cons_succ]
    cases decide (x.getD i 0 ≤ x.getD (i + 1) 0) <;> cases decide (a ≤ x.getD 0 0) <;> simp
theorem ordB_chk (l : List Int) : ordB l = chk l (l.length - 1) := by
  induction l with
  | nil => rfl
  | cons a l ih =>
    cases l with
    | nil => rfl
    | cons b r =>
      rw [show (a :: b :: r).length - 1 = ((b :: r).length - 1) + 1 by simp, chk_cons, ← ih]
      rfl
theorem issorted_loop (x : List Int) (hm : x.length ≤ 9223372036854775807) (i : Nat) : ∀ k, i < x.length → i < k → slices_IsSorted_int_int.l0 k x (i : Int) = some (chk x i) := by
  induction i with
  | zero =>
    intro k _ hk
    obtain ⟨k, rfl⟩ : ∃ m, k = m + 1 := ⟨k - 1, by omega⟩
    simp only [slices_IsSorted_int_int.l0]
    rw [if_neg (by omega)]; rfl
  | succ i ih =>
    intro k hi hk
    obtain ⟨k, rfl⟩ : ∃ m, k = m + 1 := ⟨k - 1, by omega⟩
    simp only [slices_IsSorted_int_int.l0]
    rw [IntWalk.wrap64_in _ ⟨by omega, by omega⟩, if_pos (by omega), if_pos (by omega), if_pos (by omega), if_pos (by omega), if_pos (by omega)]
    have e1 : rd x ((i + 1 : Nat) : Int) = x.getD (i + 1) 0 := rfl
    have e2 : rd x (((i + 1 : Nat) : Int) - 1) = x.getD i 0 := by rw [show ((i + 1 : Nat) : Int) - 1 = (i : Int) by omega]; rfl
    rw [e1, e2]
    simp only [cmp_Less_int.f, cmp_isNaN_int.f, bne_self_eq_false, Option.bind_some, Bool.false_eq_true, if_false, chk]
    by_cases h : x.getD i 0 ≤ x.getD (i + 1) 0
    · rw [if_neg (show ¬ decide (x.getD (i + 1) 0 < x.getD i 0) = true by rw [decide_eq_true_eq]; omega), show ((i + 1 : Nat) : Int) - 1 = (i : Int) by omega, ih k (by omega) (by omega), decide_eq_true h]
      rfl
    · rw [if_pos (show decide (x.getD (i + 1) 0 < x.getD i 0) = true by rw [decide_eq_true_eq]; omega), decide_eq_false h]
      rfl
theorem issorted_eq (x : List Int) (hm : x.length ≤ 9223372036854775807) (k : Nat) (hk : x.length < k) : slices_IsSorted_int_int.f k x = some (ordB x) := by
  unfold slices_IsSorted_int_int.f
  rw [IntWalk.wrap64_in _ ⟨by omega, by omega⟩, ordB_chk]
  by_cases h0 : x.length = 0
  · obtain ⟨k, rfl⟩ : ∃ m, k = m + 1 := ⟨k - 1, by omega⟩
    simp only [slices_IsSorted_int_int.l0, h0]
    rfl
  · rw [show (x.length : Int) - 1 = ((x.length - 1 : Nat) : Int) by omega]
    exact issorted_loop x hm _ k (by omega) (by omega)
theorem i64_and1 (x : Int) (h0 : 0 ≤ x) (h1 : x ≤ 9223372036854775807) : bits .and .i64 x 1 = x % 2 := by
  have := bits_mask .i64 63 (by decide) (fun n h0 h1 => by rw [IntKind.wrap_i64]; omega) 1 (by decide) x h0 (by omega)
  simpa using this
set_option maxHeartbeats 400000 in
theorem Write1_any (x : Int) (w : World) : Calls Try.prog 87 #[.int .i64 x] w fun e w' => e = .returned (.bool (pw1 x)) ∧ w' = w := by
  go_enter Try.func87, Try.ntmps87
  go_wp2
  go_ret
  exact ⟨rfl, rfl⟩
set_option maxHeartbeats 400000 in
theorem Write2_any (x : Int) (h0 : 0 ≤ x) (h1 : x ≤ 9223372036854775807) (w : World) : Calls Try.prog 88 #[.int .i64 x] w fun e w' => e = .returned (.bool (pw2 x)) ∧ w' = w := by
  have HA := Aside0.mk (i64_and1 x h0 h1)
  by_cases hp : x % 2 = 1
  · have hb : (bits .and .i64 x 1 == 1) = true := by rw [HA.out]; simpa using hp
    have HP := Aside0.mk (show pw2 x = true by simp [pw2, hp])
    clear hp
    go_enter Try.func88, Try.ntmps88
    go_wp2
    go_ret
    exact ⟨by rw [HP.out]; rfl, rfl⟩
  · have hb : (bits .and .i64 x 1 == 1) = false := by rw [HA.out]; simpa using hp
    have HP := Aside0.mk (show pw2 x = decide (131070 < x) by simp [pw2, hp])
    clear hp
    go_enter Try.func88, Try.ntmps88
    go_wp2
    go_ret
    exact ⟨by rw [HP.out]; rfl, rfl⟩
set_option maxHeartbeats 8000000 in
set_option maxRecDepth 100000 in
theorem IndexFunc_w1 (A0 : Option Addr) (c0 : Nat) (l0 : List Int) (w : World) (hr0 : Kd.C (Kd.int .i64) w A0 l0.length l0) (hx : ∀ x ∈ l0, 0 ≤ x ∧ x ≤ 9223372036854775807) :
    Calls Try.prog 109 #[.slice A0 l0.length c0, .func (.func 87) #[] #[]] w fun e w' => e = .returned (.int .i64 (idxFrom pw1 l0 0)) ∧ Drawn0 w w' := by
  have HC := Aside0.mk hr0
  have hmax : l0.length ≤ 9223372036854775807 := Kd.C_max hr0
  have HX := Aside0.mk hx
  clear hr0 hx
  go_enter Try.func109, Try.ntmps109
  go_wp2
  go_loopg [4, 8] l0.length (fun kq v4 v8 w' => ∃ (k : Nat), v4 = .int .i64 0 ∧ v8 = .int .i64 (k : Int) ∧ k ≤ l0.length ∧ Aside0 (l0.length - k = kq) ∧ Aside0 (idxFrom pw1 (l0.drop k) k = idxFrom pw1 l0 0) ∧ Drawn0 w w')
  case atStart => exact ⟨0, rfl, rfl, by omega, ⟨by omega⟩, ⟨by simp⟩, Drawn0.refl _⟩
  case round =>
    obtain ⟨k, rfl, rfl, hk, HK, HI, ⟨m, rfl⟩⟩ := hrel
    by_cases hlt : k < l0.length
    · have hC := Kd.C_drewN HC.out m
      obtain ⟨ad, y, hA, hx, HY⟩ := C_at hC k hlt
      subst hA
      have hmem : y ∈ l0 := by rw [← HY.out, List.getD_eq_getElem?_getD, List.getElem?_eq_getElem hlt]; exact List.getElem_mem hlt
      obtain ⟨hy0, hy1⟩ := HX.out y hmem
      have HD := Aside0.mk (show idxFrom pw1 (l0.drop k) k = if pw1 y then (k : Int) else idxFrom pw1 (l0.drop (k + 1)) ((k : Int) + 1) by
        rw [List.drop_eq_getElem_cons hlt]
        simp only [idxFrom]
        rw [show l0[k] = y by rw [← HY.out, List.getD_eq_getElem?_getD, List.getElem?_eq_getElem hlt]; rfl])
      clear hC hmem
      cases hp : pw1 y with
      | true =>
        have HP := Aside0.mk hp
        clear hp
        go_wp2_with (go_at_call 87; refine (Write1_any y _).mono ?_; rw [HP.out]; rintro e w' ⟨rfl, rfl⟩)
        go_ret
        exact ⟨ret_int (by rw [← HI.out, HD.out, HP.out]; rfl), ⟨m, rfl⟩⟩
      | false =>
        have HP := Aside0.mk hp
        clear hp
        go_wp2_with (go_at_call 87; refine (Write1_any y _).mono ?_; rw [HP.out]; rintro e w' ⟨rfl, rfl⟩)
        go_roundg (l0.length - (k + 1))
        case measure => have := HK.out; omega
        case rel => exact ⟨k + 1, rfl, by go_num, by omega, ⟨rfl⟩, ⟨by rw [← HI.out, HD.out, HP.out]; simp⟩, ⟨m, rfl⟩⟩
    · go_wp2
      go_ret
      refine ⟨ret_int ?_, ⟨m, rfl⟩⟩
      rw [← HI.out, List.drop_eq_nil_of_le (by omega)]
      rfl
set_option maxHeartbeats 400000 in
theorem ContainsFunc_w1 (A0 : Option Addr) (c0 : Nat) (l0 : List Int) (w : World) (hr0 : Kd.C (Kd.int .i64) w A0 l0.length l0) (hx : ∀ x ∈ l0, 0 ≤ x ∧ x ≤ 9223372036854775807) :
    Calls Try.prog 86 #[.slice A0 l0.length c0, .func (.func 87) #[] #[]] w fun e w' => e = .returned (.bool (l0.any pw1)) ∧ Drawn0 w w' := by
  have HC := Aside0.mk hr0
  have HX := Aside0.mk hx
  clear hr0 hx
  go_enter Try.func86, Try.ntmps86
  go_wp2_with (go_at_call 109; refine (IndexFunc_w1 _ _ l0 _ HC.out HX.out).mono ?_; rintro e w' ⟨rfl, ⟨m, rfl⟩⟩)
  go_ret
  exact ⟨by rw [← idxFrom_any pw1 l0 0 (by omega)]; rfl, ⟨m, rfl⟩⟩
set_option maxHeartbeats 8000000 in
set_option maxRecDepth 100000 in
theorem IndexFunc_w2 (A0 : Option Addr) (c0 : Nat) (l0 : List Int) (w : World) (hr0 : Kd.C (Kd.int .i64) w A0 l0.length l0) (hx : ∀ x ∈ l0, 0 ≤ x ∧ x ≤ 9223372036854775807) :
    Calls Try.prog 109 #[.slice A0 l0.length c0, .func (.func 88) #[] #[]] w fun e w' => e = .returned (.int .i64 (idxFrom pw2 l0 0)) ∧ Drawn0 w w' := by
  have HC := Aside0.mk hr0
  have hmax : l0.length ≤ 9223372036854775807 := Kd.C_max hr0
  have HX := Aside0.mk hx
  clear hr0 hx
  go_enter Try.func109, Try.ntmps109
  go_wp2
  go_loopg [4, 8] l0.length (fun kq v4 v8 w' => ∃ (k : Nat), v4 = .int .i64 0 ∧ v8 = .int .i64 (k : Int) ∧ k ≤ l0.length ∧ Aside0 (l0.length - k = kq) ∧ Aside0 (idxFrom pw2 (l0.drop k) k = idxFrom pw2 l0 0) ∧ Drawn0 w w')
  case atStart => exact ⟨0, rfl, rfl, by omega, ⟨by omega⟩, ⟨by simp⟩, Drawn0.refl _⟩
  case round =>
    obtain ⟨k, rfl, rfl, hk, HK, HI, ⟨m, rfl⟩⟩ := hrel
    by_cases hlt : k < l0.length
    · have hC := Kd.C_drewN HC.out m
      obtain ⟨ad, y, hA, hx, HY⟩ := C_at hC k hlt
      subst hA
      have hmem : y ∈ l0 := by rw [← HY.out, List.getD_eq_getElem?_getD, List.getElem?_eq_getElem hlt]; exact List.getElem_mem hlt
      obtain ⟨hy0, hy1⟩ := HX.out y hmem
      have HD := Aside0.mk (show idxFrom pw2 (l0.drop k) k = if pw2 y then (k : Int) else idxFrom pw2 (l0.drop (k + 1)) ((k : Int) + 1) by
        rw [List.drop_eq_getElem_cons hlt]
        simp only [idxFrom]
        rw [show l0[k] = y by rw [← HY.out, List.getD_eq_getElem?_getD, List.getElem?_eq_getElem hlt]; rfl])
      clear hC hmem
      cases hp : pw2 y with
      | true =>
        have HP := Aside0.mk hp
        clear hp
        go_wp2_with (go_at_call 88; refine (Write2_any y hy0 hy1 _).mono ?_; rw [HP.out]; rintro e w' ⟨rfl, rfl⟩)
        go_ret
        exact ⟨ret_int (by rw [← HI.out, HD.out, HP.out]; rfl), ⟨m, rfl⟩⟩
      | false =>
        have HP := Aside0.mk hp
        clear hp
        go_wp2_with (go_at_call 88; refine (Write2_any y hy0 hy1 _).mono ?_; rw [HP.out]; rintro e w' ⟨rfl, rfl⟩)
        go_roundg (l0.length - (k + 1))
        case measure => have := HK.out; omega
        case rel => exact ⟨k + 1, rfl, by go_num, by omega, ⟨rfl⟩, ⟨by rw [← HI.out, HD.out, HP.out]; simp⟩, ⟨m, rfl⟩⟩
    · go_wp2
      go_ret
      refine ⟨ret_int ?_, ⟨m, rfl⟩⟩
      rw [← HI.out, List.drop_eq_nil_of_le (by omega)]
      rfl
set_option maxHeartbeats 400000 in
theorem ContainsFunc_w2 (A0 : Option Addr) (c0 : Nat) (l0 : List Int) (w : World) (hr0 : Kd.C (Kd.int .i64) w A0 l0.length l0) (hx : ∀ x ∈ l0, 0 ≤ x ∧ x ≤ 9223372036854775807) :
    Calls Try.prog 86 #[.slice A0 l0.length c0, .func (.func 88) #[] #[]] w fun e w' => e = .returned (.bool (l0.any pw2)) ∧ Drawn0 w w' := by
  have HC := Aside0.mk hr0
  have HX := Aside0.mk hx
  clear hr0 hx
  go_enter Try.func86, Try.ntmps86
  go_wp2_with (go_at_call 109; refine (IndexFunc_w2 _ _ l0 _ HC.out HX.out).mono ?_; rintro e w' ⟨rfl, ⟨m, rfl⟩⟩)
  go_ret
  exact ⟨by rw [← idxFrom_any pw2 l0 0 (by omega)]; rfl, ⟨m, rfl⟩⟩
theorem add_0 (ad : Addr) : ad.add 0 = ad := by unfold Addr.add; simp
/-- One place's bytes. -/
def encW (b : Bool) (n : Int) : List Int := if b = true then putB n 4 else putB (n / 2) 2
def flatW (b : Bool) (l : List Int) : List Int := l.flatMap (encW b)
theorem encW_len (b : Bool) (n : Int) : (encW b n).length ≤ 4 := by unfold encW; split <;> simp [putB_length]
theorem flatW_len (b : Bool) (l : List Int) : (flatW b l).length ≤ 4 * l.length := by
  induction l with
  | nil => simp [flatW]
  | cons x r ih => have := encW_len b x; simp only [flatW, List.flatMap_cons, List.length_append, List.length_cons] at *; omega
theorem flatW_succ (b : Bool) (l : List Int) (k : Nat) (h : k < l.length) : flatW b (l.take (k + 1)) = flatW b (l.take k) ++ encW b (l.getD k 0) := by
  unfold flatW
  rw [List.take_succ_eq_append_getElem h, List.flatMap_append]
  simp [List.getD_eq_getElem?_getD, List.getElem?_eq_getElem h]
theorem ordB_nonneg (l : List Int) (h : ordB l = true) (h0 : 0 ≤ l.getD 0 0) : ∀ x ∈ l, 0 ≤ x := by
  induction l with
  | nil => intro x hx; cases hx
  | cons a r ih =>
    intro x hx
    simp only [List.getD_cons_zero] at h0
    rcases List.mem_cons.1 hx with rfl | hx
    · exact h0
    · cases r with
      | nil => cases hx
      | cons b r =>
        simp only [ordB, Bool.and_eq_true, decide_eq_true_eq] at h
        exact ih h.2 (by simp only [List.getD_cons_zero]; omega) x hx
theorem bePut4 (y : Int) (h0 : 0 ≤ y) (h1 : y ≤ 9223372036854775807) : be_Put.f y 4 = some (encW true y) := by
  unfold be_Put.f; rw [if_pos (show inI y ∧ inI 4 from ⟨⟨by omega, by omega⟩, by decide⟩), show widthB 4 = 4 by decide]; simp only [encW, if_true]
theorem bePut2 (y : Int) (h0 : 0 ≤ y) (h1 : y ≤ 9223372036854775807) : be_Put.f (y / 2) 2 = some (encW false y) := by
  unfold be_Put.f; rw [if_pos (show inI (y / 2) ∧ inI 2 from ⟨⟨by omega, by omega⟩, by decide⟩), show widthB 2 = 2 by decide]; simp only [encW, Bool.false_eq_true, if_false]
def locaW (l : List Int) (b : Bool) : List Int × Int :=
  if ordB l = false ∨ l.getD 0 0 < 0 then ([], 12) else if (if b = true then l.any pw1 else l.any pw2) = true then ([], 6) else (flatW b l, 0)
def loca_Write.f (l0 : List Int) (a1 : Bool) : Option (List Int × Int) := if (∀ x ∈ l0, inI x) ∧ l0.length ≤ 17592186043904 then some (locaW l0 a1) else none
set_option maxHeartbeats 4000000 in
set_option maxRecDepth 100000 in
theorem loca_W_pt (ad : Addr) (c0 : Nat) (l0 : List Int) (r1 : List Int) (r2 : Int) (w : World) (y : Int) (hpos : 0 < l0.length) (hx' : ∀ m, (w.drewN m).cell? ad = some (.int .i64 y)) (hy : 0 ≤ y) (HC : Aside0 (Kd.C (Kd.int .i64) w (some ad) l0.length l0)) (HL : Aside0 (l0.length ≤ c0)) (hlen : l0.length ≤ 17592186043904) (HS : Aside0 (slices_IsSorted_int_int.f (l0.length + 1) l0 = some true)) (HN : Aside0 (∀ x ∈ l0, 0 ≤ x ∧ x ≤ 9223372036854775807)) (h : (if l0.any pw1 = true then (([] : List Int), (6 : Int)) else (flatW true l0, 0)) = (r1, r2)) :
    Calls Try.prog 54 #[.slice (some ad) l0.length c0, .bool true] w fun e w' => ∃ v0_ : Value, e = .returned (.tuple #[v0_, .int .i64 r2]) ∧ Kd.R (Kd.int .u8) 5 w' w.heap.size (fun _ => True) v0_ r1 ∧ Below w.heap.size w w' := by
  have HB := Aside0.mk (Below.refl w.heap.size w)
  by_cases hany : l0.any pw1 = true
  · rw [if_pos hany] at h
    simp only [Prod.mk.injEq] at h
    obtain ⟨rfl, rfl⟩ := h
    have HA := Aside0.mk hany
    clear hany
    go_enter Try.func54, Try.ntmps54
    go_wp2_with (first
      | (go_at_call 85; refine (slices_IsSorted_int_int.calls (l0.length + 1) _ _ l0 true _ HC.out HL.out HS.out).mono ?_; rintro e w' ⟨rfl, ⟨m, rfl⟩⟩)
      | (go_at_call 86; refine (ContainsFunc_w1 _ _ l0 _ (Kd.C_drewN HC.out _) HN.out).mono ?_; rw [HA.out]; rintro e w' ⟨rfl, ⟨m2, rfl⟩⟩))
    go_ret2
    exact ⟨_, rfl, Kd.R_nil _ _ _ _ _, by repeat (first | exact HB.out | apply pw_below_drewN)⟩
  · rw [if_neg hany] at h
    simp only [Prod.mk.injEq] at h
    obtain ⟨hr, rfl⟩ := h
    have HR := Aside0.mk hr
    have HA := Aside0.mk (Bool.not_eq_true _ ▸ hany : l0.any pw1 = false)
    clear hany hr
    go_enter Try.func54, Try.ntmps54
    go_wp2_with (first
      | (go_at_call 85; refine (slices_IsSorted_int_int.calls (l0.length + 1) _ _ l0 true _ HC.out HL.out HS.out).mono ?_; rintro e w' ⟨rfl, ⟨m, rfl⟩⟩)
      | (go_at_call 86; refine (ContainsFunc_w1 _ _ l0 _ (Kd.C_drewN HC.out _) HN.out).mono ?_; rw [HA.out]; rintro e w' ⟨rfl, ⟨m2, rfl⟩⟩))
    have HBn : Aside0 (Below w.heap.size w ((w.drewN m).drewN m2)) := ⟨by repeat (first | exact HB.out | apply pw_below_drewN)⟩
    go_loopg [6, 39] l0.length (fun kq v6 v39 w' => ∃ (k : Nat), v39 = .int .i64 (k : Int) ∧ k ≤ l0.length ∧ Aside0 (l0.length - k = kq) ∧ Aside0 (Kd.R (Kd.int .u8) 5 w' w.heap.size (fun _ => True) v6 (flatW true (l0.take k))) ∧ Aside0 (Below w.heap.size w w'))
    case atStart => exact ⟨0, rfl, by omega, ⟨rfl⟩, ⟨Kd.R_nil _ _ _ _ _⟩, by have := HBn.out; exact ⟨by first | exact this | simpa using this⟩⟩
    case round =>
      obtain ⟨k, rfl, hk, HK, HO, HB2⟩ := hrel
      clear hx' hy
      by_cases hlt : k < l0.length
      · obtain ⟨ad2, y2, hA2, hx2, HY⟩ := C_at (Kd.C_below HC.out HB2.out) k hlt
        first | subst hA2 | (injection hA2 with hA2; subst hA2)
        have hmem : y2 ∈ l0 := by rw [← HY.out, List.getD_eq_getElem?_getD, List.getElem?_eq_getElem hlt]; exact List.getElem_mem hlt
        obtain ⟨hy0, hy1⟩ := HN.out y2 hmem
        obtain ⟨pb, hpb⟩ : ∃ pb, encW true y2 = pb := ⟨_, rfl⟩
        have HP := Aside0.mk hpb
        have HPF := Aside0.mk (show be_Put.f y2 4 = some pb by rw [← hpb]; exact bePut4 y2 hy0 hy1)
        have hpl : pb.length ≤ 4 := by rw [← hpb]; exact encW_len _ _
        have HF := Aside0.mk (show (flatW true (l0.take k)).length ≤ 4 * l0.length by have := flatW_len true (l0.take k); rw [List.length_take] at this; omega)
        obtain ⟨fl, hfl⟩ : ∃ fl, flatW true (l0.take k) = fl := ⟨_, rfl⟩
        have HFL := Aside0.mk hfl
        have hfll : fl.length ≤ 4 * l0.length := by rw [← hfl]; exact HF.out
        have HO2 : Aside0 (Kd.R (Kd.int .u8) 5 wr w.heap.size (fun _ => True) u6 fl) := ⟨by rw [← hfl]; exact HO.out⟩
        clear hmem hpb HF hfl HO HN HBn
        go_wp2_with (first
          | (go_at_call 40; refine (be_Put.calls y2 4 pb _ HPF.out).mono ?_; rintro e w' ⟨v0, rfl, hR, hB⟩; obtain ⟨A3, c3, rfl, hl3, hC3⟩ := Kd.R_reads hR; have HC3 := Aside0.mk hC3; have HB3 := Aside0.mk (below_step HB2.out hB); have HO3 := Aside0.mk (Kd.R_below HO2.out hB); clear hR hB hl3 hC3)
          | ((with_reducible refine gate_builtin (b := .append) (xs := #[.tmp 44, .tmp 46]) rfl ?_); at_builtin; refine Kd.R_append_rows (Kd.int .u8) (w0 := w) w.heap.size rfl (.tmp 44) (.tmp 46) 23 5 (.int .u8 0) 1 rfl Try.underlying23 info5 rfl (by decide) (by omega) u6 fl pb _ _ _ (fun _ => True) (fun _ => False) rfl rfl HO3.out HC3.out (fun _ _ h => h) (fun _ h => h.elim) (fun _ _ => trivial) HB3.out (below_size HB3.out) (by omega) ?_; intro v1 w1 ho hb _ _; have HO4 := Aside0.mk ho; have HB4 := Aside0.mk hb; clear ho hb))
        go_roundg (l0.length - (k + 1))
        case measure => have := HK.out; omega
        case rel => exact ⟨k + 1, by go_num, by omega, ⟨rfl⟩, ⟨by rw [flatW_succ _ _ _ hlt, HFL.out, HY.out, HP.out]; exact HO4.out⟩, HB4⟩
      · go_wp2
        go_ret2
        refine ⟨_, rfl, ?_, HB2.out⟩
        have := HO.out
        rw [← HR.out]
        rwa [List.take_of_length_le (by omega)] at this
set_option maxHeartbeats 4000000 in
set_option maxRecDepth 100000 in
theorem loca_W_pf (ad : Addr) (c0 : Nat) (l0 : List Int) (r1 : List Int) (r2 : Int) (w : World) (y : Int) (hpos : 0 < l0.length) (hx' : ∀ m, (w.drewN m).cell? ad = some (.int .i64 y)) (hy : 0 ≤ y) (HC : Aside0 (Kd.C (Kd.int .i64) w (some ad) l0.length l0)) (HL : Aside0 (l0.length ≤ c0)) (hlen : l0.length ≤ 17592186043904) (HS : Aside0 (slices_IsSorted_int_int.f (l0.length + 1) l0 = some true)) (HN : Aside0 (∀ x ∈ l0, 0 ≤ x ∧ x ≤ 9223372036854775807)) (h : (if l0.any pw2 = true then (([] : List Int), (6 : Int)) else (flatW false l0, 0)) = (r1, r2)) :
    Calls Try.prog 54 #[.slice (some ad) l0.length c0, .bool false] w fun e w' => ∃ v0_ : Value, e = .returned (.tuple #[v0_, .int .i64 r2]) ∧ Kd.R (Kd.int .u8) 5 w' w.heap.size (fun _ => True) v0_ r1 ∧ Below w.heap.size w w' := by
  have HB := Aside0.mk (Below.refl w.heap.size w)
  by_cases hany : l0.any pw2 = true
  · rw [if_pos hany] at h
    simp only [Prod.mk.injEq] at h
    obtain ⟨rfl, rfl⟩ := h
    have HA := Aside0.mk hany
    clear hany
    go_enter Try.func54, Try.ntmps54
    go_wp2_with (first
      | (go_at_call 85; refine (slices_IsSorted_int_int.calls (l0.length + 1) _ _ l0 true _ HC.out HL.out HS.out).mono ?_; rintro e w' ⟨rfl, ⟨m, rfl⟩⟩)
      | (go_at_call 86; refine (ContainsFunc_w2 _ _ l0 _ (Kd.C_drewN HC.out _) HN.out).mono ?_; rw [HA.out]; rintro e w' ⟨rfl, ⟨m2, rfl⟩⟩))
    go_ret2
    exact ⟨_, rfl, Kd.R_nil _ _ _ _ _, by repeat (first | exact HB.out | apply pw_below_drewN)⟩
  · rw [if_neg hany] at h
    simp only [Prod.mk.injEq] at h
    obtain ⟨hr, rfl⟩ := h
    have HR := Aside0.mk hr
    have HA := Aside0.mk (Bool.not_eq_true _ ▸ hany : l0.any pw2 = false)
    clear hany hr
    go_enter Try.func54, Try.ntmps54
    go_wp2_with (first
      | (go_at_call 85; refine (slices_IsSorted_int_int.calls (l0.length + 1) _ _ l0 true _ HC.out HL.out HS.out).mono ?_; rintro e w' ⟨rfl, ⟨m, rfl⟩⟩)
      | (go_at_call 86; refine (ContainsFunc_w2 _ _ l0 _ (Kd.C_drewN HC.out _) HN.out).mono ?_; rw [HA.out]; rintro e w' ⟨rfl, ⟨m2, rfl⟩⟩))
    have HBn : Aside0 (Below w.heap.size w ((w.drewN m).drewN m2)) := ⟨by repeat (first | exact HB.out | apply pw_below_drewN)⟩
    go_loopg [6, 39] l0.length (fun kq v6 v39 w' => ∃ (k : Nat), v39 = .int .i64 (k : Int) ∧ k ≤ l0.length ∧ Aside0 (l0.length - k = kq) ∧ Aside0 (Kd.R (Kd.int .u8) 5 w' w.heap.size (fun _ => True) v6 (flatW false (l0.take k))) ∧ Aside0 (Below w.heap.size w w'))
    case atStart => exact ⟨0, rfl, by omega, ⟨rfl⟩, ⟨Kd.R_nil _ _ _ _ _⟩, by have := HBn.out; exact ⟨by first | exact this | simpa using this⟩⟩
    case round =>
      obtain ⟨k, rfl, hk, HK, HO, HB2⟩ := hrel
      clear hx' hy
      by_cases hlt : k < l0.length
      · obtain ⟨ad2, y2, hA2, hx2, HY⟩ := C_at (Kd.C_below HC.out HB2.out) k hlt
        first | subst hA2 | (injection hA2 with hA2; subst hA2)
        have hmem : y2 ∈ l0 := by rw [← HY.out, List.getD_eq_getElem?_getD, List.getElem?_eq_getElem hlt]; exact List.getElem_mem hlt
        obtain ⟨hy0, hy1⟩ := HN.out y2 hmem
        obtain ⟨pb, hpb⟩ : ∃ pb, encW false y2 = pb := ⟨_, rfl⟩
        have HP := Aside0.mk hpb
        have HPF := Aside0.mk (show be_Put.f (y2 / 2) 2 = some pb by rw [← hpb]; exact bePut2 y2 hy0 hy1)
        have hpl : pb.length ≤ 4 := by rw [← hpb]; exact encW_len _ _
        have HF := Aside0.mk (show (flatW false (l0.take k)).length ≤ 4 * l0.length by have := flatW_len false (l0.take k); rw [List.length_take] at this; omega)
        obtain ⟨fl, hfl⟩ : ∃ fl, flatW false (l0.take k) = fl := ⟨_, rfl⟩
        have HFL := Aside0.mk hfl
        have hfll : fl.length ≤ 4 * l0.length := by rw [← hfl]; exact HF.out
        have HO2 : Aside0 (Kd.R (Kd.int .u8) 5 wr w.heap.size (fun _ => True) u6 fl) := ⟨by rw [← hfl]; exact HO.out⟩
        clear hmem hpb HF hfl HO HN HBn
        go_wp2_with (first
          | (go_at_call 40; refine (be_Put.calls (y2 / 2) 2 pb _ HPF.out).mono ?_; rintro e w' ⟨v0, rfl, hR, hB⟩; obtain ⟨A3, c3, rfl, hl3, hC3⟩ := Kd.R_reads hR; have HC3 := Aside0.mk hC3; have HB3 := Aside0.mk (below_step HB2.out hB); have HO3 := Aside0.mk (Kd.R_below HO2.out hB); clear hR hB hl3 hC3)
          | ((with_reducible refine gate_builtin (b := .append) (xs := #[.tmp 48, .tmp 51]) rfl ?_); at_builtin; refine Kd.R_append_rows (Kd.int .u8) (w0 := w) w.heap.size rfl (.tmp 48) (.tmp 51) 23 5 (.int .u8 0) 1 rfl Try.underlying23 info5 rfl (by decide) (by omega) u6 fl pb _ _ _ (fun _ => True) (fun _ => False) rfl rfl HO3.out HC3.out (fun _ _ h => h) (fun _ h => h.elim) (fun _ _ => trivial) HB3.out (below_size HB3.out) (by omega) ?_; intro v1 w1 ho hb _ _; have HO4 := Aside0.mk ho; have HB4 := Aside0.mk hb; clear ho hb))
        go_roundg (l0.length - (k + 1))
        case measure => have := HK.out; omega
        case rel => exact ⟨k + 1, by go_num, by omega, ⟨rfl⟩, ⟨by rw [flatW_succ _ _ _ hlt, HFL.out, HY.out, HP.out]; exact HO4.out⟩, HB4⟩
      · go_wp2
        go_ret2
        refine ⟨_, rfl, ?_, HB2.out⟩
        have := HO.out
        rw [← HR.out]
        rwa [List.take_of_length_le (by omega)] at this
set_option maxHeartbeats 4000000 in
set_option maxRecDepth 100000 in
theorem loca_W_nt (A0 : Option Addr) (c0 : Nat) (l0 : List Int) (r1 : List Int) (r2 : Int) (w : World) (hpos : ¬ 0 < l0.length) (HC : Aside0 (Kd.C (Kd.int .i64) w A0 l0.length l0)) (HL : Aside0 (l0.length ≤ c0)) (hlen : l0.length ≤ 17592186043904) (HS : Aside0 (slices_IsSorted_int_int.f (l0.length + 1) l0 = some true)) (HN : Aside0 (∀ x ∈ l0, 0 ≤ x ∧ x ≤ 9223372036854775807)) (h : (if l0.any pw1 = true then (([] : List Int), (6 : Int)) else (flatW true l0, 0)) = (r1, r2)) :
    Calls Try.prog 54 #[.slice A0 l0.length c0, .bool true] w fun e w' => ∃ v0_ : Value, e = .returned (.tuple #[v0_, .int .i64 r2]) ∧ Kd.R (Kd.int .u8) 5 w' w.heap.size (fun _ => True) v0_ r1 ∧ Below w.heap.size w w' := by
  have HB := Aside0.mk (Below.refl w.heap.size w)
  by_cases hany : l0.any pw1 = true
  · rw [if_pos hany] at h
    simp only [Prod.mk.injEq] at h
    obtain ⟨rfl, rfl⟩ := h
    have HA := Aside0.mk hany
    clear hany
    go_enter Try.func54, Try.ntmps54
    go_wp2_with (first
      | (go_at_call 85; refine (slices_IsSorted_int_int.calls (l0.length + 1) _ _ l0 true _ HC.out HL.out HS.out).mono ?_; rintro e w' ⟨rfl, ⟨m, rfl⟩⟩)
      | (go_at_call 86; refine (ContainsFunc_w1 _ _ l0 _ (Kd.C_drewN HC.out _) HN.out).mono ?_; rw [HA.out]; rintro e w' ⟨rfl, ⟨m2, rfl⟩⟩))
    go_ret2
    exact ⟨_, rfl, Kd.R_nil _ _ _ _ _, by repeat (first | exact HB.out | apply pw_below_drewN)⟩
  · rw [if_neg hany] at h
    simp only [Prod.mk.injEq] at h
    obtain ⟨hr, rfl⟩ := h
    have HR := Aside0.mk hr
    have HA := Aside0.mk (Bool.not_eq_true _ ▸ hany : l0.any pw1 = false)
    clear hany hr
    go_enter Try.func54, Try.ntmps54
    go_wp2_with (first
      | (go_at_call 85; refine (slices_IsSorted_int_int.calls (l0.length + 1) _ _ l0 true _ HC.out HL.out HS.out).mono ?_; rintro e w' ⟨rfl, ⟨m, rfl⟩⟩)
      | (go_at_call 86; refine (ContainsFunc_w1 _ _ l0 _ (Kd.C_drewN HC.out _) HN.out).mono ?_; rw [HA.out]; rintro e w' ⟨rfl, ⟨m2, rfl⟩⟩))
    have HBn : Aside0 (Below w.heap.size w ((w.drewN m).drewN m2)) := ⟨by repeat (first | exact HB.out | apply pw_below_drewN)⟩
    go_loopg [6, 39] l0.length (fun kq v6 v39 w' => ∃ (k : Nat), v39 = .int .i64 (k : Int) ∧ k ≤ l0.length ∧ Aside0 (l0.length - k = kq) ∧ Aside0 (Kd.R (Kd.int .u8) 5 w' w.heap.size (fun _ => True) v6 (flatW true (l0.take k))) ∧ Aside0 (Below w.heap.size w w'))
    case atStart => exact ⟨0, rfl, by omega, ⟨rfl⟩, ⟨Kd.R_nil _ _ _ _ _⟩, by have := HBn.out; exact ⟨by first | exact this | simpa using this⟩⟩
    case round =>
      obtain ⟨k, rfl, hk, HK, HO, HB2⟩ := hrel
      skip
      by_cases hlt : k < l0.length
      · exact absurd (Nat.lt_of_le_of_lt (Nat.zero_le _) hlt) hpos
      · go_wp2
        go_ret2
        refine ⟨_, rfl, ?_, HB2.out⟩
        have := HO.out
        rw [← HR.out]
        rwa [List.take_of_length_le (by omega)] at this
set_option maxHeartbeats 4000000 in
set_option maxRecDepth 100000 in
theorem loca_W_nf (A0 : Option Addr) (c0 : Nat) (l0 : List Int) (r1 : List Int) (r2 : Int) (w : World) (hpos : ¬ 0 < l0.length) (HC : Aside0 (Kd.C (Kd.int .i64) w A0 l0.length l0)) (HL : Aside0 (l0.length ≤ c0)) (hlen : l0.length ≤ 17592186043904) (HS : Aside0 (slices_IsSorted_int_int.f (l0.length + 1) l0 = some true)) (HN : Aside0 (∀ x ∈ l0, 0 ≤ x ∧ x ≤ 9223372036854775807)) (h : (if l0.any pw2 = true then (([] : List Int), (6 : Int)) else (flatW false l0, 0)) = (r1, r2)) :
    Calls Try.prog 54 #[.slice A0 l0.length c0, .bool false] w fun e w' => ∃ v0_ : Value, e = .returned (.tuple #[v0_, .int .i64 r2]) ∧ Kd.R (Kd.int .u8) 5 w' w.heap.size (fun _ => True) v0_ r1 ∧ Below w.heap.size w w' := by
  have HB := Aside0.mk (Below.refl w.heap.size w)
  by_cases hany : l0.any pw2 = true
  · rw [if_pos hany] at h
    simp only [Prod.mk.injEq] at h
    obtain ⟨rfl, rfl⟩ := h
    have HA := Aside0.mk hany
    clear hany
    go_enter Try.func54, Try.ntmps54
    go_wp2_with (first
      | (go_at_call 85; refine (slices_IsSorted_int_int.calls (l0.length + 1) _ _ l0 true _ HC.out HL.out HS.out).mono ?_; rintro e w' ⟨rfl, ⟨m, rfl⟩⟩)
      | (go_at_call 86; refine (ContainsFunc_w2 _ _ l0 _ (Kd.C_drewN HC.out _) HN.out).mono ?_; rw [HA.out]; rintro e w' ⟨rfl, ⟨m2, rfl⟩⟩))
    go_ret2
    exact ⟨_, rfl, Kd.R_nil _ _ _ _ _, by repeat (first | exact HB.out | apply pw_below_drewN)⟩
  · rw [if_neg hany] at h
    simp only [Prod.mk.injEq] at h
    obtain ⟨hr, rfl⟩ := h
    have HR := Aside0.mk hr
    have HA := Aside0.mk (Bool.not_eq_true _ ▸ hany : l0.any pw2 = false)
    clear hany hr
    go_enter Try.func54, Try.ntmps54
    go_wp2_with (first
      | (go_at_call 85; refine (slices_IsSorted_int_int.calls (l0.length + 1) _ _ l0 true _ HC.out HL.out HS.out).mono ?_; rintro e w' ⟨rfl, ⟨m, rfl⟩⟩)
      | (go_at_call 86; refine (ContainsFunc_w2 _ _ l0 _ (Kd.C_drewN HC.out _) HN.out).mono ?_; rw [HA.out]; rintro e w' ⟨rfl, ⟨m2, rfl⟩⟩))
    have HBn : Aside0 (Below w.heap.size w ((w.drewN m).drewN m2)) := ⟨by repeat (first | exact HB.out | apply pw_below_drewN)⟩
    go_loopg [6, 39] l0.length (fun kq v6 v39 w' => ∃ (k : Nat), v39 = .int .i64 (k : Int) ∧ k ≤ l0.length ∧ Aside0 (l0.length - k = kq) ∧ Aside0 (Kd.R (Kd.int .u8) 5 w' w.heap.size (fun _ => True) v6 (flatW false (l0.take k))) ∧ Aside0 (Below w.heap.size w w'))
    case atStart => exact ⟨0, rfl, by omega, ⟨rfl⟩, ⟨Kd.R_nil _ _ _ _ _⟩, by have := HBn.out; exact ⟨by first | exact this | simpa using this⟩⟩
    case round =>
      obtain ⟨k, rfl, hk, HK, HO, HB2⟩ := hrel
      skip
      by_cases hlt : k < l0.length
      · exact absurd (Nat.lt_of_le_of_lt (Nat.zero_le _) hlt) hpos
      · go_wp2
        go_ret2
        refine ⟨_, rfl, ?_, HB2.out⟩
        have := HO.out
        rw [← HR.out]
        rwa [List.take_of_length_le (by omega)] at this
set_option maxHeartbeats 8000000 in
set_option maxRecDepth 100000 in
theorem loca_Write.calls (A0 : Option Addr) (c0 : Nat) (l0 : List Int) (a1 : Bool) (r1 : List Int) (r2 : Int) (w : World) (hr0 : Kd.C (Kd.int .i64) w A0 l0.length l0) (hc0 : l0.length ≤ c0) (h : loca_Write.f l0 a1 = some (r1, r2)) :
    Calls Try.prog 54 #[.slice A0 l0.length c0, .bool a1] w fun e w' => ∃ v0_ : Value, e = .returned (.tuple #[v0_, .int .i64 r2]) ∧ Kd.R (Kd.int .u8) 5 w' w.heap.size (fun _ => True) v0_ r1 ∧ Below w.heap.size w w' := by
  unfold loca_Write.f at h
  split at h
  case isFalse => cases h
  rename_i hg
  obtain ⟨hin, hlen⟩ := hg
  have HIN := Aside0.mk hin
  have HC := Aside0.mk hr0
  have HL := Aside0.mk hc0
  have HS := Aside0.mk (issorted_eq l0 (by omega) (l0.length + 1) (by omega))
  have HB := Aside0.mk (Below.refl w.heap.size w)
  simp only [Option.some.injEq] at h
  clear hin hr0 hc0
  by_cases hs : ordB l0 = false
  · unfold locaW at h
    rw [if_pos (.inl hs)] at h
    simp only [Prod.mk.injEq] at h
    obtain ⟨rfl, rfl⟩ := h
    rw [hs] at HS
    clear hs
    go_enter Try.func54, Try.ntmps54
    go_wp2_with (go_at_call 85; refine (slices_IsSorted_int_int.calls (l0.length + 1) _ _ l0 false _ HC.out HL.out HS.out).mono ?_; rintro e w' ⟨rfl, ⟨m, rfl⟩⟩)
    go_ret2
    exact ⟨_, rfl, Kd.R_nil _ _ _ _ _, pw_below_drewN HB.out m⟩
  rw [Bool.not_eq_false] at hs
  rw [hs] at HS
  by_cases hneg : l0.getD 0 0 < 0
  · unfold locaW at h
    rw [if_pos (.inr hneg)] at h
    simp only [Prod.mk.injEq] at h
    obtain ⟨rfl, rfl⟩ := h
    have hpos : 0 < l0.length := by
      rcases Nat.eq_zero_or_pos l0.length with h0 | h0
      · rw [List.eq_nil_of_length_eq_zero h0] at hneg; simp at hneg
      · exact h0
    obtain ⟨ad, y, rfl, hx, HY⟩ := C_at HC.out 0 hpos
    have hy : y < 0 := by rw [← HY.out]; exact hneg
    have hx' : ∀ m, (w.drewN m).cell? ad = some (.int .i64 y) := fun m => by rw [add_0] at hx; exact hx
    clear hs hneg hx
    go_enter Try.func54, Try.ntmps54
    go_wp2_with (go_at_call 85; refine (slices_IsSorted_int_int.calls (l0.length + 1) _ _ l0 true _ HC.out HL.out HS.out).mono ?_; rintro e w' ⟨rfl, ⟨m, rfl⟩⟩)
    go_ret2
    exact ⟨_, rfl, Kd.R_nil _ _ _ _ _, pw_below_drewN HB.out m⟩
  have hnn := ordB_nonneg l0 hs (by omega)
  have HN := Aside0.mk (show ∀ x ∈ l0, 0 ≤ x ∧ x ≤ 9223372036854775807 from fun x hx => ⟨hnn x hx, (HIN.out x hx).2⟩)
  clear hnn
  unfold locaW at h
  rw [if_neg (show ¬ (ordB l0 = false ∨ l0.getD 0 0 < 0) from fun h' => h'.elim (fun h' => by rw [hs] at h'; cases h') hneg)] at h
  have HE := Aside0.mk (show 0 < l0.length → ∃ ad y, A0 = some ad ∧ w.cell? ad = some (.int .i64 y) ∧ 0 ≤ y from fun hpos => by
    obtain ⟨ad, y, e, hx, HY⟩ := C_at HC.out 0 hpos
    exact ⟨ad, y, e, by rw [add_0] at hx; exact hx, by rw [← HY.out]; omega⟩)
  clear hs hneg
  by_cases hpos : 0 < l0.length
  · obtain ⟨ad, y, rfl, hx, hy⟩ := HE.out hpos
    cases a1 with
    | true => simp only [if_true] at h; exact loca_W_pt ad c0 l0 r1 r2 w y hpos (fun m => hx) hy HC HL hlen HS HN h
    | false => simp only [Bool.false_eq_true, if_false] at h; exact loca_W_pf ad c0 l0 r1 r2 w y hpos (fun m => hx) hy HC HL hlen HS HN h
  · cases a1 with
    | true => simp only [if_true] at h; exact loca_W_nt A0 c0 l0 r1 r2 w hpos HC HL hlen HS HN h
    | false => simp only [Bool.false_eq_true, if_false] at h; exact loca_W_nf A0 c0 l0 r1 r2 w hpos HC HL hlen HS HN h


end Go.Proofs.Ytcclmaicdmogjaa.P

-- Written by wip/pr.py over the kit's print
namespace Go.Proofs.Ytcclmaicdmogjaa.P
open Go.RowKit Go.Proofs.YtcclmaicdmogjaaW.PrintWords Go.Proofs.YtcclmaicdmogjaaW.PrintLast Go.Proofs.YtcclmaicdmogjaaW.PrintMore
attribute [local go_sem] max2_int min2_int max_two min_two max_three min_three max_four min_four   -- for this text's walks alone
set_option linter.unusedVariables false
set_option linter.unusedSimpArgs false

theorem eqA111 (d : Nat) (w : World) (x0 y0 : Int) (x1 y1 : Int) :
    (Op.equalIn (d + 2) 111 (.agg #[.int .i64 x0, .int .i64 x1]) (.agg #[.int .i64 y0, .int .i64 y1])).run Try.prog w = .ok (x0 == y0 && (x1 == y1)) w := by
  refine eqA_of Try.underlying111 (by kernel_rfl) ?_
  refine eqf_cons (by rfl) (by go_simp; rfl) (by go_simp; rfl) (by go_simp) ?_
  exact eqf_last (by rfl) (by go_simp; rfl) (by go_simp; rfl) (by go_simp)
end Go.Proofs.Ytcclmaicdmogjaa.P

-- Written by wip/pr.py over the kit's print
namespace Go.Proofs.Ytcclmaicdmogjaa.P
open Go.RowKit Go.Proofs.YtcclmaicdmogjaaW.PrintWords Go.Proofs.YtcclmaicdmogjaaW.PrintLast Go.Proofs.YtcclmaicdmogjaaW.PrintMore
attribute [local go_sem] max2_int min2_int max_two min_two max_three min_three max_four min_four   -- for this text's walks alone
set_option linter.unusedVariables false
set_option linter.unusedSimpArgs false

/-! ### loca_Long: function 56 -/
def loca_Long.f (l0 : List Int) : Option (Bool) := (loca_Write.f l0 false).bind fun bt394 => (some (bt394.2 != 0))
set_option maxHeartbeats 8000000 in
set_option maxRecDepth 100000 in
theorem loca_Long.calls (A0 : Option Addr) (c0 : Nat) (l0 : List Int) (r : Bool) (w : World) (hr0 : Kd.C (Kd.int .i64) w A0 l0.length l0) (hc0 : l0.length ≤ c0) (h : loca_Long.f l0 = some r) :
    Calls Try.prog 56 #[.slice A0 l0.length c0] w fun e w' => e = .returned (.bool r) ∧ Below w.heap.size w w' := by
  have HR0 := Aside0.mk hr0
  have HC0 := Aside0.mk hc0
  clear hr0 hc0
  have HB := Aside0.mk (Below.refl w.heap.size w)
  have H : ((loca_Write.f l0 false).bind fun bt394 => (some (bt394.2 != 0))) = some r := h
  clear h
  replace H := Option.bind_eq_some_iff.mp H
  obtain ⟨⟨t394, t395⟩, A20, H⟩ := H
  replace H : (some (t395 != 0)) = some r := H
  have A2 := Aside0.mk A20
  clear A20
  obtain rfl := Option.some.inj H
  go_enter Try.func56, Try.ntmps56
  go_wp2_with (first | ((with_reducible refine gate_callee (f := 54) rfl ?_); refine goesL_ (some 7) rfl rfl Try.func54 (by kernel_rfl) rfl #[.slice A0 l0.length c0, .bool false] rfl (by (try simp only [List.map_toArray, List.map_cons, List.map_nil]); first | done | rfl | (simp only [List.length_drop, List.length_take]; rfl)) ?_; (with_reducible refine (loca_Write.calls _ _ l0 false t394 t395 _ ?side1 ?side2 A2.out).mono ?_); (case side1 => repeat (first | exact HR0.out | (with_reducible refine Kd.C_alloc ?_ _) | (with_reducible refine Kd.C_drewN ?_ _) | (with_reducible refine Kd.C_drew ?_))); (case side2 => exact HC0.out); rintro e w3 ⟨v396, rfl, ho0, hb⟩; refine ⟨_, rfl, ?_⟩; have n0_ := Aside0.mk (Kd.R_lower ho0 (below_size (by repeat (first | (with_reducible first | exact HB.out | apply below_alloc | apply pw_below_drewN | apply below_drew1) | exact HB.out)))); have n1_ := Aside0.mk (below_step (by repeat (first | (with_reducible first | exact HB.out | apply below_alloc | apply pw_below_drewN | apply below_drew1) | exact HB.out)) hb); clear HB; have HO397 := n0_; have HB := n1_; clear n0_ n1_; (try clear hb); (try clear hb2); (try clear hk); (try clear hi); (try clear ho0)))
  go_ret
  exact ⟨by first | rfl | (simp [errW_none, errW_some] <;> rfl) | (simp [*, errW_none, errW_some] <;> rfl), by repeat (first | (with_reducible first | exact HB.out | apply below_alloc | apply pw_below_drewN | apply below_drew1) | exact HB.out)⟩

end Go.Proofs.Ytcclmaicdmogjaa.P

-- Written by wip/pr.py over the kit's print
namespace Go.Proofs.Ytcclmaicdmogjaa.P
open Go.RowKit Go.Proofs.YtcclmaicdmogjaaW.PrintWords Go.Proofs.YtcclmaicdmogjaaW.PrintLast Go.Proofs.YtcclmaicdmogjaaW.PrintMore
attribute [local go_sem] max2_int min2_int max_two min_two max_three min_three max_four min_four   -- for this text's walks alone
set_option linter.unusedVariables false
set_option linter.unusedSimpArgs false

/-! ### be_S: function 38 -/
def be_S.f (l0 : List Int) (a1 : Int) (a2 : Int) : Option (Int × Int) := (be_U.f l0 a1 a2).bind fun bt182 => (if bt182.2 = 0 then (if 0 ≤ (wrap64 (64 - (wrap64 (8 * a2)))) then (some (shr .i64 (shl .i64 bt182.1 (wrap64 (64 - (wrap64 (8 * a2))))) (wrap64 (64 - (wrap64 (8 * a2)))), 0)) else (none)) else (some (0, bt182.2)))
set_option maxHeartbeats 8000000 in
set_option maxRecDepth 100000 in
theorem be_S.calls (A0 : Option Addr) (c0 : Nat) (l0 : List Int) (a1 : Int) (a2 : Int) (r1 : Int) (r2 : Int) (w : World) (hr0 : Kd.C (Kd.int .u8) w A0 l0.length l0) (hc0 : l0.length ≤ c0) (h : be_S.f l0 a1 a2 = some (r1, r2)) :
    Calls Try.prog 38 #[.slice A0 l0.length c0, .int .i64 a1, .int .i64 a2] w fun e w' => e = .returned (.tuple #[.int .i64 r1, .int .i64 r2]) ∧ Drawn0 w w' := by
  have HR0 := Aside0.mk hr0
  have HC0 := Aside0.mk hc0
  clear hr0 hc0
  have H : ((be_U.f l0 a1 a2).bind fun bt182 => (if bt182.2 = 0 then (if 0 ≤ (wrap64 (64 - (wrap64 (8 * a2)))) then (some (shr .i64 (shl .i64 bt182.1 (wrap64 (64 - (wrap64 (8 * a2))))) (wrap64 (64 - (wrap64 (8 * a2)))), 0)) else (none)) else (some (0, bt182.2)))) = some (r1, r2) := h
  clear h
  replace H := Option.bind_eq_some_iff.mp H
  obtain ⟨⟨t182, t183⟩, A40, H⟩ := H
  replace H : (if t183 = 0 then (if 0 ≤ (wrap64 (64 - (wrap64 (8 * a2)))) then (some (shr .i64 (shl .i64 t182 (wrap64 (64 - (wrap64 (8 * a2))))) (wrap64 (64 - (wrap64 (8 * a2)))), 0)) else (none)) else (some (0, t183))) = some (r1, r2) := H
  have A4 := Aside0.mk A40
  clear A40
  by_cases c5 : t183 = 0
  · rw [if_pos c5] at H
    have c5b0 : (t183 == 0) = true := beq_iff_eq.mpr c5
    have c5b1 : (t183 != 0) = false := bne_eq_false_iff_eq.mpr c5
    clear c5
    obtain ⟨ji6, hji6⟩ : ∃ j_ : Int, (wrap64 (64 - (wrap64 (8 * a2)))) = j_ := ⟨_, rfl⟩
    replace H : (if 0 ≤ (ji6) then (some (shr .i64 (shl .i64 t182 (ji6)) (ji6), 0)) else (none)) = some (r1, r2) := by first | (rw [hji6] at H; exact H) | (simp only [hji6] at H ⊢; exact H)
    (try rw [hji6] at A4)
    have hji6w : (IntKind.i64.wrap (64 - (wrap64 (8 * a2)))) = ji6 := (i64_w _).trans hji6
    by_cases c7 : 0 ≤ (ji6)
    · rw [if_pos c7] at H
      have c7b0 := eq_true c7
      have c7b1 : decide (0 ≤ (ji6)) = true := decide_eq_true c7
      clear c7
      obtain ⟨ji8, hji8⟩ : ∃ j_ : Int, (shl .i64 t182 (ji6)) = j_ := ⟨_, rfl⟩
      replace H : (some (shr .i64 (ji8) (ji6), 0)) = some (r1, r2) := by first | (rw [hji8] at H; exact H) | (simp only [hji8] at H ⊢; exact H)
      (try rw [hji8] at A4)
      have hji8_ : (IntKind.i64.wrap (t182 * 2 ^ min (ji6).toNat 64)) = ji8 := hji8
      have hji8z : (ji6) ≤ 64 → (IntKind.i64.wrap (t182 * 2 ^ (ji6).toNat)) = ji8 := shl_small hji8
      have hji8y : (wrap64 (t182 * 2 ^ min (ji6).toNat 64)) = ji8 := (i64_w _).symm.trans hji8_
      have hji8x : (ji6) ≤ 64 → (wrap64 (t182 * 2 ^ (ji6).toNat)) = ji8 := fun h_ => (i64_w _).symm.trans (hji8z h_)
      have c9b0 := eq_true (of_decide_eq_true (by first | (with_reducible assumption) | assumption) : 0 ≤ (ji6))
      obtain ⟨ji10, hji10⟩ : ∃ j_ : Int, (shr .i64 (ji8) (ji6)) = j_ := ⟨_, rfl⟩
      replace H : (some (ji10, 0)) = some (r1, r2) := by first | (rw [hji10] at H; exact H) | (simp only [hji10] at H ⊢; exact H)
      (try rw [hji10] at A4)
      have hji10_ : ((ji8) / 2 ^ min (ji6).toNat 64) = ji10 := hji10
      have hji10z : (ji6) ≤ 64 → ((ji8) / 2 ^ (ji6).toNat) = ji10 := shr_small hji10
      simp only [Option.some.injEq, Prod.mk.injEq] at H
      obtain ⟨rfl, rfl⟩ := H
      go_enter Try.func38, Try.ntmps38
      go_wp2_with (first | ((with_reducible refine gate_callee (f := 36) rfl ?_); refine goesL_ (some 15) rfl rfl Try.func36 (by kernel_rfl) rfl #[.slice A0 l0.length c0, .int .i64 a1, .int .i64 a2] rfl (by (try simp only [List.map_toArray, List.map_cons, List.map_nil]); first | done | rfl | (simp only [List.length_drop, List.length_take]; rfl)) ?_; (with_reducible refine (be_U.calls _ _ l0 a1 a2 t182 t183 _ ?side1 ?side2 A4.out).mono ?_); (case side1 => repeat (first | exact HR0.out | (with_reducible refine Kd.C_alloc ?_ _) | (with_reducible refine Kd.C_drewN ?_ _) | (with_reducible refine Kd.C_drew ?_))); (case side2 => exact HC0.out); rintro e w' ⟨rfl, ⟨nd, rfl⟩⟩; refine ⟨_, rfl, ?_⟩))
      go_ret2
      exact ⟨by first | rfl | (simp; done) | (simp only [← hji6, ← hji8, ← hji10] <;> (first | rfl | simp)) | (simp [*]; done), by repeat (first | exact Drawn0.refl _ | apply Drawn0.step)⟩
    · rw [if_neg c7] at H
      exact absurd H (by simp)
  · rw [if_neg c5] at H
    have c5b0 : (t183 == 0) = false := beq_eq_false_iff_ne.mpr c5
    have c5b1 : (t183 != 0) = true := bne_iff_ne.mpr c5
    simp only [Option.some.injEq, Prod.mk.injEq] at H
    obtain ⟨rfl, rfl⟩ := H
    go_enter Try.func38, Try.ntmps38
    go_wp2_with (first | ((with_reducible refine gate_callee (f := 36) rfl ?_); refine goesL_ (some 15) rfl rfl Try.func36 (by kernel_rfl) rfl #[.slice A0 l0.length c0, .int .i64 a1, .int .i64 a2] rfl (by (try simp only [List.map_toArray, List.map_cons, List.map_nil]); first | done | rfl | (simp only [List.length_drop, List.length_take]; rfl)) ?_; (with_reducible refine (be_U.calls _ _ l0 a1 a2 t182 t183 _ ?side1 ?side2 A4.out).mono ?_); (case side1 => repeat (first | exact HR0.out | (with_reducible refine Kd.C_alloc ?_ _) | (with_reducible refine Kd.C_drewN ?_ _) | (with_reducible refine Kd.C_drew ?_))); (case side2 => exact HC0.out); rintro e w' ⟨rfl, ⟨nd, rfl⟩⟩; refine ⟨_, rfl, ?_⟩))
    go_ret2
    exact ⟨by first | rfl | (simp; done) | (simp [*]; done), by repeat (first | exact Drawn0.refl _ | apply Drawn0.step)⟩

end Go.Proofs.Ytcclmaicdmogjaa.P

-- Written by wip/pr.py over the kit's print
namespace Go.Proofs.Ytcclmaicdmogjaa.P
open Go.RowKit Go.Proofs.YtcclmaicdmogjaaW.PrintWords Go.Proofs.YtcclmaicdmogjaaW.PrintLast Go.Proofs.YtcclmaicdmogjaaW.PrintMore
attribute [local go_sem] max2_int min2_int max_two min_two max_three min_three max_four min_four   -- for this text's walks alone
set_option linter.unusedVariables false
set_option linter.unusedSimpArgs false

/-! ### loca_Metrics: function 58 -/
mutual
def loca_Metrics.j0 : Nat → List Int → Int → Int → Bool → Option ((List (S111)) × Int)
  | 0, _, _, _, _ => none
  | k + 1, x0, x1, x2, x14 => if x14 = true then (some (([] : List (S111)), 2)) else (if (x0.length : Int) < (wrap64 ((wrap64 (4 * x1)) + (wrap64 (2 * (wrap64 (x2 - x1)))))) then (some (([] : List (S111)), 3)) else (loca_Metrics.l0 k x0 x1 ([] : List (S111)) 0 0 x2 0))
def loca_Metrics.l0 : Nat → List Int → Int → List (S111) → Int → Int → Int → Int → Option ((List (S111)) × Int)
  | 0, _, _, _, _, _, _, _ => none
  | k + 1, x0, x1, x8, x9, x10, x41, x42 => if x42 < x41 then (if x42 < x1 then ((be_U.f x0 x9 2).bind fun bt398 => ((be_S.f x0 (wrap64 (x9 + 2)) 2).bind fun bt400 => (if x8.length < 8796093022208 then (loca_Metrics.l0 k x0 x1 (x8 ++ [(⟨bt398.1, bt400.1⟩ : S111)]) (wrap64 ((wrap64 (x9 + 2)) + 2)) bt398.1 x41 (wrap64 (x42 + 1))) else (none)))) else ((be_S.f x0 x9 2).bind fun bt405 => (if x8.length < 8796093022208 then (loca_Metrics.l0 k x0 x1 (x8 ++ [(⟨x10, bt405.1⟩ : S111)]) (wrap64 (x9 + 2)) x10 x41 (wrap64 (x42 + 1))) else (none)))) else (some (x8, 0))
end
def loca_Metrics.f (k : Nat) (l0 : List Int) (a1 : Int) (a2 : Int) : Option ((List (S111)) × Int) := if a2 < 1 then (loca_Metrics.j0 k l0 a1 a2 true) else (if a2 > 1024 then (loca_Metrics.j0 k l0 a1 a2 true) else (if a1 < 1 then (loca_Metrics.j0 k l0 a1 a2 true) else (loca_Metrics.j0 k l0 a1 a2 (decide (a1 > a2)))))
theorem loca_Metrics.mono_l : ∀ k, (∀ y0 y1 y2 y3, LeO (loca_Metrics.j0 k y0 y1 y2 y3) (loca_Metrics.j0 (k + 1) y0 y1 y2 y3)) ∧ (∀ y0 y1 y2 y3 y4 y5 y6, LeO (loca_Metrics.l0 k y0 y1 y2 y3 y4 y5 y6) (loca_Metrics.l0 (k + 1) y0 y1 y2 y3 y4 y5 y6))
  | 0 => ⟨fun _ _ _ _ r h => by simp [loca_Metrics.j0] at h, fun _ _ _ _ _ _ _ r h => by simp [loca_Metrics.l0] at h⟩
  | k + 1 => by
    obtain ⟨ih0, ih1⟩ := loca_Metrics.mono_l k
    refine ⟨?_, ?_⟩
    · intro y0 y1 y2 y3
      unfold loca_Metrics.j0
      repeat' first
      | (with_reducible exact ih0 _ _ _ _)
      | (with_reducible exact ih1 _ _ _ _ _ _ _)
      | (with_reducible exact LeO.refl _)
      | (with_reducible exact LeO.none _)
      | (with_reducible refine LeO.ite ?_ ?_)
      | (with_reducible refine LeO.bind ?_ (fun _ => ?_))
      | exact ih0 _ _ _ _
      | exact ih1 _ _ _ _ _ _ _
      | exact LeO.none _
      | refine LeO.ite ?_ ?_
      | refine LeO.bind ?_ (fun _ => ?_)
    · intro y0 y1 y2 y3 y4 y5 y6
      unfold loca_Metrics.l0
      repeat' first
      | (with_reducible exact ih0 _ _ _ _)
      | (with_reducible exact ih1 _ _ _ _ _ _ _)
      | (with_reducible exact LeO.refl _)
      | (with_reducible exact LeO.none _)
      | (with_reducible refine LeO.ite ?_ ?_)
      | (with_reducible refine LeO.bind ?_ (fun _ => ?_))
      | exact ih0 _ _ _ _
      | exact ih1 _ _ _ _ _ _ _
      | exact LeO.none _
      | refine LeO.ite ?_ ?_
      | refine LeO.bind ?_ (fun _ => ?_)
theorem loca_Metrics.mono : ∀ a0 a1 a2 k, LeO (loca_Metrics.f k a0 a1 a2) (loca_Metrics.f (k + 1) a0 a1 a2) := by
  intro a0 a1 a2 k
  obtain ⟨ih0, ih1⟩ := loca_Metrics.mono_l k
  unfold loca_Metrics.f
  repeat' first
      | (with_reducible exact ih0 _ _ _ _)
      | (with_reducible exact ih1 _ _ _ _ _ _ _)
      | (with_reducible exact LeO.refl _)
      | (with_reducible exact LeO.none _)
      | (with_reducible refine LeO.ite ?_ ?_)
      | (with_reducible refine LeO.bind ?_ (fun _ => ?_))
      | exact ih0 _ _ _ _
      | exact ih1 _ _ _ _ _ _ _
      | exact LeO.none _
      | refine LeO.ite ?_ ?_
      | refine LeO.bind ?_ (fun _ => ?_)
set_option maxHeartbeats 8000000 in
set_option maxRecDepth 100000 in
theorem loca_Metrics.calls (k : Nat) (A0 : Option Addr) (c0 : Nat) (l0 : List Int) (a1 : Int) (a2 : Int) (r1 : List (S111)) (r2 : Int) (w : World) (hr0 : Kd.C (Kd.int .u8) w A0 l0.length l0) (hc0 : l0.length ≤ c0) (h : loca_Metrics.f k l0 a1 a2 = some (r1, r2)) :
    Calls Try.prog 58 #[.slice A0 l0.length c0, .int .i64 a1, .int .i64 a2] w fun e w' => ∃ v0_ : Value, e = .returned (.tuple #[v0_, .int .i64 r2]) ∧ Kd.R k111 111 w' w.heap.size (fun _ => True) v0_ r1 ∧ Below w.heap.size w w' := by
  have hu111 := Try.underlying111
  have HR0 := Aside0.mk hr0
  have HC0 := Aside0.mk hc0
  clear hr0 hc0
  have HB := Aside0.mk (Below.refl w.heap.size w)
  have H : (if a2 < 1 then (loca_Metrics.j0 k l0 a1 a2 true) else (if a2 > 1024 then (loca_Metrics.j0 k l0 a1 a2 true) else (if a1 < 1 then (loca_Metrics.j0 k l0 a1 a2 true) else (loca_Metrics.j0 k l0 a1 a2 (decide (a1 > a2)))))) = some (r1, r2) := h
  clear h
  have HC4 := Aside0.mk H
  clear H
  go_enter Try.func58, Try.ntmps58
  go_upto_region 1 with (fail)
  go_cut [14] (fun v14 wc => ∃ (kq : Nat) (x14_3 : Bool), v14 = .bool x14_3 ∧ Aside0 (loca_Metrics.j0 kq l0 a1 a2 x14_3 = some (r1, r2)) ∧ Aside0 (kq ≤ k) ∧ Aside0 (Below w.heap.size w wc))
  case first =>
    have H := HC4.out
    clear HC4
    by_cases c5 : a2 < 1
    · rw [if_pos c5] at H
      have c5b0 : decide (a2 < 1) = true := decide_eq_true c5
      clear c5
      (first | rw [c5b0] | (simp only [i64_w, i32_w]; rw [c5b0]) | skip)
      have H' := Aside0.mk H
      clear H
      go_wp2
      go_meet
      case rel => exact ⟨_, (true), (by first | rfl | (simp; done) | (simp [*]; done)), H', ⟨by first | omega | exact Nat.le_refl _⟩, ⟨by repeat (first | (with_reducible first | exact HB.out | apply below_alloc | apply pw_below_drewN | apply below_drew1) | exact HB.out)⟩⟩
    · rw [if_neg c5] at H
      have c5b0 : decide (a2 < 1) = false := decide_eq_false c5
      clear c5
      (first | rw [c5b0] | (simp only [i64_w, i32_w]; rw [c5b0]) | skip)
      by_cases c6 : a2 > 1024
      · rw [if_pos c6] at H
        have c6b0 : decide (1024 < a2) = true := decide_eq_true c6
        clear c6
        have H' := Aside0.mk H
        clear H
        go_wp2
        go_meet
        case rel => exact ⟨_, (true), (by first | rfl | (simp; done) | (simp [*]; done)), H', ⟨by first | omega | exact Nat.le_refl _⟩, ⟨by repeat (first | (with_reducible first | exact HB.out | apply below_alloc | apply pw_below_drewN | apply below_drew1) | exact HB.out)⟩⟩
      · rw [if_neg c6] at H
        have c6b0 : decide (1024 < a2) = false := decide_eq_false c6
        clear c6
        by_cases c7 : a1 < 1
        · rw [if_pos c7] at H
          have c7b0 : decide (a1 < 1) = true := decide_eq_true c7
          clear c7
          have H' := Aside0.mk H
          clear H
          go_wp2
          go_meet
          case rel => exact ⟨_, (true), (by first | rfl | (simp; done) | (simp [*]; done)), H', ⟨by first | omega | exact Nat.le_refl _⟩, ⟨by repeat (first | (with_reducible first | exact HB.out | apply below_alloc | apply pw_below_drewN | apply below_drew1) | exact HB.out)⟩⟩
        · rw [if_neg c7] at H
          have c7b0 : decide (a1 < 1) = false := decide_eq_false c7
          clear c7
          have H' := Aside0.mk H
          clear H
          go_wp2
          go_meet
          case rel => exact ⟨_, (decide (a1 > a2)), (by first | rfl | (simp; done) | (simp [*]; done)), H', ⟨by first | omega | exact Nat.le_refl _⟩, ⟨by repeat (first | (with_reducible first | exact HB.out | apply below_alloc | apply pw_below_drewN | apply below_drew1) | exact HB.out)⟩⟩
  case rest =>
    clear HC4
    try clear p2
    try clear c5
    try clear c5b0
    try clear c6
    try clear c6b0
    try clear c7
    try clear c7b0
    obtain ⟨kq, x14_3, rfl, HA, HJ3, HB⟩ := hcut
    cases kq with
    | zero => exact absurd HA.out (by simp [loca_Metrics.j0])
    | succ kj3 =>
      have H := HA.out
      clear HA
      simp only [loca_Metrics.j0] at H
      by_cases c8 : x14_3 = true
      · subst c8
        have H1 : (some (([] : List (S111)), 2)) = some (r1, r2) := by rw [if_pos rfl] at H; exact H
        clear H
        have H := H1
        clear H1
        simp only [Option.some.injEq, Prod.mk.injEq] at H
        obtain ⟨rfl, rfl⟩ := H
        go_wp2
        go_ret2
        exact ⟨_, by first | rfl | (simp [errW_none, errW_some] <;> rfl) | (simp [*, errW_none, errW_some] <;> rfl), by first | exact Kd.R_nil _ _ _ _ _ | exact Kd.N_nil _ _ _ _ _ | exact Kd.V_nil _ _ _ _ _ | exact Kd.Q_nil _ _ _ _ _ | exact Kd.S_nil _ _ _ _ _, by repeat (first | (with_reducible first | exact HB.out | apply below_alloc | apply pw_below_drewN | apply below_drew1) | exact HB.out)⟩
      · replace c8 := Bool.eq_false_iff.mpr c8
        subst c8
        have H1 : (if (l0.length : Int) < (wrap64 ((wrap64 (4 * a1)) + (wrap64 (2 * (wrap64 (a2 - a1)))))) then (some (([] : List (S111)), 3)) else (loca_Metrics.l0 kj3 l0 a1 ([] : List (S111)) 0 0 a2 0)) = some (r1, r2) := by rw [if_neg (show ¬ (false = true) by decide)] at H; exact H
        clear H
        have H := H1
        clear H1
        by_cases c9 : (l0.length : Int) < (wrap64 ((wrap64 (4 * a1)) + (wrap64 (2 * (wrap64 (a2 - a1))))))
        · rw [if_pos c9] at H
          have c9b0 : decide ((l0.length : Int) < (wrap64 ((wrap64 (4 * a1)) + (wrap64 (2 * (wrap64 (a2 - a1))))))) = true := decide_eq_true c9
          clear c9
          simp only [Option.some.injEq, Prod.mk.injEq] at H
          obtain ⟨rfl, rfl⟩ := H
          go_wp2
          go_ret2
          exact ⟨_, by first | rfl | (simp [errW_none, errW_some] <;> rfl) | (simp [*, errW_none, errW_some] <;> rfl), by first | exact Kd.R_nil _ _ _ _ _ | exact Kd.N_nil _ _ _ _ _ | exact Kd.V_nil _ _ _ _ _ | exact Kd.Q_nil _ _ _ _ _ | exact Kd.S_nil _ _ _ _ _, by repeat (first | (with_reducible first | exact HB.out | apply below_alloc | apply pw_below_drewN | apply below_drew1) | exact HB.out)⟩
        · rw [if_neg c9] at H
          have c9b0 : decide ((l0.length : Int) < (wrap64 ((wrap64 (4 * a1)) + (wrap64 (2 * (wrap64 (a2 - a1))))))) = false := decide_eq_false c9
          clear c9
          have H' := Aside0.mk H
          clear H
          go_wp2
          go_loopg [8, 9, 10, 42] kj3 (fun kq v8 v9 v10 v42 w' => ∃ (x8_2 : List (S111)) (x9_2 : Int) (x10_2 : Int) (x42_2 : Int), v9 = .int .i64 x9_2 ∧ v10 = .int .i64 x10_2 ∧ v42 = .int .i64 x42_2 ∧ Aside0 (loca_Metrics.l0 kq l0 a1 x8_2 x9_2 x10_2 a2 x42_2 = some (r1, r2)) ∧ Aside0 (kq ≤ kj3) ∧ Aside0 (Kd.R k111 111 w' w.heap.size (fun _ => True) v8 x8_2) ∧ Aside0 (Below w.heap.size w w'))
          case atStart => exact ⟨(([] : List (S111))), (0), (0), (0), (by first | rfl | (simp; done) | (simp [*]; done)), (by first | rfl | (simp; done) | (simp [*]; done)), (by first | rfl | (simp; done) | (simp [*]; done)), H', ⟨Nat.le_refl _⟩, ⟨by first | exact Kd.R_nil _ _ _ _ _ | exact Kd.N_nil _ _ _ _ _ | exact Kd.V_nil _ _ _ _ _ | exact Kd.Q_nil _ _ _ _ _ | exact Kd.S_nil _ _ _ _ _⟩, ⟨by repeat (first | (with_reducible first | exact HB.out | apply below_alloc | apply pw_below_drewN | apply below_drew1) | exact HB.out)⟩⟩
          case round =>
            clear H'
            try clear p2
            try clear c5
            try clear c5b0
            try clear c6
            try clear c6b0
            try clear p6
            try clear c7
            try clear c7b0
            try clear c8
            try clear c9
            try clear c9b0
            try clear p2
            obtain ⟨x8_2, x9_2, x10_2, x42_2, rfl, rfl, rfl, HA, HK2, HO_8, HB⟩ := hrel
            cases gk with
            | zero => exact absurd HA.out (by simp [loca_Metrics.l0])
            | succ k2 =>
              have H := HA.out
              clear HA
              simp only [loca_Metrics.l0] at H
              by_cases c10 : x42_2 < a2
              · rw [if_pos c10] at H
                have c10b0 : decide (x42_2 < a2) = true := decide_eq_true c10
                clear c10
                by_cases c11 : x42_2 < a1
                · rw [if_pos c11] at H
                  have c11b0 : decide (x42_2 < a1) = true := decide_eq_true c11
                  clear c11
                  replace H := Option.bind_eq_some_iff.mp H
                  obtain ⟨⟨t398, t399⟩, A120, H⟩ := H
                  replace H : ((be_S.f l0 (wrap64 (x9_2 + 2)) 2).bind fun bt400 => (if x8_2.length < 8796093022208 then (loca_Metrics.l0 k2 l0 a1 (x8_2 ++ [(⟨t398, bt400.1⟩ : S111)]) (wrap64 ((wrap64 (x9_2 + 2)) + 2)) t398 a2 (wrap64 (x42_2 + 1))) else (none))) = some (r1, r2) := H
                  have A12 := Aside0.mk A120
                  clear A120
                  replace H := Option.bind_eq_some_iff.mp H
                  obtain ⟨⟨t400, t401⟩, A130, H⟩ := H
                  replace H : (if x8_2.length < 8796093022208 then (loca_Metrics.l0 k2 l0 a1 (x8_2 ++ [(⟨t398, t400⟩ : S111)]) (wrap64 ((wrap64 (x9_2 + 2)) + 2)) t398 a2 (wrap64 (x42_2 + 1))) else (none)) = some (r1, r2) := H
                  have A13 := Aside0.mk A130
                  clear A130
                  by_cases c14 : x8_2.length < 8796093022208
                  · rw [if_pos c14] at H
                    have LMc14 := Aside0.mk c14
                    clear c14
                    obtain ⟨y402, hy402⟩ : ∃ y_ : List (S111), y_ = (x8_2 ++ [(⟨t398, t400⟩ : S111)]) := ⟨_, rfl⟩
                    replace H : (loca_Metrics.l0 k2 l0 a1 y402 (wrap64 ((wrap64 (x9_2 + 2)) + 2)) t398 a2 (wrap64 (x42_2 + 1))) = some (r1, r2) := by first | (rw [hy402]; with_reducible exact H) | (have H2_ := (Option.bind_some _ _).symm.trans H; rw [hy402]; with_reducible exact H2_) | (have H2_ := (Option.bind_some _ _).symm.trans H; with_reducible exact H2_) | with_reducible exact H | (rw [hy402]; exact H) | exact H
                    have Ny402 := Aside0.mk hy402
                    clear hy402
                    have H' := Aside0.mk H
                    clear H
                    go_wp2_with (first | ((with_reducible refine gate_callee (f := 36) rfl ?_); refine goesL_ (some 51) rfl rfl Try.func36 (by kernel_rfl) rfl #[.slice A0 l0.length c0, .int .i64 x9_2, .int .i64 2] rfl (by (try simp only [List.map_toArray, List.map_cons, List.map_nil]); first | done | rfl | (simp only [List.length_drop, List.length_take]; rfl)) ?_; (with_reducible refine (be_U.calls _ _ l0 x9_2 2 t398 t399 _ ?side1 ?side2 A12.out).mono ?_); (case side1 => repeat (first | exact (Kd.C_below HR0.out HB.out) | (with_reducible refine Kd.C_alloc ?_ _) | (with_reducible refine Kd.C_drewN ?_ _) | (with_reducible refine Kd.C_drew ?_))); (case side2 => exact HC0.out); rintro e w' ⟨rfl, ⟨nd, rfl⟩⟩; refine ⟨_, rfl, ?_⟩) | ((with_reducible refine gate_callee (f := 38) rfl ?_); refine goesL_ (some 59) rfl rfl Try.func38 (by kernel_rfl) rfl #[.slice A0 l0.length c0, .int .i64 (wrap64 (x9_2 + 2)), .int .i64 2] rfl (by (try simp only [List.map_toArray, List.map_cons, List.map_nil]); first | done | rfl | (simp only [List.length_drop, List.length_take]; rfl)) ?_; (with_reducible refine (be_S.calls _ _ l0 (wrap64 (x9_2 + 2)) 2 t400 t401 _ ?side1 ?side2 A13.out).mono ?_); (case side1 => repeat (first | exact (Kd.C_below HR0.out (by repeat (first | (with_reducible first | exact HB.out | apply below_alloc | apply pw_below_drewN | apply below_drew1) | exact HB.out))) | (with_reducible refine Kd.C_alloc ?_ _) | (with_reducible refine Kd.C_drewN ?_ _) | (with_reducible refine Kd.C_drew ?_))); (case side2 => exact HC0.out); rintro e w' ⟨rfl, ⟨nd, rfl⟩⟩; refine ⟨_, rfl, ?_⟩) | ((with_reducible refine gate_builtin (b := .append) (xs := #[.tmp 64, .tmp 68]) rfl ?_); at_builtin; refine Kd.R_append k111 (w0 := w) w.heap.size rfl (.tmp 64) (.tmp 68) 73 111 (.agg #[(.int .i64 0), (.int .i64 0)]) 16 rfl Try.underlying73 info111 rfl (by decide) (by omega) u8 x8_2 (⟨t398, t400⟩ : S111) [.int .i64 t398, .int .i64 t400] (fun _ => True) (fun _ => False) rfl rfl ?aP (fun _ hk => hk.elim) ?aF ?aO ?aB ?aS ?aL ?_; (case aP => exact k111_mkM _ _ _ (⟨t398, t400⟩ : S111)); (case aB => exact (by repeat (first | (with_reducible first | exact HB.out | apply below_alloc | apply pw_below_drewN | apply below_drew1) | exact HB.out))); (case aF => exact (fun _ _ => trivial)); (case aO => exact (by (with_reducible repeat (first | apply Kd.R_alloc | apply Kd.R_drewN | apply Kd.R_drew)); exact HO_8.out)); (case aS => exact (below_size (by repeat (first | (with_reducible first | exact HB.out | apply below_alloc | apply pw_below_drewN | apply below_drew1) | exact HB.out)))); (case aL => have := LMc14.out; omega); intro v403 w15 ho hb hg hat; rw [← Ny402.out] at ho; have n0_ := Aside0.mk (hb); have n1_ := Aside0.mk (ho); clear HB; clear HO_8; have HB := n0_; have HO404 := n1_; clear n0_ n1_; clear ho hb hg hat))
                    go_roundg k2
                    case measure => have := HJ3.out; have := HK2.out; omega
                    case rel => exact ⟨(y402), (wrap64 ((wrap64 (x9_2 + 2)) + 2)), (t398), (wrap64 (x42_2 + 1)), (by first | rfl | (simp; done) | (simp [*]; done)), (by first | rfl | (simp; done) | (simp [*]; done)), (by first | rfl | (simp; done) | (simp [*]; done)), H', ⟨by have := HJ3.out; have := HK2.out; omega⟩, ⟨by (with_reducible repeat (first | apply Kd.R_alloc | apply Kd.R_drewN | apply Kd.R_drew)); exact HO404.out⟩, ⟨by repeat (first | (with_reducible first | exact HB.out | apply below_alloc | apply pw_below_drewN | apply below_drew1) | exact HB.out)⟩⟩
                  · rw [if_neg c14] at H
                    exact absurd H (by simp)
                · rw [if_neg c11] at H
                  have c11b0 : decide (x42_2 < a1) = false := decide_eq_false c11
                  clear c11
                  replace H := Option.bind_eq_some_iff.mp H
                  obtain ⟨⟨t405, t406⟩, A160, H⟩ := H
                  replace H : (if x8_2.length < 8796093022208 then (loca_Metrics.l0 k2 l0 a1 (x8_2 ++ [(⟨x10_2, t405⟩ : S111)]) (wrap64 (x9_2 + 2)) x10_2 a2 (wrap64 (x42_2 + 1))) else (none)) = some (r1, r2) := H
                  have A16 := Aside0.mk A160
                  clear A160
                  by_cases c17 : x8_2.length < 8796093022208
                  · rw [if_pos c17] at H
                    have LMc17 := Aside0.mk c17
                    clear c17
                    obtain ⟨y407, hy407⟩ : ∃ y_ : List (S111), y_ = (x8_2 ++ [(⟨x10_2, t405⟩ : S111)]) := ⟨_, rfl⟩
                    replace H : (loca_Metrics.l0 k2 l0 a1 y407 (wrap64 (x9_2 + 2)) x10_2 a2 (wrap64 (x42_2 + 1))) = some (r1, r2) := by first | (rw [hy407]; with_reducible exact H) | (have H2_ := (Option.bind_some _ _).symm.trans H; rw [hy407]; with_reducible exact H2_) | (have H2_ := (Option.bind_some _ _).symm.trans H; with_reducible exact H2_) | with_reducible exact H | (rw [hy407]; exact H) | exact H
                    have Ny407 := Aside0.mk hy407
                    clear hy407
                    have H' := Aside0.mk H
                    clear H
                    go_wp2_with (first | ((with_reducible refine gate_callee (f := 38) rfl ?_); refine goesL_ (some 59) rfl rfl Try.func38 (by kernel_rfl) rfl #[.slice A0 l0.length c0, .int .i64 x9_2, .int .i64 2] rfl (by (try simp only [List.map_toArray, List.map_cons, List.map_nil]); first | done | rfl | (simp only [List.length_drop, List.length_take]; rfl)) ?_; (with_reducible refine (be_S.calls _ _ l0 x9_2 2 t405 t406 _ ?side1 ?side2 A16.out).mono ?_); (case side1 => repeat (first | exact (Kd.C_below HR0.out HB.out) | (with_reducible refine Kd.C_alloc ?_ _) | (with_reducible refine Kd.C_drewN ?_ _) | (with_reducible refine Kd.C_drew ?_))); (case side2 => exact HC0.out); rintro e w' ⟨rfl, ⟨nd, rfl⟩⟩; refine ⟨_, rfl, ?_⟩) | ((with_reducible refine gate_builtin (b := .append) (xs := #[.tmp 64, .tmp 68]) rfl ?_); at_builtin; refine Kd.R_append k111 (w0 := w) w.heap.size rfl (.tmp 64) (.tmp 68) 73 111 (.agg #[(.int .i64 0), (.int .i64 0)]) 16 rfl Try.underlying73 info111 rfl (by decide) (by omega) u8 x8_2 (⟨x10_2, t405⟩ : S111) [.int .i64 x10_2, .int .i64 t405] (fun _ => True) (fun _ => False) rfl rfl ?aP (fun _ hk => hk.elim) ?aF ?aO ?aB ?aS ?aL ?_; (case aP => exact k111_mkM _ _ _ (⟨x10_2, t405⟩ : S111)); (case aB => exact (by repeat (first | (with_reducible first | exact HB.out | apply below_alloc | apply pw_below_drewN | apply below_drew1) | exact HB.out))); (case aF => exact (fun _ _ => trivial)); (case aO => exact (by (with_reducible repeat (first | apply Kd.R_alloc | apply Kd.R_drewN | apply Kd.R_drew)); exact HO_8.out)); (case aS => exact (below_size (by repeat (first | (with_reducible first | exact HB.out | apply below_alloc | apply pw_below_drewN | apply below_drew1) | exact HB.out)))); (case aL => have := LMc17.out; omega); intro v408 w18 ho hb hg hat; rw [← Ny407.out] at ho; have n0_ := Aside0.mk (hb); have n1_ := Aside0.mk (ho); clear HB; clear HO_8; have HB := n0_; have HO409 := n1_; clear n0_ n1_; clear ho hb hg hat))
                    go_roundg k2
                    case measure => have := HJ3.out; have := HK2.out; omega
                    case rel => exact ⟨(y407), (wrap64 (x9_2 + 2)), (x10_2), (wrap64 (x42_2 + 1)), (by first | rfl | (simp; done) | (simp [*]; done)), (by first | rfl | (simp; done) | (simp [*]; done)), (by first | rfl | (simp; done) | (simp [*]; done)), H', ⟨by have := HJ3.out; have := HK2.out; omega⟩, ⟨by (with_reducible repeat (first | apply Kd.R_alloc | apply Kd.R_drewN | apply Kd.R_drew)); exact HO409.out⟩, ⟨by repeat (first | (with_reducible first | exact HB.out | apply below_alloc | apply pw_below_drewN | apply below_drew1) | exact HB.out)⟩⟩
                  · rw [if_neg c17] at H
                    exact absurd H (by simp)
              · rw [if_neg c10] at H
                have c10b0 : decide (x42_2 < a2) = false := decide_eq_false c10
                clear c10
                simp only [Option.some.injEq, Prod.mk.injEq] at H
                obtain ⟨rfl, rfl⟩ := H
                go_wp2
                go_ret2
                exact ⟨_, by first | rfl | (simp [errW_none, errW_some] <;> rfl) | (simp [*, errW_none, errW_some] <;> rfl), by (with_reducible repeat (first | apply Kd.R_alloc | apply Kd.R_drewN | apply Kd.R_drew)); exact HO_8.out, by repeat (first | (with_reducible first | exact HB.out | apply below_alloc | apply pw_below_drewN | apply below_drew1) | exact HB.out)⟩

end Go.Proofs.Ytcclmaicdmogjaa.P

-- Written by wip/pr.py over the kit's print
namespace Go.Proofs.Ytcclmaicdmogjaa.P
open Go.RowKit Go.Proofs.YtcclmaicdmogjaaW.PrintWords Go.Proofs.YtcclmaicdmogjaaW.PrintLast Go.Proofs.YtcclmaicdmogjaaW.PrintMore
attribute [local go_sem] max2_int min2_int max_two min_two max_three min_three max_four min_four   -- for this text's walks alone
set_option linter.unusedVariables false
set_option linter.unusedSimpArgs false

attribute [local go_sem high] eqA111
/-! ### calamuslaw06_alive: function 50 -/
def calamuslaw06_alive.f (k : Nat)  : Option (Bool) := (loca_Read.f k (([0, 0, 0, 2, 0, 5] : List Int)) false 2).bind fun bt413 => ((loca_Metrics.f k (([1, 244, 0, 10, 255, 254] : List Int)) 1 2).bind fun bt420 => (if bt413.2 = 0 then ((calamusref02_Ints.f k bt413.1 (([0, 4, 10] : List Int))).bind fun t427 => (if t427 = true then ((loca_Long.f (([0, 4, 9] : List Int))).bind fun t431 => (if t431 = true then (if bt420.2 = 0 then (if (bt420.1.length : Int) = 2 then (if 1 < (bt420.1.length : Int) then (some (((rd_T111 bt420.1 1).f0) == 500 && (((rd_T111 bt420.1 1).f1) == (-2)))) else (none)) else (some false)) else (some false)) else (some false))) else (some false))) else (some false)))
theorem calamuslaw06_alive.mono : ∀ k, LeO (calamuslaw06_alive.f k ) (calamuslaw06_alive.f (k + 1) ) := by
  intro  k
  unfold calamuslaw06_alive.f
  repeat' first
      | (with_reducible exact calamusref02_Ints.mono _ _ _)
      | (with_reducible exact loca_Metrics.mono _ _ _ _)
      | (with_reducible exact loca_Read.mono _ _ _ _)
      | (with_reducible exact LeO.refl _)
      | (with_reducible exact LeO.none _)
      | (with_reducible refine LeO.ite ?_ ?_)
      | (with_reducible refine LeO.bind ?_ (fun _ => ?_))
      | exact calamusref02_Ints.mono _ _ _
      | exact loca_Metrics.mono _ _ _ _
      | exact loca_Read.mono _ _ _ _
      | exact LeO.none _
      | refine LeO.ite ?_ ?_
      | refine LeO.bind ?_ (fun _ => ?_)
set_option maxHeartbeats 8000000 in
set_option maxRecDepth 100000 in
theorem calamuslaw06_alive.calls (k : Nat)  (r : Bool) (w : World) (h : calamuslaw06_alive.f k  = some r) :
    Calls Try.prog 50 #[] w fun e w' => e = .returned (.bool r) ∧ Below w.heap.size w w' := by
  have hu111 := Try.underlying111
  have HB := Aside0.mk (Below.refl w.heap.size w)
  have H : ((loca_Read.f k (([0, 0, 0, 2, 0, 5] : List Int)) false 2).bind fun bt413 => ((loca_Metrics.f k (([1, 244, 0, 10, 255, 254] : List Int)) 1 2).bind fun bt420 => (if bt413.2 = 0 then ((calamusref02_Ints.f k bt413.1 (([0, 4, 10] : List Int))).bind fun t427 => (if t427 = true then ((loca_Long.f (([0, 4, 9] : List Int))).bind fun t431 => (if t431 = true then (if bt420.2 = 0 then (if (bt420.1.length : Int) = 2 then (if 1 < (bt420.1.length : Int) then (some (((rd_T111 bt420.1 1).f0) == 500 && (((rd_T111 bt420.1 1).f1) == (-2)))) else (none)) else (some false)) else (some false)) else (some false))) else (some false))) else (some false)))) = some r := h
  clear h
  obtain ⟨y410, hy410⟩ : ∃ y_ : List Int, y_ = (([0, 0, 0, 2, 0, 5] : List Int)) := ⟨_, rfl⟩
  replace H : ((loca_Read.f k y410 false 2).bind fun bt413 => ((loca_Metrics.f k (([1, 244, 0, 10, 255, 254] : List Int)) 1 2).bind fun bt420 => (if bt413.2 = 0 then ((calamusref02_Ints.f k bt413.1 (([0, 4, 10] : List Int))).bind fun t427 => (if t427 = true then ((loca_Long.f (([0, 4, 9] : List Int))).bind fun t431 => (if t431 = true then (if bt420.2 = 0 then (if (bt420.1.length : Int) = 2 then (if 1 < (bt420.1.length : Int) then (some (((rd_T111 bt420.1 1).f0) == 500 && (((rd_T111 bt420.1 1).f1) == (-2)))) else (none)) else (some false)) else (some false)) else (some false))) else (some false))) else (some false)))) = some r := by first | (rw [hy410]; with_reducible exact H) | (have H2_ := (Option.bind_some _ _).symm.trans H; rw [hy410]; with_reducible exact H2_) | (have H2_ := (Option.bind_some _ _).symm.trans H; with_reducible exact H2_) | with_reducible exact H | (rw [hy410]; exact H) | exact H
  have Ny410 := Aside0.mk hy410
  clear hy410
  replace H := Option.bind_eq_some_iff.mp H
  obtain ⟨⟨t413, t414⟩, A10, H⟩ := H
  replace H : ((loca_Metrics.f k (([1, 244, 0, 10, 255, 254] : List Int)) 1 2).bind fun bt420 => (if t414 = 0 then ((calamusref02_Ints.f k t413 (([0, 4, 10] : List Int))).bind fun t427 => (if t427 = true then ((loca_Long.f (([0, 4, 9] : List Int))).bind fun t431 => (if t431 = true then (if bt420.2 = 0 then (if (bt420.1.length : Int) = 2 then (if 1 < (bt420.1.length : Int) then (some (((rd_T111 bt420.1 1).f0) == 500 && (((rd_T111 bt420.1 1).f1) == (-2)))) else (none)) else (some false)) else (some false)) else (some false))) else (some false))) else (some false))) = some r := H
  have A1 := Aside0.mk A10
  clear A10
  obtain ⟨y417, hy417⟩ : ∃ y_ : List Int, y_ = (([1, 244, 0, 10, 255, 254] : List Int)) := ⟨_, rfl⟩
  replace H : ((loca_Metrics.f k y417 1 2).bind fun bt420 => (if t414 = 0 then ((calamusref02_Ints.f k t413 (([0, 4, 10] : List Int))).bind fun t427 => (if t427 = true then ((loca_Long.f (([0, 4, 9] : List Int))).bind fun t431 => (if t431 = true then (if bt420.2 = 0 then (if (bt420.1.length : Int) = 2 then (if 1 < (bt420.1.length : Int) then (some (((rd_T111 bt420.1 1).f0) == 500 && (((rd_T111 bt420.1 1).f1) == (-2)))) else (none)) else (some false)) else (some false)) else (some false))) else (some false))) else (some false))) = some r := by first | (rw [hy417]; with_reducible exact H) | (have H2_ := (Option.bind_some _ _).symm.trans H; rw [hy417]; with_reducible exact H2_) | (have H2_ := (Option.bind_some _ _).symm.trans H; with_reducible exact H2_) | with_reducible exact H | (rw [hy417]; exact H) | exact H
  have Ny417 := Aside0.mk hy417
  clear hy417
  replace H := Option.bind_eq_some_iff.mp H
  obtain ⟨⟨t420, t421⟩, A20, H⟩ := H
  replace H : (if t414 = 0 then ((calamusref02_Ints.f k t413 (([0, 4, 10] : List Int))).bind fun t427 => (if t427 = true then ((loca_Long.f (([0, 4, 9] : List Int))).bind fun t431 => (if t431 = true then (if t421 = 0 then (if (t420.length : Int) = 2 then (if 1 < (t420.length : Int) then (some (((rd_T111 t420 1).f0) == 500 && (((rd_T111 t420 1).f1) == (-2)))) else (none)) else (some false)) else (some false)) else (some false))) else (some false))) else (some false)) = some r := H
  have A2 := Aside0.mk A20
  clear A20
  by_cases c3 : t414 = 0
  · rw [if_pos c3] at H
    have c3b0 : (t414 == 0) = true := beq_iff_eq.mpr c3
    have c3b1 : (t414 != 0) = false := bne_eq_false_iff_eq.mpr c3
    clear c3
    obtain ⟨y424, hy424⟩ : ∃ y_ : List Int, y_ = (([0, 4, 10] : List Int)) := ⟨_, rfl⟩
    replace H : ((calamusref02_Ints.f k t413 y424).bind fun t427 => (if t427 = true then ((loca_Long.f (([0, 4, 9] : List Int))).bind fun t431 => (if t431 = true then (if t421 = 0 then (if (t420.length : Int) = 2 then (if 1 < (t420.length : Int) then (some (((rd_T111 t420 1).f0) == 500 && (((rd_T111 t420 1).f1) == (-2)))) else (none)) else (some false)) else (some false)) else (some false))) else (some false))) = some r := by first | (rw [hy424]; with_reducible exact H) | (have H2_ := (Option.bind_some _ _).symm.trans H; rw [hy424]; with_reducible exact H2_) | (have H2_ := (Option.bind_some _ _).symm.trans H; with_reducible exact H2_) | with_reducible exact H | (rw [hy424]; exact H) | exact H
    have Ny424 := Aside0.mk hy424
    clear hy424
    replace H := Option.bind_eq_some_iff.mp H
    obtain ⟨t427, A40, H⟩ := H
    replace H : (if t427 = true then ((loca_Long.f (([0, 4, 9] : List Int))).bind fun t431 => (if t431 = true then (if t421 = 0 then (if (t420.length : Int) = 2 then (if 1 < (t420.length : Int) then (some (((rd_T111 t420 1).f0) == 500 && (((rd_T111 t420 1).f1) == (-2)))) else (none)) else (some false)) else (some false)) else (some false))) else (some false)) = some r := H
    have A4 := Aside0.mk A40
    clear A40
    by_cases c5 : t427 = true
    · subst c5
      have H1 : ((loca_Long.f (([0, 4, 9] : List Int))).bind fun t431 => (if t431 = true then (if t421 = 0 then (if (t420.length : Int) = 2 then (if 1 < (t420.length : Int) then (some (((rd_T111 t420 1).f0) == 500 && (((rd_T111 t420 1).f1) == (-2)))) else (none)) else (some false)) else (some false)) else (some false))) = some r := by rw [if_pos rfl] at H; exact H
      clear H
      have H := H1
      clear H1
      obtain ⟨y428, hy428⟩ : ∃ y_ : List Int, y_ = (([0, 4, 9] : List Int)) := ⟨_, rfl⟩
      replace H : ((loca_Long.f y428).bind fun t431 => (if t431 = true then (if t421 = 0 then (if (t420.length : Int) = 2 then (if 1 < (t420.length : Int) then (some (((rd_T111 t420 1).f0) == 500 && (((rd_T111 t420 1).f1) == (-2)))) else (none)) else (some false)) else (some false)) else (some false))) = some r := by first | (rw [hy428]; with_reducible exact H) | (have H2_ := (Option.bind_some _ _).symm.trans H; rw [hy428]; with_reducible exact H2_) | (have H2_ := (Option.bind_some _ _).symm.trans H; with_reducible exact H2_) | with_reducible exact H | (rw [hy428]; exact H) | exact H
      have Ny428 := Aside0.mk hy428
      clear hy428
      replace H := Option.bind_eq_some_iff.mp H
      obtain ⟨t431, A60, H⟩ := H
      replace H : (if t431 = true then (if t421 = 0 then (if (t420.length : Int) = 2 then (if 1 < (t420.length : Int) then (some (((rd_T111 t420 1).f0) == 500 && (((rd_T111 t420 1).f1) == (-2)))) else (none)) else (some false)) else (some false)) else (some false)) = some r := H
      have A6 := Aside0.mk A60
      clear A60
      by_cases c7 : t431 = true
      · subst c7
        have H1 : (if t421 = 0 then (if (t420.length : Int) = 2 then (if 1 < (t420.length : Int) then (some (((rd_T111 t420 1).f0) == 500 && (((rd_T111 t420 1).f1) == (-2)))) else (none)) else (some false)) else (some false)) = some r := by rw [if_pos rfl] at H; exact H
        clear H
        have H := H1
        clear H1
        by_cases c8 : t421 = 0
        · rw [if_pos c8] at H
          have c8b0 : (t421 == 0) = true := beq_iff_eq.mpr c8
          have c8b1 : (t421 != 0) = false := bne_eq_false_iff_eq.mpr c8
          clear c8
          by_cases c9 : (t420.length : Int) = 2
          · rw [if_pos c9] at H
            have c9b0 : ((t420.length : Int) == 2) = true := beq_iff_eq.mpr c9
            have c9b1 : ((t420.length : Int) != 2) = false := bne_eq_false_iff_eq.mpr c9
            clear c9
            by_cases c10 : 1 < (t420.length : Int)
            · rw [if_pos c10] at H
              have c10b0 : decide (1 < (t420.length : Int)) = true := decide_eq_true c10
              have c10b1 : decide (1 < t420.length) = true := decide_eq_true (by omega)
              clear c10
              obtain rfl := Option.some.inj H
              go_enter Try.func50, Try.ntmps50
              go_wp2_with (first | ((with_reducible refine gate_dst (N := 6) rfl ?_); (try (refine gate_guard (by rfl) ?_; dsimp only)); refine Kd.R_lit (Kd.int .u8) _ 5 ?hg (N := 6) ?hd (xs := ([0, 0, 0, 2, 0, 5] : List Int)) (inner := [.int .u8 0, .int .u8 0, .int .u8 0, .int .u8 2, .int .u8 0, .int .u8 5]) (ok := fun _ => True) (okp := fun _ => True) ?hr ?hp (fun _ hk => hk) trivial (Below.refl _ _) (Nat.le_refl _) (by simp) ?_; (case hd => rfl); (case hg => rfl); (case hr => first | (go_simp; done) | (go_simp; rfl)); (case hp => exact (Reps.one (show Kd.M (Kd.int .u8) _ _ _ 0 [.int .u8 0] from rfl) (Reps.one (show Kd.M (Kd.int .u8) _ _ _ 0 [.int .u8 0] from rfl) (Reps.one (show Kd.M (Kd.int .u8) _ _ _ 0 [.int .u8 0] from rfl) (Reps.one (show Kd.M (Kd.int .u8) _ _ _ 2 [.int .u8 2] from rfl) (Reps.one (show Kd.M (Kd.int .u8) _ _ _ 0 [.int .u8 0] from rfl) (Reps.one (show Kd.M (Kd.int .u8) _ _ _ 5 [.int .u8 5] from rfl) (Reps.none _ _)))))))); intro v411 w11 ho12 hb hg_ hnew_; clear hg_ hnew_; (first | rw [← Ny410.out] at ho12 | (simp only [Int.reduceToNat] at ho12; rw [← Ny410.out] at ho12)); have n0_ := Aside0.mk (Kd.R_lower ho12 (below_size (by repeat (first | (with_reducible first | exact HB.out | apply below_alloc | apply pw_below_drewN | apply below_drew1) | exact HB.out)))); have n1_ := Aside0.mk (below_step (by repeat (first | (with_reducible first | exact HB.out | apply below_alloc | apply pw_below_drewN | apply below_drew1) | exact HB.out)) hb); clear HB; have HO412 := n0_; have HB := n1_; clear n0_ n1_; clear hb ho12; obtain ⟨Ao13, co13, eo13⟩ := Kd.R_slice HO412.out; subst eo13) | ((with_reducible refine gate_callee (f := 51) rfl ?_); refine goesL_ (some 7) rfl rfl Try.func51 (by kernel_rfl) rfl #[.slice Ao13 y410.length co13, .bool false, .int .i64 2] rfl (by (try simp only [List.map_toArray, List.map_cons, List.map_nil]); first | done | rfl | (simp only [List.length_drop, List.length_take]; rfl)) ?_; (with_reducible refine (loca_Read.calls k _ _ y410 false 2 t413 t414 _ ?side1 ?side2 A1.out).mono ?_); (case side1 => repeat (first | exact (Kd.R_reads' HO412.out).2.2 | (with_reducible refine Kd.C_alloc ?_ _) | (with_reducible refine Kd.C_drewN ?_ _) | (with_reducible refine Kd.C_drew ?_))); (case side2 => exact (Kd.R_reads' HO412.out).2.1); rintro e w14 ⟨v415, rfl, ho0, hb⟩; refine ⟨_, rfl, ?_⟩; have n0_ := Aside0.mk (Kd.R_below (by (with_reducible repeat (first | apply Kd.R_alloc | apply Kd.R_drewN | apply Kd.R_drew)); exact HO412.out) hb); have n1_ := Aside0.mk (Kd.R_lower ho0 (below_size (by repeat (first | (with_reducible first | exact HB.out | apply below_alloc | apply pw_below_drewN | apply below_drew1) | exact HB.out)))); have n2_ := Aside0.mk (below_step (by repeat (first | (with_reducible first | exact HB.out | apply below_alloc | apply pw_below_drewN | apply below_drew1) | exact HB.out)) hb); clear HO412; clear HB; have HO412 := n0_; have HO416 := n1_; have HB := n2_; clear n0_ n1_ n2_; (try clear hb); (try clear hb2); (try clear hk); (try clear hi); (try clear ho0)) | ((with_reducible refine gate_dst (N := 11) rfl ?_); (try (refine gate_guard (by rfl) ?_; dsimp only)); refine Kd.R_lit (Kd.int .u8) _ 5 ?hg (N := 11) ?hd (xs := ([1, 244, 0, 10, 255, 254] : List Int)) (inner := [.int .u8 1, .int .u8 244, .int .u8 0, .int .u8 10, .int .u8 255, .int .u8 254]) (ok := fun _ => True) (okp := fun _ => True) ?hr ?hp (fun _ hk => hk) trivial (Below.refl _ _) (Nat.le_refl _) (by simp) ?_; (case hd => rfl); (case hg => rfl); (case hr => first | (go_simp; done) | (go_simp; rfl)); (case hp => exact (Reps.one (show Kd.M (Kd.int .u8) _ _ _ 1 [.int .u8 1] from rfl) (Reps.one (show Kd.M (Kd.int .u8) _ _ _ 244 [.int .u8 244] from rfl) (Reps.one (show Kd.M (Kd.int .u8) _ _ _ 0 [.int .u8 0] from rfl) (Reps.one (show Kd.M (Kd.int .u8) _ _ _ 10 [.int .u8 10] from rfl) (Reps.one (show Kd.M (Kd.int .u8) _ _ _ 255 [.int .u8 255] from rfl) (Reps.one (show Kd.M (Kd.int .u8) _ _ _ 254 [.int .u8 254] from rfl) (Reps.none _ _)))))))); intro v418 w15 ho16 hb hg_ hnew_; clear hg_ hnew_; (first | rw [← Ny417.out] at ho16 | (simp only [Int.reduceToNat] at ho16; rw [← Ny417.out] at ho16)); have n0_ := Aside0.mk (Kd.R_elder' (by (with_reducible repeat (first | apply Kd.R_alloc | apply Kd.R_drewN | apply Kd.R_drew)); exact HO412.out) (Kd.R_base ho16) hb); have n1_ := Aside0.mk (Kd.R_below (by (with_reducible repeat (first | apply Kd.R_alloc | apply Kd.R_drewN | apply Kd.R_drew)); exact HO416.out) hb); have n2_ := Aside0.mk (Kd.R_lower (Kd.R_new' ho16 (Kd.R_lt (by (with_reducible repeat (first | apply Kd.R_alloc | apply Kd.R_drewN | apply Kd.R_drew)); exact HO412.out))) (below_size (by repeat (first | (with_reducible first | exact HB.out | apply below_alloc | apply pw_below_drewN | apply below_drew1) | exact HB.out)))); have n3_ := Aside0.mk (below_step (by repeat (first | (with_reducible first | exact HB.out | apply below_alloc | apply pw_below_drewN | apply below_drew1) | exact HB.out)) hb); clear HO412; clear HO416; clear HB; have HO412 := n0_; have HO416 := n1_; have HO419 := n2_; have HB := n3_; clear n0_ n1_ n2_ n3_; clear hb ho16; obtain ⟨Ao17, co17, eo17⟩ := Kd.R_slice HO419.out; subst eo17) | ((with_reducible refine gate_callee (f := 58) rfl ?_); refine goesL_ (some 12) rfl rfl Try.func58 (by kernel_rfl) rfl #[.slice Ao17 y417.length co17, .int .i64 1, .int .i64 2] rfl (by (try simp only [List.map_toArray, List.map_cons, List.map_nil]); first | done | rfl | (simp only [List.length_drop, List.length_take]; rfl)) ?_; (with_reducible refine (loca_Metrics.calls k _ _ y417 1 2 t420 t421 _ ?side1 ?side2 A2.out).mono ?_); (case side1 => repeat (first | exact (Kd.R_reads' HO419.out).2.2 | (with_reducible refine Kd.C_alloc ?_ _) | (with_reducible refine Kd.C_drewN ?_ _) | (with_reducible refine Kd.C_drew ?_))); (case side2 => exact (Kd.R_reads' HO419.out).2.1); rintro e w18 ⟨v422, rfl, ho0, hb⟩; refine ⟨_, rfl, ?_⟩; have n0_ := Aside0.mk (Kd.R_below (by (with_reducible repeat (first | apply Kd.R_alloc | apply Kd.R_drewN | apply Kd.R_drew)); exact HO412.out) hb); have n1_ := Aside0.mk (Kd.R_below (by (with_reducible repeat (first | apply Kd.R_alloc | apply Kd.R_drewN | apply Kd.R_drew)); exact HO416.out) hb); have n2_ := Aside0.mk (Kd.R_below (by (with_reducible repeat (first | apply Kd.R_alloc | apply Kd.R_drewN | apply Kd.R_drew)); exact HO419.out) hb); have n3_ := Aside0.mk (Kd.R_lower ho0 (below_size (by repeat (first | (with_reducible first | exact HB.out | apply below_alloc | apply pw_below_drewN | apply below_drew1) | exact HB.out)))); have n4_ := Aside0.mk (below_step (by repeat (first | (with_reducible first | exact HB.out | apply below_alloc | apply pw_below_drewN | apply below_drew1) | exact HB.out)) hb); clear HO412; clear HO416; clear HO419; clear HB; have HO412 := n0_; have HO416 := n1_; have HO419 := n2_; have HO423 := n3_; have HB := n4_; clear n0_ n1_ n2_ n3_ n4_; (try clear hb); (try clear hb2); (try clear hk); (try clear hi); (try clear ho0)) | ((with_reducible refine gate_dst (N := 19) rfl ?_); (try (refine gate_guard (by rfl) ?_; dsimp only)); refine Kd.R_lit (Kd.int .i64) _ 3 ?hg (N := 19) ?hd (xs := ([0, 4, 10] : List Int)) (inner := [.int .i64 0, .int .i64 4, .int .i64 10]) (ok := fun _ => True) (okp := fun _ => True) ?hr ?hp (fun _ hk => hk) trivial (Below.refl _ _) (Nat.le_refl _) (by simp) ?_; (case hd => rfl); (case hg => rfl); (case hr => first | (go_simp; done) | (go_simp; rfl)); (case hp => exact (Reps.one (show Kd.M (Kd.int .i64) _ _ _ 0 [.int .i64 0] from rfl) (Reps.one (show Kd.M (Kd.int .i64) _ _ _ 4 [.int .i64 4] from rfl) (Reps.one (show Kd.M (Kd.int .i64) _ _ _ 10 [.int .i64 10] from rfl) (Reps.none _ _))))); intro v425 w19 ho20 hb hg_ hnew_; clear hg_ hnew_; (first | rw [← Ny424.out] at ho20 | (simp only [Int.reduceToNat] at ho20; rw [← Ny424.out] at ho20)); have n0_ := Aside0.mk (Kd.R_below (by (with_reducible repeat (first | apply Kd.R_alloc | apply Kd.R_drewN | apply Kd.R_drew)); exact HO412.out) hb); have n1_ := Aside0.mk (Kd.R_elder' (by (with_reducible repeat (first | apply Kd.R_alloc | apply Kd.R_drewN | apply Kd.R_drew)); exact HO416.out) (Kd.R_base ho20) hb); have n2_ := Aside0.mk (Kd.R_below (by (with_reducible repeat (first | apply Kd.R_alloc | apply Kd.R_drewN | apply Kd.R_drew)); exact HO419.out) hb); have n3_ := Aside0.mk (Kd.R_below (by (with_reducible repeat (first | apply Kd.R_alloc | apply Kd.R_drewN | apply Kd.R_drew)); exact HO423.out) hb); have n4_ := Aside0.mk (Kd.R_lower (Kd.R_new' ho20 (Kd.R_lt (by (with_reducible repeat (first | apply Kd.R_alloc | apply Kd.R_drewN | apply Kd.R_drew)); exact HO416.out))) (below_size (by repeat (first | (with_reducible first | exact HB.out | apply below_alloc | apply pw_below_drewN | apply below_drew1) | exact HB.out)))); have n5_ := Aside0.mk (below_step (by repeat (first | (with_reducible first | exact HB.out | apply below_alloc | apply pw_below_drewN | apply below_drew1) | exact HB.out)) hb); clear HO412; clear HO416; clear HO419; clear HO423; clear HB; have HO412 := n0_; have HO416 := n1_; have HO419 := n2_; have HO423 := n3_; have HO426 := n4_; have HB := n5_; clear n0_ n1_ n2_ n3_ n4_ n5_; clear hb ho20; obtain ⟨Ao21, co21, eo21⟩ := Kd.R_slice HO416.out; subst eo21; obtain ⟨Ao22, co22, eo22⟩ := Kd.R_slice HO426.out; subst eo22) | (go_at_call 53; (with_reducible refine (calamusref02_Ints.calls k _ _ t413 _ _ y424 true _ ?side1 ?side2 ?side3 ?side4 A4.out).mono ?_); (case side1 => repeat (first | exact (Kd.R_reads' HO416.out).2.2 | (with_reducible refine Kd.C_alloc ?_ _) | (with_reducible refine Kd.C_drewN ?_ _) | (with_reducible refine Kd.C_drew ?_))); (case side2 => exact (Kd.R_reads' HO416.out).2.1); (case side3 => repeat (first | exact (Kd.R_reads' HO426.out).2.2 | (with_reducible refine Kd.C_alloc ?_ _) | (with_reducible refine Kd.C_drewN ?_ _) | (with_reducible refine Kd.C_drew ?_))); (case side4 => exact (Kd.R_reads' HO426.out).2.1); rintro e w' ⟨rfl, ⟨nd, rfl⟩⟩) | ((with_reducible refine gate_dst (N := 23) rfl ?_); (try (refine gate_guard (by rfl) ?_; dsimp only)); refine Kd.R_lit (Kd.int .i64) _ 3 ?hg (N := 23) ?hd (xs := ([0, 4, 9] : List Int)) (inner := [.int .i64 0, .int .i64 4, .int .i64 9]) (ok := fun _ => True) (okp := fun _ => True) ?hr ?hp (fun _ hk => hk) trivial (Below.refl _ _) (Nat.le_refl _) (by simp) ?_; (case hd => rfl); (case hg => rfl); (case hr => first | (go_simp; done) | (go_simp; rfl)); (case hp => exact (Reps.one (show Kd.M (Kd.int .i64) _ _ _ 0 [.int .i64 0] from rfl) (Reps.one (show Kd.M (Kd.int .i64) _ _ _ 4 [.int .i64 4] from rfl) (Reps.one (show Kd.M (Kd.int .i64) _ _ _ 9 [.int .i64 9] from rfl) (Reps.none _ _))))); intro v429 w23 ho24 hb hg_ hnew_; clear hg_ hnew_; (first | rw [← Ny428.out] at ho24 | (simp only [Int.reduceToNat] at ho24; rw [← Ny428.out] at ho24)); have n0_ := Aside0.mk (Kd.R_below (by (with_reducible repeat (first | apply Kd.R_alloc | apply Kd.R_drewN | apply Kd.R_drew)); exact HO412.out) hb); have n1_ := Aside0.mk (Kd.R_elder' (by (with_reducible repeat (first | apply Kd.R_alloc | apply Kd.R_drewN | apply Kd.R_drew)); exact HO416.out) (Kd.R_base ho24) hb); have n2_ := Aside0.mk (Kd.R_below (by (with_reducible repeat (first | apply Kd.R_alloc | apply Kd.R_drewN | apply Kd.R_drew)); exact HO419.out) hb); have n3_ := Aside0.mk (Kd.R_below (by (with_reducible repeat (first | apply Kd.R_alloc | apply Kd.R_drewN | apply Kd.R_drew)); exact HO423.out) hb); have n4_ := Aside0.mk (Kd.R_elder' (by (with_reducible repeat (first | apply Kd.R_alloc | apply Kd.R_drewN | apply Kd.R_drew)); exact HO426.out) (Kd.R_base ho24) hb); have n5_ := Aside0.mk (Kd.R_lower (Kd.R_new' (Kd.R_new' ho24 (Kd.R_lt (by (with_reducible repeat (first | apply Kd.R_alloc | apply Kd.R_drewN | apply Kd.R_drew)); exact HO416.out))) (Kd.R_lt (by (with_reducible repeat (first | apply Kd.R_alloc | apply Kd.R_drewN | apply Kd.R_drew)); exact HO426.out))) (below_size (by repeat (first | (with_reducible first | exact HB.out | apply below_alloc | apply pw_below_drewN | apply below_drew1) | exact HB.out)))); have n6_ := Aside0.mk (below_step (by repeat (first | (with_reducible first | exact HB.out | apply below_alloc | apply pw_below_drewN | apply below_drew1) | exact HB.out)) hb); clear HO412; clear HO416; clear HO419; clear HO423; clear HO426; clear HB; have HO412 := n0_; have HO416 := n1_; have HO419 := n2_; have HO423 := n3_; have HO426 := n4_; have HO430 := n5_; have HB := n6_; clear n0_ n1_ n2_ n3_ n4_ n5_ n6_; clear hb ho24; obtain ⟨Ao25, co25, eo25⟩ := Kd.R_slice HO430.out; subst eo25) | (go_at_call 56; (with_reducible refine (loca_Long.calls _ _ y428 true _ ?side1 ?side2 A6.out).mono ?_); (case side1 => repeat (first | exact (Kd.R_reads' HO430.out).2.2 | (with_reducible refine Kd.C_alloc ?_ _) | (with_reducible refine Kd.C_drewN ?_ _) | (with_reducible refine Kd.C_drew ?_))); (case side2 => exact (Kd.R_reads' HO430.out).2.1); rintro e w26 ⟨rfl, hb⟩; have n0_ := Aside0.mk (Kd.R_below (by (with_reducible repeat (first | apply Kd.R_alloc | apply Kd.R_drewN | apply Kd.R_drew)); exact HO412.out) hb); have n1_ := Aside0.mk (Kd.R_below (by (with_reducible repeat (first | apply Kd.R_alloc | apply Kd.R_drewN | apply Kd.R_drew)); exact HO416.out) hb); have n2_ := Aside0.mk (Kd.R_below (by (with_reducible repeat (first | apply Kd.R_alloc | apply Kd.R_drewN | apply Kd.R_drew)); exact HO419.out) hb); have n3_ := Aside0.mk (Kd.R_below (by (with_reducible repeat (first | apply Kd.R_alloc | apply Kd.R_drewN | apply Kd.R_drew)); exact HO423.out) hb); have n4_ := Aside0.mk (Kd.R_below (by (with_reducible repeat (first | apply Kd.R_alloc | apply Kd.R_drewN | apply Kd.R_drew)); exact HO426.out) hb); have n5_ := Aside0.mk (Kd.R_below (by (with_reducible repeat (first | apply Kd.R_alloc | apply Kd.R_drewN | apply Kd.R_drew)); exact HO430.out) hb); have n6_ := Aside0.mk (below_step (by repeat (first | (with_reducible first | exact HB.out | apply below_alloc | apply pw_below_drewN | apply below_drew1) | exact HB.out)) hb); clear HO412; clear HO416; clear HO419; clear HO423; clear HO426; clear HO430; clear HB; have HO412 := n0_; have HO416 := n1_; have HO419 := n2_; have HO423 := n3_; have HO426 := n4_; have HO430 := n5_; have HB := n6_; clear n0_ n1_ n2_ n3_ n4_ n5_ n6_; (try clear hb); (try clear hb2); (try clear hk); (try clear hi); obtain ⟨Ao27, co27, eo27⟩ := Kd.R_slice HO423.out; subst eo27; have p432 : 0 ≤ (1 : Int) := (by omega); have q432 : 1 < (t420.length : Int) := of_decide_eq_true (by first | (with_reducible assumption) | assumption); obtain ⟨ad432, e432, hx432_0, hx432_1⟩ := at_T111 (Kd.R_reads' HO423.out).2.2 1 p432 q432; cases e432; (try simp only [show (1 : Int).toNat = 1 from rfl, Nat.reduceMul, Nat.reduceEqDiff, Go.Addr.add, ↓reduceIte] at hx432_0); (try simp only [show (1 : Int).toNat = 1 from rfl, Nat.reduceMul, Nat.reduceEqDiff, Go.Addr.add, ↓reduceIte] at hx432_1); have qi432 : (1 < t420.length) = True := eq_true (by omega); (try rw [show ((1 : Int)).toNat = 1 from rfl] at hx432_0); (try rw [show 1 * 2 = 2 from rfl] at hx432_0); (try rw [show ((1 : Int)).toNat = 1 from rfl] at hx432_1); (try rw [show 1 * 2 = 2 from rfl] at hx432_1); replace p432 := eq_true p432; replace q432 := eq_true q432))
              go_ret
              exact ⟨by first | rfl | (simp [errW_none, errW_some] <;> rfl) | (simp [*, errW_none, errW_some] <;> rfl), by repeat (first | (with_reducible first | exact HB.out | apply below_alloc | apply pw_below_drewN | apply below_drew1) | exact HB.out)⟩
            · rw [if_neg c10] at H
              exact absurd H (by simp)
          · rw [if_neg c9] at H
            have c9b0 : ((t420.length : Int) == 2) = false := beq_eq_false_iff_ne.mpr c9
            have c9b1 : ((t420.length : Int) != 2) = true := bne_iff_ne.mpr c9
            obtain rfl := Option.some.inj H
            go_enter Try.func50, Try.ntmps50
            go_wp2_with (first | ((with_reducible refine gate_dst (N := 6) rfl ?_); (try (refine gate_guard (by rfl) ?_; dsimp only)); refine Kd.R_lit (Kd.int .u8) _ 5 ?hg (N := 6) ?hd (xs := ([0, 0, 0, 2, 0, 5] : List Int)) (inner := [.int .u8 0, .int .u8 0, .int .u8 0, .int .u8 2, .int .u8 0, .int .u8 5]) (ok := fun _ => True) (okp := fun _ => True) ?hr ?hp (fun _ hk => hk) trivial (Below.refl _ _) (Nat.le_refl _) (by simp) ?_; (case hd => rfl); (case hg => rfl); (case hr => first | (go_simp; done) | (go_simp; rfl)); (case hp => exact (Reps.one (show Kd.M (Kd.int .u8) _ _ _ 0 [.int .u8 0] from rfl) (Reps.one (show Kd.M (Kd.int .u8) _ _ _ 0 [.int .u8 0] from rfl) (Reps.one (show Kd.M (Kd.int .u8) _ _ _ 0 [.int .u8 0] from rfl) (Reps.one (show Kd.M (Kd.int .u8) _ _ _ 2 [.int .u8 2] from rfl) (Reps.one (show Kd.M (Kd.int .u8) _ _ _ 0 [.int .u8 0] from rfl) (Reps.one (show Kd.M (Kd.int .u8) _ _ _ 5 [.int .u8 5] from rfl) (Reps.none _ _)))))))); intro v411 w28 ho29 hb hg_ hnew_; clear hg_ hnew_; (first | rw [← Ny410.out] at ho29 | (simp only [Int.reduceToNat] at ho29; rw [← Ny410.out] at ho29)); have n0_ := Aside0.mk (Kd.R_lower ho29 (below_size (by repeat (first | (with_reducible first | exact HB.out | apply below_alloc | apply pw_below_drewN | apply below_drew1) | exact HB.out)))); have n1_ := Aside0.mk (below_step (by repeat (first | (with_reducible first | exact HB.out | apply below_alloc | apply pw_below_drewN | apply below_drew1) | exact HB.out)) hb); clear HB; have HO412 := n0_; have HB := n1_; clear n0_ n1_; clear hb ho29; obtain ⟨Ao30, co30, eo30⟩ := Kd.R_slice HO412.out; subst eo30) | ((with_reducible refine gate_callee (f := 51) rfl ?_); refine goesL_ (some 7) rfl rfl Try.func51 (by kernel_rfl) rfl #[.slice Ao30 y410.length co30, .bool false, .int .i64 2] rfl (by (try simp only [List.map_toArray, List.map_cons, List.map_nil]); first | done | rfl | (simp only [List.length_drop, List.length_take]; rfl)) ?_; (with_reducible refine (loca_Read.calls k _ _ y410 false 2 t413 t414 _ ?side1 ?side2 A1.out).mono ?_); (case side1 => repeat (first | exact (Kd.R_reads' HO412.out).2.2 | (with_reducible refine Kd.C_alloc ?_ _) | (with_reducible refine Kd.C_drewN ?_ _) | (with_reducible refine Kd.C_drew ?_))); (case side2 => exact (Kd.R_reads' HO412.out).2.1); rintro e w31 ⟨v415, rfl, ho0, hb⟩; refine ⟨_, rfl, ?_⟩; have n0_ := Aside0.mk (Kd.R_below (by (with_reducible repeat (first | apply Kd.R_alloc | apply Kd.R_drewN | apply Kd.R_drew)); exact HO412.out) hb); have n1_ := Aside0.mk (Kd.R_lower ho0 (below_size (by repeat (first | (with_reducible first | exact HB.out | apply below_alloc | apply pw_below_drewN | apply below_drew1) | exact HB.out)))); have n2_ := Aside0.mk (below_step (by repeat (first | (with_reducible first | exact HB.out | apply below_alloc | apply pw_below_drewN | apply below_drew1) | exact HB.out)) hb); clear HO412; clear HB; have HO412 := n0_; have HO416 := n1_; have HB := n2_; clear n0_ n1_ n2_; (try clear hb); (try clear hb2); (try clear hk); (try clear hi); (try clear ho0)) | ((with_reducible refine gate_dst (N := 11) rfl ?_); (try (refine gate_guard (by rfl) ?_; dsimp only)); refine Kd.R_lit (Kd.int .u8) _ 5 ?hg (N := 11) ?hd (xs := ([1, 244, 0, 10, 255, 254] : List Int)) (inner := [.int .u8 1, .int .u8 244, .int .u8 0, .int .u8 10, .int .u8 255, .int .u8 254]) (ok := fun _ => True) (okp := fun _ => True) ?hr ?hp (fun _ hk => hk) trivial (Below.refl _ _) (Nat.le_refl _) (by simp) ?_; (case hd => rfl); (case hg => rfl); (case hr => first | (go_simp; done) | (go_simp; rfl)); (case hp => exact (Reps.one (show Kd.M (Kd.int .u8) _ _ _ 1 [.int .u8 1] from rfl) (Reps.one (show Kd.M (Kd.int .u8) _ _ _ 244 [.int .u8 244] from rfl) (Reps.one (show Kd.M (Kd.int .u8) _ _ _ 0 [.int .u8 0] from rfl) (Reps.one (show Kd.M (Kd.int .u8) _ _ _ 10 [.int .u8 10] from rfl) (Reps.one (show Kd.M (Kd.int .u8) _ _ _ 255 [.int .u8 255] from rfl) (Reps.one (show Kd.M (Kd.int .u8) _ _ _ 254 [.int .u8 254] from rfl) (Reps.none _ _)))))))); intro v418 w32 ho33 hb hg_ hnew_; clear hg_ hnew_; (first | rw [← Ny417.out] at ho33 | (simp only [Int.reduceToNat] at ho33; rw [← Ny417.out] at ho33)); have n0_ := Aside0.mk (Kd.R_elder' (by (with_reducible repeat (first | apply Kd.R_alloc | apply Kd.R_drewN | apply Kd.R_drew)); exact HO412.out) (Kd.R_base ho33) hb); have n1_ := Aside0.mk (Kd.R_below (by (with_reducible repeat (first | apply Kd.R_alloc | apply Kd.R_drewN | apply Kd.R_drew)); exact HO416.out) hb); have n2_ := Aside0.mk (Kd.R_lower (Kd.R_new' ho33 (Kd.R_lt (by (with_reducible repeat (first | apply Kd.R_alloc | apply Kd.R_drewN | apply Kd.R_drew)); exact HO412.out))) (below_size (by repeat (first | (with_reducible first | exact HB.out | apply below_alloc | apply pw_below_drewN | apply below_drew1) | exact HB.out)))); have n3_ := Aside0.mk (below_step (by repeat (first | (with_reducible first | exact HB.out | apply below_alloc | apply pw_below_drewN | apply below_drew1) | exact HB.out)) hb); clear HO412; clear HO416; clear HB; have HO412 := n0_; have HO416 := n1_; have HO419 := n2_; have HB := n3_; clear n0_ n1_ n2_ n3_; clear hb ho33; obtain ⟨Ao34, co34, eo34⟩ := Kd.R_slice HO419.out; subst eo34) | ((with_reducible refine gate_callee (f := 58) rfl ?_); refine goesL_ (some 12) rfl rfl Try.func58 (by kernel_rfl) rfl #[.slice Ao34 y417.length co34, .int .i64 1, .int .i64 2] rfl (by (try simp only [List.map_toArray, List.map_cons, List.map_nil]); first | done | rfl | (simp only [List.length_drop, List.length_take]; rfl)) ?_; (with_reducible refine (loca_Metrics.calls k _ _ y417 1 2 t420 t421 _ ?side1 ?side2 A2.out).mono ?_); (case side1 => repeat (first | exact (Kd.R_reads' HO419.out).2.2 | (with_reducible refine Kd.C_alloc ?_ _) | (with_reducible refine Kd.C_drewN ?_ _) | (with_reducible refine Kd.C_drew ?_))); (case side2 => exact (Kd.R_reads' HO419.out).2.1); rintro e w35 ⟨v422, rfl, ho0, hb⟩; refine ⟨_, rfl, ?_⟩; have n0_ := Aside0.mk (Kd.R_below (by (with_reducible repeat (first | apply Kd.R_alloc | apply Kd.R_drewN | apply Kd.R_drew)); exact HO412.out) hb); have n1_ := Aside0.mk (Kd.R_below (by (with_reducible repeat (first | apply Kd.R_alloc | apply Kd.R_drewN | apply Kd.R_drew)); exact HO416.out) hb); have n2_ := Aside0.mk (Kd.R_below (by (with_reducible repeat (first | apply Kd.R_alloc | apply Kd.R_drewN | apply Kd.R_drew)); exact HO419.out) hb); have n3_ := Aside0.mk (Kd.R_lower ho0 (below_size (by repeat (first | (with_reducible first | exact HB.out | apply below_alloc | apply pw_below_drewN | apply below_drew1) | exact HB.out)))); have n4_ := Aside0.mk (below_step (by repeat (first | (with_reducible first | exact HB.out | apply below_alloc | apply pw_below_drewN | apply below_drew1) | exact HB.out)) hb); clear HO412; clear HO416; clear HO419; clear HB; have HO412 := n0_; have HO416 := n1_; have HO419 := n2_; have HO423 := n3_; have HB := n4_; clear n0_ n1_ n2_ n3_ n4_; (try clear hb); (try clear hb2); (try clear hk); (try clear hi); (try clear ho0)) | ((with_reducible refine gate_dst (N := 19) rfl ?_); (try (refine gate_guard (by rfl) ?_; dsimp only)); refine Kd.R_lit (Kd.int .i64) _ 3 ?hg (N := 19) ?hd (xs := ([0, 4, 10] : List Int)) (inner := [.int .i64 0, .int .i64 4, .int .i64 10]) (ok := fun _ => True) (okp := fun _ => True) ?hr ?hp (fun _ hk => hk) trivial (Below.refl _ _) (Nat.le_refl _) (by simp) ?_; (case hd => rfl); (case hg => rfl); (case hr => first | (go_simp; done) | (go_simp; rfl)); (case hp => exact (Reps.one (show Kd.M (Kd.int .i64) _ _ _ 0 [.int .i64 0] from rfl) (Reps.one (show Kd.M (Kd.int .i64) _ _ _ 4 [.int .i64 4] from rfl) (Reps.one (show Kd.M (Kd.int .i64) _ _ _ 10 [.int .i64 10] from rfl) (Reps.none _ _))))); intro v425 w36 ho37 hb hg_ hnew_; clear hg_ hnew_; (first | rw [← Ny424.out] at ho37 | (simp only [Int.reduceToNat] at ho37; rw [← Ny424.out] at ho37)); have n0_ := Aside0.mk (Kd.R_below (by (with_reducible repeat (first | apply Kd.R_alloc | apply Kd.R_drewN | apply Kd.R_drew)); exact HO412.out) hb); have n1_ := Aside0.mk (Kd.R_elder' (by (with_reducible repeat (first | apply Kd.R_alloc | apply Kd.R_drewN | apply Kd.R_drew)); exact HO416.out) (Kd.R_base ho37) hb); have n2_ := Aside0.mk (Kd.R_below (by (with_reducible repeat (first | apply Kd.R_alloc | apply Kd.R_drewN | apply Kd.R_drew)); exact HO419.out) hb); have n3_ := Aside0.mk (Kd.R_below (by (with_reducible repeat (first | apply Kd.R_alloc | apply Kd.R_drewN | apply Kd.R_drew)); exact HO423.out) hb); have n4_ := Aside0.mk (Kd.R_lower (Kd.R_new' ho37 (Kd.R_lt (by (with_reducible repeat (first | apply Kd.R_alloc | apply Kd.R_drewN | apply Kd.R_drew)); exact HO416.out))) (below_size (by repeat (first | (with_reducible first | exact HB.out | apply below_alloc | apply pw_below_drewN | apply below_drew1) | exact HB.out)))); have n5_ := Aside0.mk (below_step (by repeat (first | (with_reducible first | exact HB.out | apply below_alloc | apply pw_below_drewN | apply below_drew1) | exact HB.out)) hb); clear HO412; clear HO416; clear HO419; clear HO423; clear HB; have HO412 := n0_; have HO416 := n1_; have HO419 := n2_; have HO423 := n3_; have HO426 := n4_; have HB := n5_; clear n0_ n1_ n2_ n3_ n4_ n5_; clear hb ho37; obtain ⟨Ao38, co38, eo38⟩ := Kd.R_slice HO416.out; subst eo38; obtain ⟨Ao39, co39, eo39⟩ := Kd.R_slice HO426.out; subst eo39) | (go_at_call 53; (with_reducible refine (calamusref02_Ints.calls k _ _ t413 _ _ y424 true _ ?side1 ?side2 ?side3 ?side4 A4.out).mono ?_); (case side1 => repeat (first | exact (Kd.R_reads' HO416.out).2.2 | (with_reducible refine Kd.C_alloc ?_ _) | (with_reducible refine Kd.C_drewN ?_ _) | (with_reducible refine Kd.C_drew ?_))); (case side2 => exact (Kd.R_reads' HO416.out).2.1); (case side3 => repeat (first | exact (Kd.R_reads' HO426.out).2.2 | (with_reducible refine Kd.C_alloc ?_ _) | (with_reducible refine Kd.C_drewN ?_ _) | (with_reducible refine Kd.C_drew ?_))); (case side4 => exact (Kd.R_reads' HO426.out).2.1); rintro e w' ⟨rfl, ⟨nd, rfl⟩⟩) | ((with_reducible refine gate_dst (N := 23) rfl ?_); (try (refine gate_guard (by rfl) ?_; dsimp only)); refine Kd.R_lit (Kd.int .i64) _ 3 ?hg (N := 23) ?hd (xs := ([0, 4, 9] : List Int)) (inner := [.int .i64 0, .int .i64 4, .int .i64 9]) (ok := fun _ => True) (okp := fun _ => True) ?hr ?hp (fun _ hk => hk) trivial (Below.refl _ _) (Nat.le_refl _) (by simp) ?_; (case hd => rfl); (case hg => rfl); (case hr => first | (go_simp; done) | (go_simp; rfl)); (case hp => exact (Reps.one (show Kd.M (Kd.int .i64) _ _ _ 0 [.int .i64 0] from rfl) (Reps.one (show Kd.M (Kd.int .i64) _ _ _ 4 [.int .i64 4] from rfl) (Reps.one (show Kd.M (Kd.int .i64) _ _ _ 9 [.int .i64 9] from rfl) (Reps.none _ _))))); intro v429 w40 ho41 hb hg_ hnew_; clear hg_ hnew_; (first | rw [← Ny428.out] at ho41 | (simp only [Int.reduceToNat] at ho41; rw [← Ny428.out] at ho41)); have n0_ := Aside0.mk (Kd.R_below (by (with_reducible repeat (first | apply Kd.R_alloc | apply Kd.R_drewN | apply Kd.R_drew)); exact HO412.out) hb); have n1_ := Aside0.mk (Kd.R_elder' (by (with_reducible repeat (first | apply Kd.R_alloc | apply Kd.R_drewN | apply Kd.R_drew)); exact HO416.out) (Kd.R_base ho41) hb); have n2_ := Aside0.mk (Kd.R_below (by (with_reducible repeat (first | apply Kd.R_alloc | apply Kd.R_drewN | apply Kd.R_drew)); exact HO419.out) hb); have n3_ := Aside0.mk (Kd.R_below (by (with_reducible repeat (first | apply Kd.R_alloc | apply Kd.R_drewN | apply Kd.R_drew)); exact HO423.out) hb); have n4_ := Aside0.mk (Kd.R_elder' (by (with_reducible repeat (first | apply Kd.R_alloc | apply Kd.R_drewN | apply Kd.R_drew)); exact HO426.out) (Kd.R_base ho41) hb); have n5_ := Aside0.mk (Kd.R_lower (Kd.R_new' (Kd.R_new' ho41 (Kd.R_lt (by (with_reducible repeat (first | apply Kd.R_alloc | apply Kd.R_drewN | apply Kd.R_drew)); exact HO416.out))) (Kd.R_lt (by (with_reducible repeat (first | apply Kd.R_alloc | apply Kd.R_drewN | apply Kd.R_drew)); exact HO426.out))) (below_size (by repeat (first | (with_reducible first | exact HB.out | apply below_alloc | apply pw_below_drewN | apply below_drew1) | exact HB.out)))); have n6_ := Aside0.mk (below_step (by repeat (first | (with_reducible first | exact HB.out | apply below_alloc | apply pw_below_drewN | apply below_drew1) | exact HB.out)) hb); clear HO412; clear HO416; clear HO419; clear HO423; clear HO426; clear HB; have HO412 := n0_; have HO416 := n1_; have HO419 := n2_; have HO423 := n3_; have HO426 := n4_; have HO430 := n5_; have HB := n6_; clear n0_ n1_ n2_ n3_ n4_ n5_ n6_; clear hb ho41; obtain ⟨Ao42, co42, eo42⟩ := Kd.R_slice HO430.out; subst eo42) | (go_at_call 56; (with_reducible refine (loca_Long.calls _ _ y428 true _ ?side1 ?side2 A6.out).mono ?_); (case side1 => repeat (first | exact (Kd.R_reads' HO430.out).2.2 | (with_reducible refine Kd.C_alloc ?_ _) | (with_reducible refine Kd.C_drewN ?_ _) | (with_reducible refine Kd.C_drew ?_))); (case side2 => exact (Kd.R_reads' HO430.out).2.1); rintro e w43 ⟨rfl, hb⟩; have n0_ := Aside0.mk (Kd.R_below (by (with_reducible repeat (first | apply Kd.R_alloc | apply Kd.R_drewN | apply Kd.R_drew)); exact HO412.out) hb); have n1_ := Aside0.mk (Kd.R_below (by (with_reducible repeat (first | apply Kd.R_alloc | apply Kd.R_drewN | apply Kd.R_drew)); exact HO416.out) hb); have n2_ := Aside0.mk (Kd.R_below (by (with_reducible repeat (first | apply Kd.R_alloc | apply Kd.R_drewN | apply Kd.R_drew)); exact HO419.out) hb); have n3_ := Aside0.mk (Kd.R_below (by (with_reducible repeat (first | apply Kd.R_alloc | apply Kd.R_drewN | apply Kd.R_drew)); exact HO423.out) hb); have n4_ := Aside0.mk (Kd.R_below (by (with_reducible repeat (first | apply Kd.R_alloc | apply Kd.R_drewN | apply Kd.R_drew)); exact HO426.out) hb); have n5_ := Aside0.mk (Kd.R_below (by (with_reducible repeat (first | apply Kd.R_alloc | apply Kd.R_drewN | apply Kd.R_drew)); exact HO430.out) hb); have n6_ := Aside0.mk (below_step (by repeat (first | (with_reducible first | exact HB.out | apply below_alloc | apply pw_below_drewN | apply below_drew1) | exact HB.out)) hb); clear HO412; clear HO416; clear HO419; clear HO423; clear HO426; clear HO430; clear HB; have HO412 := n0_; have HO416 := n1_; have HO419 := n2_; have HO423 := n3_; have HO426 := n4_; have HO430 := n5_; have HB := n6_; clear n0_ n1_ n2_ n3_ n4_ n5_ n6_; (try clear hb); (try clear hb2); (try clear hk); (try clear hi); obtain ⟨Ao44, co44, eo44⟩ := Kd.R_slice HO423.out; subst eo44))
            go_ret
            exact ⟨by first | rfl | (simp [errW_none, errW_some] <;> rfl) | (simp [*, errW_none, errW_some] <;> rfl), by repeat (first | (with_reducible first | exact HB.out | apply below_alloc | apply pw_below_drewN | apply below_drew1) | exact HB.out)⟩
        · rw [if_neg c8] at H
          have c8b0 : (t421 == 0) = false := beq_eq_false_iff_ne.mpr c8
          have c8b1 : (t421 != 0) = true := bne_iff_ne.mpr c8
          obtain rfl := Option.some.inj H
          go_enter Try.func50, Try.ntmps50
          go_wp2_with (first | ((with_reducible refine gate_dst (N := 6) rfl ?_); (try (refine gate_guard (by rfl) ?_; dsimp only)); refine Kd.R_lit (Kd.int .u8) _ 5 ?hg (N := 6) ?hd (xs := ([0, 0, 0, 2, 0, 5] : List Int)) (inner := [.int .u8 0, .int .u8 0, .int .u8 0, .int .u8 2, .int .u8 0, .int .u8 5]) (ok := fun _ => True) (okp := fun _ => True) ?hr ?hp (fun _ hk => hk) trivial (Below.refl _ _) (Nat.le_refl _) (by simp) ?_; (case hd => rfl); (case hg => rfl); (case hr => first | (go_simp; done) | (go_simp; rfl)); (case hp => exact (Reps.one (show Kd.M (Kd.int .u8) _ _ _ 0 [.int .u8 0] from rfl) (Reps.one (show Kd.M (Kd.int .u8) _ _ _ 0 [.int .u8 0] from rfl) (Reps.one (show Kd.M (Kd.int .u8) _ _ _ 0 [.int .u8 0] from rfl) (Reps.one (show Kd.M (Kd.int .u8) _ _ _ 2 [.int .u8 2] from rfl) (Reps.one (show Kd.M (Kd.int .u8) _ _ _ 0 [.int .u8 0] from rfl) (Reps.one (show Kd.M (Kd.int .u8) _ _ _ 5 [.int .u8 5] from rfl) (Reps.none _ _)))))))); intro v411 w45 ho46 hb hg_ hnew_; clear hg_ hnew_; (first | rw [← Ny410.out] at ho46 | (simp only [Int.reduceToNat] at ho46; rw [← Ny410.out] at ho46)); have n0_ := Aside0.mk (Kd.R_lower ho46 (below_size (by repeat (first | (with_reducible first | exact HB.out | apply below_alloc | apply pw_below_drewN | apply below_drew1) | exact HB.out)))); have n1_ := Aside0.mk (below_step (by repeat (first | (with_reducible first | exact HB.out | apply below_alloc | apply pw_below_drewN | apply below_drew1) | exact HB.out)) hb); clear HB; have HO412 := n0_; have HB := n1_; clear n0_ n1_; clear hb ho46; obtain ⟨Ao47, co47, eo47⟩ := Kd.R_slice HO412.out; subst eo47) | ((with_reducible refine gate_callee (f := 51) rfl ?_); refine goesL_ (some 7) rfl rfl Try.func51 (by kernel_rfl) rfl #[.slice Ao47 y410.length co47, .bool false, .int .i64 2] rfl (by (try simp only [List.map_toArray, List.map_cons, List.map_nil]); first | done | rfl | (simp only [List.length_drop, List.length_take]; rfl)) ?_; (with_reducible refine (loca_Read.calls k _ _ y410 false 2 t413 t414 _ ?side1 ?side2 A1.out).mono ?_); (case side1 => repeat (first | exact (Kd.R_reads' HO412.out).2.2 | (with_reducible refine Kd.C_alloc ?_ _) | (with_reducible refine Kd.C_drewN ?_ _) | (with_reducible refine Kd.C_drew ?_))); (case side2 => exact (Kd.R_reads' HO412.out).2.1); rintro e w48 ⟨v415, rfl, ho0, hb⟩; refine ⟨_, rfl, ?_⟩; have n0_ := Aside0.mk (Kd.R_below (by (with_reducible repeat (first | apply Kd.R_alloc | apply Kd.R_drewN | apply Kd.R_drew)); exact HO412.out) hb); have n1_ := Aside0.mk (Kd.R_lower ho0 (below_size (by repeat (first | (with_reducible first | exact HB.out | apply below_alloc | apply pw_below_drewN | apply below_drew1) | exact HB.out)))); have n2_ := Aside0.mk (below_step (by repeat (first | (with_reducible first | exact HB.out | apply below_alloc | apply pw_below_drewN | apply below_drew1) | exact HB.out)) hb); clear HO412; clear HB; have HO412 := n0_; have HO416 := n1_; have HB := n2_; clear n0_ n1_ n2_; (try clear hb); (try clear hb2); (try clear hk); (try clear hi); (try clear ho0)) | ((with_reducible refine gate_dst (N := 11) rfl ?_); (try (refine gate_guard (by rfl) ?_; dsimp only)); refine Kd.R_lit (Kd.int .u8) _ 5 ?hg (N := 11) ?hd (xs := ([1, 244, 0, 10, 255, 254] : List Int)) (inner := [.int .u8 1, .int .u8 244, .int .u8 0, .int .u8 10, .int .u8 255, .int .u8 254]) (ok := fun _ => True) (okp := fun _ => True) ?hr ?hp (fun _ hk => hk) trivial (Below.refl _ _) (Nat.le_refl _) (by simp) ?_; (case hd => rfl); (case hg => rfl); (case hr => first | (go_simp; done) | (go_simp; rfl)); (case hp => exact (Reps.one (show Kd.M (Kd.int .u8) _ _ _ 1 [.int .u8 1] from rfl) (Reps.one (show Kd.M (Kd.int .u8) _ _ _ 244 [.int .u8 244] from rfl) (Reps.one (show Kd.M (Kd.int .u8) _ _ _ 0 [.int .u8 0] from rfl) (Reps.one (show Kd.M (Kd.int .u8) _ _ _ 10 [.int .u8 10] from rfl) (Reps.one (show Kd.M (Kd.int .u8) _ _ _ 255 [.int .u8 255] from rfl) (Reps.one (show Kd.M (Kd.int .u8) _ _ _ 254 [.int .u8 254] from rfl) (Reps.none _ _)))))))); intro v418 w49 ho50 hb hg_ hnew_; clear hg_ hnew_; (first | rw [← Ny417.out] at ho50 | (simp only [Int.reduceToNat] at ho50; rw [← Ny417.out] at ho50)); have n0_ := Aside0.mk (Kd.R_elder' (by (with_reducible repeat (first | apply Kd.R_alloc | apply Kd.R_drewN | apply Kd.R_drew)); exact HO412.out) (Kd.R_base ho50) hb); have n1_ := Aside0.mk (Kd.R_below (by (with_reducible repeat (first | apply Kd.R_alloc | apply Kd.R_drewN | apply Kd.R_drew)); exact HO416.out) hb); have n2_ := Aside0.mk (Kd.R_lower (Kd.R_new' ho50 (Kd.R_lt (by (with_reducible repeat (first | apply Kd.R_alloc | apply Kd.R_drewN | apply Kd.R_drew)); exact HO412.out))) (below_size (by repeat (first | (with_reducible first | exact HB.out | apply below_alloc | apply pw_below_drewN | apply below_drew1) | exact HB.out)))); have n3_ := Aside0.mk (below_step (by repeat (first | (with_reducible first | exact HB.out | apply below_alloc | apply pw_below_drewN | apply below_drew1) | exact HB.out)) hb); clear HO412; clear HO416; clear HB; have HO412 := n0_; have HO416 := n1_; have HO419 := n2_; have HB := n3_; clear n0_ n1_ n2_ n3_; clear hb ho50; obtain ⟨Ao51, co51, eo51⟩ := Kd.R_slice HO419.out; subst eo51) | ((with_reducible refine gate_callee (f := 58) rfl ?_); refine goesL_ (some 12) rfl rfl Try.func58 (by kernel_rfl) rfl #[.slice Ao51 y417.length co51, .int .i64 1, .int .i64 2] rfl (by (try simp only [List.map_toArray, List.map_cons, List.map_nil]); first | done | rfl | (simp only [List.length_drop, List.length_take]; rfl)) ?_; (with_reducible refine (loca_Metrics.calls k _ _ y417 1 2 t420 t421 _ ?side1 ?side2 A2.out).mono ?_); (case side1 => repeat (first | exact (Kd.R_reads' HO419.out).2.2 | (with_reducible refine Kd.C_alloc ?_ _) | (with_reducible refine Kd.C_drewN ?_ _) | (with_reducible refine Kd.C_drew ?_))); (case side2 => exact (Kd.R_reads' HO419.out).2.1); rintro e w52 ⟨v422, rfl, ho0, hb⟩; refine ⟨_, rfl, ?_⟩; have n0_ := Aside0.mk (Kd.R_below (by (with_reducible repeat (first | apply Kd.R_alloc | apply Kd.R_drewN | apply Kd.R_drew)); exact HO412.out) hb); have n1_ := Aside0.mk (Kd.R_below (by (with_reducible repeat (first | apply Kd.R_alloc | apply Kd.R_drewN | apply Kd.R_drew)); exact HO416.out) hb); have n2_ := Aside0.mk (Kd.R_below (by (with_reducible repeat (first | apply Kd.R_alloc | apply Kd.R_drewN | apply Kd.R_drew)); exact HO419.out) hb); have n3_ := Aside0.mk (Kd.R_lower ho0 (below_size (by repeat (first | (with_reducible first | exact HB.out | apply below_alloc | apply pw_below_drewN | apply below_drew1) | exact HB.out)))); have n4_ := Aside0.mk (below_step (by repeat (first | (with_reducible first | exact HB.out | apply below_alloc | apply pw_below_drewN | apply below_drew1) | exact HB.out)) hb); clear HO412; clear HO416; clear HO419; clear HB; have HO412 := n0_; have HO416 := n1_; have HO419 := n2_; have HO423 := n3_; have HB := n4_; clear n0_ n1_ n2_ n3_ n4_; (try clear hb); (try clear hb2); (try clear hk); (try clear hi); (try clear ho0)) | ((with_reducible refine gate_dst (N := 19) rfl ?_); (try (refine gate_guard (by rfl) ?_; dsimp only)); refine Kd.R_lit (Kd.int .i64) _ 3 ?hg (N := 19) ?hd (xs := ([0, 4, 10] : List Int)) (inner := [.int .i64 0, .int .i64 4, .int .i64 10]) (ok := fun _ => True) (okp := fun _ => True) ?hr ?hp (fun _ hk => hk) trivial (Below.refl _ _) (Nat.le_refl _) (by simp) ?_; (case hd => rfl); (case hg => rfl); (case hr => first | (go_simp; done) | (go_simp; rfl)); (case hp => exact (Reps.one (show Kd.M (Kd.int .i64) _ _ _ 0 [.int .i64 0] from rfl) (Reps.one (show Kd.M (Kd.int .i64) _ _ _ 4 [.int .i64 4] from rfl) (Reps.one (show Kd.M (Kd.int .i64) _ _ _ 10 [.int .i64 10] from rfl) (Reps.none _ _))))); intro v425 w53 ho54 hb hg_ hnew_; clear hg_ hnew_; (first | rw [← Ny424.out] at ho54 | (simp only [Int.reduceToNat] at ho54; rw [← Ny424.out] at ho54)); have n0_ := Aside0.mk (Kd.R_below (by (with_reducible repeat (first | apply Kd.R_alloc | apply Kd.R_drewN | apply Kd.R_drew)); exact HO412.out) hb); have n1_ := Aside0.mk (Kd.R_elder' (by (with_reducible repeat (first | apply Kd.R_alloc | apply Kd.R_drewN | apply Kd.R_drew)); exact HO416.out) (Kd.R_base ho54) hb); have n2_ := Aside0.mk (Kd.R_below (by (with_reducible repeat (first | apply Kd.R_alloc | apply Kd.R_drewN | apply Kd.R_drew)); exact HO419.out) hb); have n3_ := Aside0.mk (Kd.R_below (by (with_reducible repeat (first | apply Kd.R_alloc | apply Kd.R_drewN | apply Kd.R_drew)); exact HO423.out) hb); have n4_ := Aside0.mk (Kd.R_lower (Kd.R_new' ho54 (Kd.R_lt (by (with_reducible repeat (first | apply Kd.R_alloc | apply Kd.R_drewN | apply Kd.R_drew)); exact HO416.out))) (below_size (by repeat (first | (with_reducible first | exact HB.out | apply below_alloc | apply pw_below_drewN | apply below_drew1) | exact HB.out)))); have n5_ := Aside0.mk (below_step (by repeat (first | (with_reducible first | exact HB.out | apply below_alloc | apply pw_below_drewN | apply below_drew1) | exact HB.out)) hb); clear HO412; clear HO416; clear HO419; clear HO423; clear HB; have HO412 := n0_; have HO416 := n1_; have HO419 := n2_; have HO423 := n3_; have HO426 := n4_; have HB := n5_; clear n0_ n1_ n2_ n3_ n4_ n5_; clear hb ho54; obtain ⟨Ao55, co55, eo55⟩ := Kd.R_slice HO416.out; subst eo55; obtain ⟨Ao56, co56, eo56⟩ := Kd.R_slice HO426.out; subst eo56) | (go_at_call 53; (with_reducible refine (calamusref02_Ints.calls k _ _ t413 _ _ y424 true _ ?side1 ?side2 ?side3 ?side4 A4.out).mono ?_); (case side1 => repeat (first | exact (Kd.R_reads' HO416.out).2.2 | (with_reducible refine Kd.C_alloc ?_ _) | (with_reducible refine Kd.C_drewN ?_ _) | (with_reducible refine Kd.C_drew ?_))); (case side2 => exact (Kd.R_reads' HO416.out).2.1); (case side3 => repeat (first | exact (Kd.R_reads' HO426.out).2.2 | (with_reducible refine Kd.C_alloc ?_ _) | (with_reducible refine Kd.C_drewN ?_ _) | (with_reducible refine Kd.C_drew ?_))); (case side4 => exact (Kd.R_reads' HO426.out).2.1); rintro e w' ⟨rfl, ⟨nd, rfl⟩⟩) | ((with_reducible refine gate_dst (N := 23) rfl ?_); (try (refine gate_guard (by rfl) ?_; dsimp only)); refine Kd.R_lit (Kd.int .i64) _ 3 ?hg (N := 23) ?hd (xs := ([0, 4, 9] : List Int)) (inner := [.int .i64 0, .int .i64 4, .int .i64 9]) (ok := fun _ => True) (okp := fun _ => True) ?hr ?hp (fun _ hk => hk) trivial (Below.refl _ _) (Nat.le_refl _) (by simp) ?_; (case hd => rfl); (case hg => rfl); (case hr => first | (go_simp; done) | (go_simp; rfl)); (case hp => exact (Reps.one (show Kd.M (Kd.int .i64) _ _ _ 0 [.int .i64 0] from rfl) (Reps.one (show Kd.M (Kd.int .i64) _ _ _ 4 [.int .i64 4] from rfl) (Reps.one (show Kd.M (Kd.int .i64) _ _ _ 9 [.int .i64 9] from rfl) (Reps.none _ _))))); intro v429 w57 ho58 hb hg_ hnew_; clear hg_ hnew_; (first | rw [← Ny428.out] at ho58 | (simp only [Int.reduceToNat] at ho58; rw [← Ny428.out] at ho58)); have n0_ := Aside0.mk (Kd.R_below (by (with_reducible repeat (first | apply Kd.R_alloc | apply Kd.R_drewN | apply Kd.R_drew)); exact HO412.out) hb); have n1_ := Aside0.mk (Kd.R_elder' (by (with_reducible repeat (first | apply Kd.R_alloc | apply Kd.R_drewN | apply Kd.R_drew)); exact HO416.out) (Kd.R_base ho58) hb); have n2_ := Aside0.mk (Kd.R_below (by (with_reducible repeat (first | apply Kd.R_alloc | apply Kd.R_drewN | apply Kd.R_drew)); exact HO419.out) hb); have n3_ := Aside0.mk (Kd.R_below (by (with_reducible repeat (first | apply Kd.R_alloc | apply Kd.R_drewN | apply Kd.R_drew)); exact HO423.out) hb); have n4_ := Aside0.mk (Kd.R_elder' (by (with_reducible repeat (first | apply Kd.R_alloc | apply Kd.R_drewN | apply Kd.R_drew)); exact HO426.out) (Kd.R_base ho58) hb); have n5_ := Aside0.mk (Kd.R_lower (Kd.R_new' (Kd.R_new' ho58 (Kd.R_lt (by (with_reducible repeat (first | apply Kd.R_alloc | apply Kd.R_drewN | apply Kd.R_drew)); exact HO416.out))) (Kd.R_lt (by (with_reducible repeat (first | apply Kd.R_alloc | apply Kd.R_drewN | apply Kd.R_drew)); exact HO426.out))) (below_size (by repeat (first | (with_reducible first | exact HB.out | apply below_alloc | apply pw_below_drewN | apply below_drew1) | exact HB.out)))); have n6_ := Aside0.mk (below_step (by repeat (first | (with_reducible first | exact HB.out | apply below_alloc | apply pw_below_drewN | apply below_drew1) | exact HB.out)) hb); clear HO412; clear HO416; clear HO419; clear HO423; clear HO426; clear HB; have HO412 := n0_; have HO416 := n1_; have HO419 := n2_; have HO423 := n3_; have HO426 := n4_; have HO430 := n5_; have HB := n6_; clear n0_ n1_ n2_ n3_ n4_ n5_ n6_; clear hb ho58; obtain ⟨Ao59, co59, eo59⟩ := Kd.R_slice HO430.out; subst eo59) | (go_at_call 56; (with_reducible refine (loca_Long.calls _ _ y428 true _ ?side1 ?side2 A6.out).mono ?_); (case side1 => repeat (first | exact (Kd.R_reads' HO430.out).2.2 | (with_reducible refine Kd.C_alloc ?_ _) | (with_reducible refine Kd.C_drewN ?_ _) | (with_reducible refine Kd.C_drew ?_))); (case side2 => exact (Kd.R_reads' HO430.out).2.1); rintro e w60 ⟨rfl, hb⟩; have n0_ := Aside0.mk (Kd.R_below (by (with_reducible repeat (first | apply Kd.R_alloc | apply Kd.R_drewN | apply Kd.R_drew)); exact HO412.out) hb); have n1_ := Aside0.mk (Kd.R_below (by (with_reducible repeat (first | apply Kd.R_alloc | apply Kd.R_drewN | apply Kd.R_drew)); exact HO416.out) hb); have n2_ := Aside0.mk (Kd.R_below (by (with_reducible repeat (first | apply Kd.R_alloc | apply Kd.R_drewN | apply Kd.R_drew)); exact HO419.out) hb); have n3_ := Aside0.mk (Kd.R_below (by (with_reducible repeat (first | apply Kd.R_alloc | apply Kd.R_drewN | apply Kd.R_drew)); exact HO423.out) hb); have n4_ := Aside0.mk (Kd.R_below (by (with_reducible repeat (first | apply Kd.R_alloc | apply Kd.R_drewN | apply Kd.R_drew)); exact HO426.out) hb); have n5_ := Aside0.mk (Kd.R_below (by (with_reducible repeat (first | apply Kd.R_alloc | apply Kd.R_drewN | apply Kd.R_drew)); exact HO430.out) hb); have n6_ := Aside0.mk (below_step (by repeat (first | (with_reducible first | exact HB.out | apply below_alloc | apply pw_below_drewN | apply below_drew1) | exact HB.out)) hb); clear HO412; clear HO416; clear HO419; clear HO423; clear HO426; clear HO430; clear HB; have HO412 := n0_; have HO416 := n1_; have HO419 := n2_; have HO423 := n3_; have HO426 := n4_; have HO430 := n5_; have HB := n6_; clear n0_ n1_ n2_ n3_ n4_ n5_ n6_; (try clear hb); (try clear hb2); (try clear hk); (try clear hi)))
          go_ret
          exact ⟨by first | rfl | (simp [errW_none, errW_some] <;> rfl) | (simp [*, errW_none, errW_some] <;> rfl), by repeat (first | (with_reducible first | exact HB.out | apply below_alloc | apply pw_below_drewN | apply below_drew1) | exact HB.out)⟩
      · replace c7 := Bool.eq_false_iff.mpr c7
        subst c7
        have H1 : (some false) = some r := by rw [if_neg (show ¬ (false = true) by decide)] at H; exact H
        clear H
        have H := H1
        clear H1
        obtain rfl := Option.some.inj H
        go_enter Try.func50, Try.ntmps50
        go_wp2_with (first | ((with_reducible refine gate_dst (N := 6) rfl ?_); (try (refine gate_guard (by rfl) ?_; dsimp only)); refine Kd.R_lit (Kd.int .u8) _ 5 ?hg (N := 6) ?hd (xs := ([0, 0, 0, 2, 0, 5] : List Int)) (inner := [.int .u8 0, .int .u8 0, .int .u8 0, .int .u8 2, .int .u8 0, .int .u8 5]) (ok := fun _ => True) (okp := fun _ => True) ?hr ?hp (fun _ hk => hk) trivial (Below.refl _ _) (Nat.le_refl _) (by simp) ?_; (case hd => rfl); (case hg => rfl); (case hr => first | (go_simp; done) | (go_simp; rfl)); (case hp => exact (Reps.one (show Kd.M (Kd.int .u8) _ _ _ 0 [.int .u8 0] from rfl) (Reps.one (show Kd.M (Kd.int .u8) _ _ _ 0 [.int .u8 0] from rfl) (Reps.one (show Kd.M (Kd.int .u8) _ _ _ 0 [.int .u8 0] from rfl) (Reps.one (show Kd.M (Kd.int .u8) _ _ _ 2 [.int .u8 2] from rfl) (Reps.one (show Kd.M (Kd.int .u8) _ _ _ 0 [.int .u8 0] from rfl) (Reps.one (show Kd.M (Kd.int .u8) _ _ _ 5 [.int .u8 5] from rfl) (Reps.none _ _)))))))); intro v411 w61 ho62 hb hg_ hnew_; clear hg_ hnew_; (first | rw [← Ny410.out] at ho62 | (simp only [Int.reduceToNat] at ho62; rw [← Ny410.out] at ho62)); have n0_ := Aside0.mk (Kd.R_lower ho62 (below_size (by repeat (first | (with_reducible first | exact HB.out | apply below_alloc | apply pw_below_drewN | apply below_drew1) | exact HB.out)))); have n1_ := Aside0.mk (below_step (by repeat (first | (with_reducible first | exact HB.out | apply below_alloc | apply pw_below_drewN | apply below_drew1) | exact HB.out)) hb); clear HB; have HO412 := n0_; have HB := n1_; clear n0_ n1_; clear hb ho62; obtain ⟨Ao63, co63, eo63⟩ := Kd.R_slice HO412.out; subst eo63) | ((with_reducible refine gate_callee (f := 51) rfl ?_); refine goesL_ (some 7) rfl rfl Try.func51 (by kernel_rfl) rfl #[.slice Ao63 y410.length co63, .bool false, .int .i64 2] rfl (by (try simp only [List.map_toArray, List.map_cons, List.map_nil]); first | done | rfl | (simp only [List.length_drop, List.length_take]; rfl)) ?_; (with_reducible refine (loca_Read.calls k _ _ y410 false 2 t413 t414 _ ?side1 ?side2 A1.out).mono ?_); (case side1 => repeat (first | exact (Kd.R_reads' HO412.out).2.2 | (with_reducible refine Kd.C_alloc ?_ _) | (with_reducible refine Kd.C_drewN ?_ _) | (with_reducible refine Kd.C_drew ?_))); (case side2 => exact (Kd.R_reads' HO412.out).2.1); rintro e w64 ⟨v415, rfl, ho0, hb⟩; refine ⟨_, rfl, ?_⟩; have n0_ := Aside0.mk (Kd.R_below (by (with_reducible repeat (first | apply Kd.R_alloc | apply Kd.R_drewN | apply Kd.R_drew)); exact HO412.out) hb); have n1_ := Aside0.mk (Kd.R_lower ho0 (below_size (by repeat (first | (with_reducible first | exact HB.out | apply below_alloc | apply pw_below_drewN | apply below_drew1) | exact HB.out)))); have n2_ := Aside0.mk (below_step (by repeat (first | (with_reducible first | exact HB.out | apply below_alloc | apply pw_below_drewN | apply below_drew1) | exact HB.out)) hb); clear HO412; clear HB; have HO412 := n0_; have HO416 := n1_; have HB := n2_; clear n0_ n1_ n2_; (try clear hb); (try clear hb2); (try clear hk); (try clear hi); (try clear ho0)) | ((with_reducible refine gate_dst (N := 11) rfl ?_); (try (refine gate_guard (by rfl) ?_; dsimp only)); refine Kd.R_lit (Kd.int .u8) _ 5 ?hg (N := 11) ?hd (xs := ([1, 244, 0, 10, 255, 254] : List Int)) (inner := [.int .u8 1, .int .u8 244, .int .u8 0, .int .u8 10, .int .u8 255, .int .u8 254]) (ok := fun _ => True) (okp := fun _ => True) ?hr ?hp (fun _ hk => hk) trivial (Below.refl _ _) (Nat.le_refl _) (by simp) ?_; (case hd => rfl); (case hg => rfl); (case hr => first | (go_simp; done) | (go_simp; rfl)); (case hp => exact (Reps.one (show Kd.M (Kd.int .u8) _ _ _ 1 [.int .u8 1] from rfl) (Reps.one (show Kd.M (Kd.int .u8) _ _ _ 244 [.int .u8 244] from rfl) (Reps.one (show Kd.M (Kd.int .u8) _ _ _ 0 [.int .u8 0] from rfl) (Reps.one (show Kd.M (Kd.int .u8) _ _ _ 10 [.int .u8 10] from rfl) (Reps.one (show Kd.M (Kd.int .u8) _ _ _ 255 [.int .u8 255] from rfl) (Reps.one (show Kd.M (Kd.int .u8) _ _ _ 254 [.int .u8 254] from rfl) (Reps.none _ _)))))))); intro v418 w65 ho66 hb hg_ hnew_; clear hg_ hnew_; (first | rw [← Ny417.out] at ho66 | (simp only [Int.reduceToNat] at ho66; rw [← Ny417.out] at ho66)); have n0_ := Aside0.mk (Kd.R_elder' (by (with_reducible repeat (first | apply Kd.R_alloc | apply Kd.R_drewN | apply Kd.R_drew)); exact HO412.out) (Kd.R_base ho66) hb); have n1_ := Aside0.mk (Kd.R_below (by (with_reducible repeat (first | apply Kd.R_alloc | apply Kd.R_drewN | apply Kd.R_drew)); exact HO416.out) hb); have n2_ := Aside0.mk (Kd.R_lower (Kd.R_new' ho66 (Kd.R_lt (by (with_reducible repeat (first | apply Kd.R_alloc | apply Kd.R_drewN | apply Kd.R_drew)); exact HO412.out))) (below_size (by repeat (first | (with_reducible first | exact HB.out | apply below_alloc | apply pw_below_drewN | apply below_drew1) | exact HB.out)))); have n3_ := Aside0.mk (below_step (by repeat (first | (with_reducible first | exact HB.out | apply below_alloc | apply pw_below_drewN | apply below_drew1) | exact HB.out)) hb); clear HO412; clear HO416; clear HB; have HO412 := n0_; have HO416 := n1_; have HO419 := n2_; have HB := n3_; clear n0_ n1_ n2_ n3_; clear hb ho66; obtain ⟨Ao67, co67, eo67⟩ := Kd.R_slice HO419.out; subst eo67) | ((with_reducible refine gate_callee (f := 58) rfl ?_); refine goesL_ (some 12) rfl rfl Try.func58 (by kernel_rfl) rfl #[.slice Ao67 y417.length co67, .int .i64 1, .int .i64 2] rfl (by (try simp only [List.map_toArray, List.map_cons, List.map_nil]); first | done | rfl | (simp only [List.length_drop, List.length_take]; rfl)) ?_; (with_reducible refine (loca_Metrics.calls k _ _ y417 1 2 t420 t421 _ ?side1 ?side2 A2.out).mono ?_); (case side1 => repeat (first | exact (Kd.R_reads' HO419.out).2.2 | (with_reducible refine Kd.C_alloc ?_ _) | (with_reducible refine Kd.C_drewN ?_ _) | (with_reducible refine Kd.C_drew ?_))); (case side2 => exact (Kd.R_reads' HO419.out).2.1); rintro e w68 ⟨v422, rfl, ho0, hb⟩; refine ⟨_, rfl, ?_⟩; have n0_ := Aside0.mk (Kd.R_below (by (with_reducible repeat (first | apply Kd.R_alloc | apply Kd.R_drewN | apply Kd.R_drew)); exact HO412.out) hb); have n1_ := Aside0.mk (Kd.R_below (by (with_reducible repeat (first | apply Kd.R_alloc | apply Kd.R_drewN | apply Kd.R_drew)); exact HO416.out) hb); have n2_ := Aside0.mk (Kd.R_below (by (with_reducible repeat (first | apply Kd.R_alloc | apply Kd.R_drewN | apply Kd.R_drew)); exact HO419.out) hb); have n3_ := Aside0.mk (Kd.R_lower ho0 (below_size (by repeat (first | (with_reducible first | exact HB.out | apply below_alloc | apply pw_below_drewN | apply below_drew1) | exact HB.out)))); have n4_ := Aside0.mk (below_step (by repeat (first | (with_reducible first | exact HB.out | apply below_alloc | apply pw_below_drewN | apply below_drew1) | exact HB.out)) hb); clear HO412; clear HO416; clear HO419; clear HB; have HO412 := n0_; have HO416 := n1_; have HO419 := n2_; have HO423 := n3_; have HB := n4_; clear n0_ n1_ n2_ n3_ n4_; (try clear hb); (try clear hb2); (try clear hk); (try clear hi); (try clear ho0)) | ((with_reducible refine gate_dst (N := 19) rfl ?_); (try (refine gate_guard (by rfl) ?_; dsimp only)); refine Kd.R_lit (Kd.int .i64) _ 3 ?hg (N := 19) ?hd (xs := ([0, 4, 10] : List Int)) (inner := [.int .i64 0, .int .i64 4, .int .i64 10]) (ok := fun _ => True) (okp := fun _ => True) ?hr ?hp (fun _ hk => hk) trivial (Below.refl _ _) (Nat.le_refl _) (by simp) ?_; (case hd => rfl); (case hg => rfl); (case hr => first | (go_simp; done) | (go_simp; rfl)); (case hp => exact (Reps.one (show Kd.M (Kd.int .i64) _ _ _ 0 [.int .i64 0] from rfl) (Reps.one (show Kd.M (Kd.int .i64) _ _ _ 4 [.int .i64 4] from rfl) (Reps.one (show Kd.M (Kd.int .i64) _ _ _ 10 [.int .i64 10] from rfl) (Reps.none _ _))))); intro v425 w69 ho70 hb hg_ hnew_; clear hg_ hnew_; (first | rw [← Ny424.out] at ho70 | (simp only [Int.reduceToNat] at ho70; rw [← Ny424.out] at ho70)); have n0_ := Aside0.mk (Kd.R_below (by (with_reducible repeat (first | apply Kd.R_alloc | apply Kd.R_drewN | apply Kd.R_drew)); exact HO412.out) hb); have n1_ := Aside0.mk (Kd.R_elder' (by (with_reducible repeat (first | apply Kd.R_alloc | apply Kd.R_drewN | apply Kd.R_drew)); exact HO416.out) (Kd.R_base ho70) hb); have n2_ := Aside0.mk (Kd.R_below (by (with_reducible repeat (first | apply Kd.R_alloc | apply Kd.R_drewN | apply Kd.R_drew)); exact HO419.out) hb); have n3_ := Aside0.mk (Kd.R_below (by (with_reducible repeat (first | apply Kd.R_alloc | apply Kd.R_drewN | apply Kd.R_drew)); exact HO423.out) hb); have n4_ := Aside0.mk (Kd.R_lower (Kd.R_new' ho70 (Kd.R_lt (by (with_reducible repeat (first | apply Kd.R_alloc | apply Kd.R_drewN | apply Kd.R_drew)); exact HO416.out))) (below_size (by repeat (first | (with_reducible first | exact HB.out | apply below_alloc | apply pw_below_drewN | apply below_drew1) | exact HB.out)))); have n5_ := Aside0.mk (below_step (by repeat (first | (with_reducible first | exact HB.out | apply below_alloc | apply pw_below_drewN | apply below_drew1) | exact HB.out)) hb); clear HO412; clear HO416; clear HO419; clear HO423; clear HB; have HO412 := n0_; have HO416 := n1_; have HO419 := n2_; have HO423 := n3_; have HO426 := n4_; have HB := n5_; clear n0_ n1_ n2_ n3_ n4_ n5_; clear hb ho70; obtain ⟨Ao71, co71, eo71⟩ := Kd.R_slice HO416.out; subst eo71; obtain ⟨Ao72, co72, eo72⟩ := Kd.R_slice HO426.out; subst eo72) | (go_at_call 53; (with_reducible refine (calamusref02_Ints.calls k _ _ t413 _ _ y424 true _ ?side1 ?side2 ?side3 ?side4 A4.out).mono ?_); (case side1 => repeat (first | exact (Kd.R_reads' HO416.out).2.2 | (with_reducible refine Kd.C_alloc ?_ _) | (with_reducible refine Kd.C_drewN ?_ _) | (with_reducible refine Kd.C_drew ?_))); (case side2 => exact (Kd.R_reads' HO416.out).2.1); (case side3 => repeat (first | exact (Kd.R_reads' HO426.out).2.2 | (with_reducible refine Kd.C_alloc ?_ _) | (with_reducible refine Kd.C_drewN ?_ _) | (with_reducible refine Kd.C_drew ?_))); (case side4 => exact (Kd.R_reads' HO426.out).2.1); rintro e w' ⟨rfl, ⟨nd, rfl⟩⟩) | ((with_reducible refine gate_dst (N := 23) rfl ?_); (try (refine gate_guard (by rfl) ?_; dsimp only)); refine Kd.R_lit (Kd.int .i64) _ 3 ?hg (N := 23) ?hd (xs := ([0, 4, 9] : List Int)) (inner := [.int .i64 0, .int .i64 4, .int .i64 9]) (ok := fun _ => True) (okp := fun _ => True) ?hr ?hp (fun _ hk => hk) trivial (Below.refl _ _) (Nat.le_refl _) (by simp) ?_; (case hd => rfl); (case hg => rfl); (case hr => first | (go_simp; done) | (go_simp; rfl)); (case hp => exact (Reps.one (show Kd.M (Kd.int .i64) _ _ _ 0 [.int .i64 0] from rfl) (Reps.one (show Kd.M (Kd.int .i64) _ _ _ 4 [.int .i64 4] from rfl) (Reps.one (show Kd.M (Kd.int .i64) _ _ _ 9 [.int .i64 9] from rfl) (Reps.none _ _))))); intro v429 w73 ho74 hb hg_ hnew_; clear hg_ hnew_; (first | rw [← Ny428.out] at ho74 | (simp only [Int.reduceToNat] at ho74; rw [← Ny428.out] at ho74)); have n0_ := Aside0.mk (Kd.R_below (by (with_reducible repeat (first | apply Kd.R_alloc | apply Kd.R_drewN | apply Kd.R_drew)); exact HO412.out) hb); have n1_ := Aside0.mk (Kd.R_elder' (by (with_reducible repeat (first | apply Kd.R_alloc | apply Kd.R_drewN | apply Kd.R_drew)); exact HO416.out) (Kd.R_base ho74) hb); have n2_ := Aside0.mk (Kd.R_below (by (with_reducible repeat (first | apply Kd.R_alloc | apply Kd.R_drewN | apply Kd.R_drew)); exact HO419.out) hb); have n3_ := Aside0.mk (Kd.R_below (by (with_reducible repeat (first | apply Kd.R_alloc | apply Kd.R_drewN | apply Kd.R_drew)); exact HO423.out) hb); have n4_ := Aside0.mk (Kd.R_elder' (by (with_reducible repeat (first | apply Kd.R_alloc | apply Kd.R_drewN | apply Kd.R_drew)); exact HO426.out) (Kd.R_base ho74) hb); have n5_ := Aside0.mk (Kd.R_lower (Kd.R_new' (Kd.R_new' ho74 (Kd.R_lt (by (with_reducible repeat (first | apply Kd.R_alloc | apply Kd.R_drewN | apply Kd.R_drew)); exact HO416.out))) (Kd.R_lt (by (with_reducible repeat (first | apply Kd.R_alloc | apply Kd.R_drewN | apply Kd.R_drew)); exact HO426.out))) (below_size (by repeat (first | (with_reducible first | exact HB.out | apply below_alloc | apply pw_below_drewN | apply below_drew1) | exact HB.out)))); have n6_ := Aside0.mk (below_step (by repeat (first | (with_reducible first | exact HB.out | apply below_alloc | apply pw_below_drewN | apply below_drew1) | exact HB.out)) hb); clear HO412; clear HO416; clear HO419; clear HO423; clear HO426; clear HB; have HO412 := n0_; have HO416 := n1_; have HO419 := n2_; have HO423 := n3_; have HO426 := n4_; have HO430 := n5_; have HB := n6_; clear n0_ n1_ n2_ n3_ n4_ n5_ n6_; clear hb ho74; obtain ⟨Ao75, co75, eo75⟩ := Kd.R_slice HO430.out; subst eo75) | (go_at_call 56; (with_reducible refine (loca_Long.calls _ _ y428 false _ ?side1 ?side2 A6.out).mono ?_); (case side1 => repeat (first | exact (Kd.R_reads' HO430.out).2.2 | (with_reducible refine Kd.C_alloc ?_ _) | (with_reducible refine Kd.C_drewN ?_ _) | (with_reducible refine Kd.C_drew ?_))); (case side2 => exact (Kd.R_reads' HO430.out).2.1); rintro e w76 ⟨rfl, hb⟩; have n0_ := Aside0.mk (Kd.R_below (by (with_reducible repeat (first | apply Kd.R_alloc | apply Kd.R_drewN | apply Kd.R_drew)); exact HO412.out) hb); have n1_ := Aside0.mk (Kd.R_below (by (with_reducible repeat (first | apply Kd.R_alloc | apply Kd.R_drewN | apply Kd.R_drew)); exact HO416.out) hb); have n2_ := Aside0.mk (Kd.R_below (by (with_reducible repeat (first | apply Kd.R_alloc | apply Kd.R_drewN | apply Kd.R_drew)); exact HO419.out) hb); have n3_ := Aside0.mk (Kd.R_below (by (with_reducible repeat (first | apply Kd.R_alloc | apply Kd.R_drewN | apply Kd.R_drew)); exact HO423.out) hb); have n4_ := Aside0.mk (Kd.R_below (by (with_reducible repeat (first | apply Kd.R_alloc | apply Kd.R_drewN | apply Kd.R_drew)); exact HO426.out) hb); have n5_ := Aside0.mk (Kd.R_below (by (with_reducible repeat (first | apply Kd.R_alloc | apply Kd.R_drewN | apply Kd.R_drew)); exact HO430.out) hb); have n6_ := Aside0.mk (below_step (by repeat (first | (with_reducible first | exact HB.out | apply below_alloc | apply pw_below_drewN | apply below_drew1) | exact HB.out)) hb); clear HO412; clear HO416; clear HO419; clear HO423; clear HO426; clear HO430; clear HB; have HO412 := n0_; have HO416 := n1_; have HO419 := n2_; have HO423 := n3_; have HO426 := n4_; have HO430 := n5_; have HB := n6_; clear n0_ n1_ n2_ n3_ n4_ n5_ n6_; (try clear hb); (try clear hb2); (try clear hk); (try clear hi)))
        go_ret
        exact ⟨by first | rfl | (simp [errW_none, errW_some] <;> rfl) | (simp [*, errW_none, errW_some] <;> rfl), by repeat (first | (with_reducible first | exact HB.out | apply below_alloc | apply pw_below_drewN | apply below_drew1) | exact HB.out)⟩
    · replace c5 := Bool.eq_false_iff.mpr c5
      subst c5
      have H1 : (some false) = some r := by rw [if_neg (show ¬ (false = true) by decide)] at H; exact H
      clear H
      have H := H1
      clear H1
      obtain rfl := Option.some.inj H
      go_enter Try.func50, Try.ntmps50
      go_wp2_with (first | ((with_reducible refine gate_dst (N := 6) rfl ?_); (try (refine gate_guard (by rfl) ?_; dsimp only)); refine Kd.R_lit (Kd.int .u8) _ 5 ?hg (N := 6) ?hd (xs := ([0, 0, 0, 2, 0, 5] : List Int)) (inner := [.int .u8 0, .int .u8 0, .int .u8 0, .int .u8 2, .int .u8 0, .int .u8 5]) (ok := fun _ => True) (okp := fun _ => True) ?hr ?hp (fun _ hk => hk) trivial (Below.refl _ _) (Nat.le_refl _) (by simp) ?_; (case hd => rfl); (case hg => rfl); (case hr => first | (go_simp; done) | (go_simp; rfl)); (case hp => exact (Reps.one (show Kd.M (Kd.int .u8) _ _ _ 0 [.int .u8 0] from rfl) (Reps.one (show Kd.M (Kd.int .u8) _ _ _ 0 [.int .u8 0] from rfl) (Reps.one (show Kd.M (Kd.int .u8) _ _ _ 0 [.int .u8 0] from rfl) (Reps.one (show Kd.M (Kd.int .u8) _ _ _ 2 [.int .u8 2] from rfl) (Reps.one (show Kd.M (Kd.int .u8) _ _ _ 0 [.int .u8 0] from rfl) (Reps.one (show Kd.M (Kd.int .u8) _ _ _ 5 [.int .u8 5] from rfl) (Reps.none _ _)))))))); intro v411 w77 ho78 hb hg_ hnew_; clear hg_ hnew_; (first | rw [← Ny410.out] at ho78 | (simp only [Int.reduceToNat] at ho78; rw [← Ny410.out] at ho78)); have n0_ := Aside0.mk (Kd.R_lower ho78 (below_size (by repeat (first | (with_reducible first | exact HB.out | apply below_alloc | apply pw_below_drewN | apply below_drew1) | exact HB.out)))); have n1_ := Aside0.mk (below_step (by repeat (first | (with_reducible first | exact HB.out | apply below_alloc | apply pw_below_drewN | apply below_drew1) | exact HB.out)) hb); clear HB; have HO412 := n0_; have HB := n1_; clear n0_ n1_; clear hb ho78; obtain ⟨Ao79, co79, eo79⟩ := Kd.R_slice HO412.out; subst eo79) | ((with_reducible refine gate_callee (f := 51) rfl ?_); refine goesL_ (some 7) rfl rfl Try.func51 (by kernel_rfl) rfl #[.slice Ao79 y410.length co79, .bool false, .int .i64 2] rfl (by (try simp only [List.map_toArray, List.map_cons, List.map_nil]); first | done | rfl | (simp only [List.length_drop, List.length_take]; rfl)) ?_; (with_reducible refine (loca_Read.calls k _ _ y410 false 2 t413 t414 _ ?side1 ?side2 A1.out).mono ?_); (case side1 => repeat (first | exact (Kd.R_reads' HO412.out).2.2 | (with_reducible refine Kd.C_alloc ?_ _) | (with_reducible refine Kd.C_drewN ?_ _) | (with_reducible refine Kd.C_drew ?_))); (case side2 => exact (Kd.R_reads' HO412.out).2.1); rintro e w80 ⟨v415, rfl, ho0, hb⟩; refine ⟨_, rfl, ?_⟩; have n0_ := Aside0.mk (Kd.R_below (by (with_reducible repeat (first | apply Kd.R_alloc | apply Kd.R_drewN | apply Kd.R_drew)); exact HO412.out) hb); have n1_ := Aside0.mk (Kd.R_lower ho0 (below_size (by repeat (first | (with_reducible first | exact HB.out | apply below_alloc | apply pw_below_drewN | apply below_drew1) | exact HB.out)))); have n2_ := Aside0.mk (below_step (by repeat (first | (with_reducible first | exact HB.out | apply below_alloc | apply pw_below_drewN | apply below_drew1) | exact HB.out)) hb); clear HO412; clear HB; have HO412 := n0_; have HO416 := n1_; have HB := n2_; clear n0_ n1_ n2_; (try clear hb); (try clear hb2); (try clear hk); (try clear hi); (try clear ho0)) | ((with_reducible refine gate_dst (N := 11) rfl ?_); (try (refine gate_guard (by rfl) ?_; dsimp only)); refine Kd.R_lit (Kd.int .u8) _ 5 ?hg (N := 11) ?hd (xs := ([1, 244, 0, 10, 255, 254] : List Int)) (inner := [.int .u8 1, .int .u8 244, .int .u8 0, .int .u8 10, .int .u8 255, .int .u8 254]) (ok := fun _ => True) (okp := fun _ => True) ?hr ?hp (fun _ hk => hk) trivial (Below.refl _ _) (Nat.le_refl _) (by simp) ?_; (case hd => rfl); (case hg => rfl); (case hr => first | (go_simp; done) | (go_simp; rfl)); (case hp => exact (Reps.one (show Kd.M (Kd.int .u8) _ _ _ 1 [.int .u8 1] from rfl) (Reps.one (show Kd.M (Kd.int .u8) _ _ _ 244 [.int .u8 244] from rfl) (Reps.one (show Kd.M (Kd.int .u8) _ _ _ 0 [.int .u8 0] from rfl) (Reps.one (show Kd.M (Kd.int .u8) _ _ _ 10 [.int .u8 10] from rfl) (Reps.one (show Kd.M (Kd.int .u8) _ _ _ 255 [.int .u8 255] from rfl) (Reps.one (show Kd.M (Kd.int .u8) _ _ _ 254 [.int .u8 254] from rfl) (Reps.none _ _)))))))); intro v418 w81 ho82 hb hg_ hnew_; clear hg_ hnew_; (first | rw [← Ny417.out] at ho82 | (simp only [Int.reduceToNat] at ho82; rw [← Ny417.out] at ho82)); have n0_ := Aside0.mk (Kd.R_elder' (by (with_reducible repeat (first | apply Kd.R_alloc | apply Kd.R_drewN | apply Kd.R_drew)); exact HO412.out) (Kd.R_base ho82) hb); have n1_ := Aside0.mk (Kd.R_below (by (with_reducible repeat (first | apply Kd.R_alloc | apply Kd.R_drewN | apply Kd.R_drew)); exact HO416.out) hb); have n2_ := Aside0.mk (Kd.R_lower (Kd.R_new' ho82 (Kd.R_lt (by (with_reducible repeat (first | apply Kd.R_alloc | apply Kd.R_drewN | apply Kd.R_drew)); exact HO412.out))) (below_size (by repeat (first | (with_reducible first | exact HB.out | apply below_alloc | apply pw_below_drewN | apply below_drew1) | exact HB.out)))); have n3_ := Aside0.mk (below_step (by repeat (first | (with_reducible first | exact HB.out | apply below_alloc | apply pw_below_drewN | apply below_drew1) | exact HB.out)) hb); clear HO412; clear HO416; clear HB; have HO412 := n0_; have HO416 := n1_; have HO419 := n2_; have HB := n3_; clear n0_ n1_ n2_ n3_; clear hb ho82; obtain ⟨Ao83, co83, eo83⟩ := Kd.R_slice HO419.out; subst eo83) | ((with_reducible refine gate_callee (f := 58) rfl ?_); refine goesL_ (some 12) rfl rfl Try.func58 (by kernel_rfl) rfl #[.slice Ao83 y417.length co83, .int .i64 1, .int .i64 2] rfl (by (try simp only [List.map_toArray, List.map_cons, List.map_nil]); first | done | rfl | (simp only [List.length_drop, List.length_take]; rfl)) ?_; (with_reducible refine (loca_Metrics.calls k _ _ y417 1 2 t420 t421 _ ?side1 ?side2 A2.out).mono ?_); (case side1 => repeat (first | exact (Kd.R_reads' HO419.out).2.2 | (with_reducible refine Kd.C_alloc ?_ _) | (with_reducible refine Kd.C_drewN ?_ _) | (with_reducible refine Kd.C_drew ?_))); (case side2 => exact (Kd.R_reads' HO419.out).2.1); rintro e w84 ⟨v422, rfl, ho0, hb⟩; refine ⟨_, rfl, ?_⟩; have n0_ := Aside0.mk (Kd.R_below (by (with_reducible repeat (first | apply Kd.R_alloc | apply Kd.R_drewN | apply Kd.R_drew)); exact HO412.out) hb); have n1_ := Aside0.mk (Kd.R_below (by (with_reducible repeat (first | apply Kd.R_alloc | apply Kd.R_drewN | apply Kd.R_drew)); exact HO416.out) hb); have n2_ := Aside0.mk (Kd.R_below (by (with_reducible repeat (first | apply Kd.R_alloc | apply Kd.R_drewN | apply Kd.R_drew)); exact HO419.out) hb); have n3_ := Aside0.mk (Kd.R_lower ho0 (below_size (by repeat (first | (with_reducible first | exact HB.out | apply below_alloc | apply pw_below_drewN | apply below_drew1) | exact HB.out)))); have n4_ := Aside0.mk (below_step (by repeat (first | (with_reducible first | exact HB.out | apply below_alloc | apply pw_below_drewN | apply below_drew1) | exact HB.out)) hb); clear HO412; clear HO416; clear HO419; clear HB; have HO412 := n0_; have HO416 := n1_; have HO419 := n2_; have HO423 := n3_; have HB := n4_; clear n0_ n1_ n2_ n3_ n4_; (try clear hb); (try clear hb2); (try clear hk); (try clear hi); (try clear ho0)) | ((with_reducible refine gate_dst (N := 19) rfl ?_); (try (refine gate_guard (by rfl) ?_; dsimp only)); refine Kd.R_lit (Kd.int .i64) _ 3 ?hg (N := 19) ?hd (xs := ([0, 4, 10] : List Int)) (inner := [.int .i64 0, .int .i64 4, .int .i64 10]) (ok := fun _ => True) (okp := fun _ => True) ?hr ?hp (fun _ hk => hk) trivial (Below.refl _ _) (Nat.le_refl _) (by simp) ?_; (case hd => rfl); (case hg => rfl); (case hr => first | (go_simp; done) | (go_simp; rfl)); (case hp => exact (Reps.one (show Kd.M (Kd.int .i64) _ _ _ 0 [.int .i64 0] from rfl) (Reps.one (show Kd.M (Kd.int .i64) _ _ _ 4 [.int .i64 4] from rfl) (Reps.one (show Kd.M (Kd.int .i64) _ _ _ 10 [.int .i64 10] from rfl) (Reps.none _ _))))); intro v425 w85 ho86 hb hg_ hnew_; clear hg_ hnew_; (first | rw [← Ny424.out] at ho86 | (simp only [Int.reduceToNat] at ho86; rw [← Ny424.out] at ho86)); have n0_ := Aside0.mk (Kd.R_below (by (with_reducible repeat (first | apply Kd.R_alloc | apply Kd.R_drewN | apply Kd.R_drew)); exact HO412.out) hb); have n1_ := Aside0.mk (Kd.R_elder' (by (with_reducible repeat (first | apply Kd.R_alloc | apply Kd.R_drewN | apply Kd.R_drew)); exact HO416.out) (Kd.R_base ho86) hb); have n2_ := Aside0.mk (Kd.R_below (by (with_reducible repeat (first | apply Kd.R_alloc | apply Kd.R_drewN | apply Kd.R_drew)); exact HO419.out) hb); have n3_ := Aside0.mk (Kd.R_below (by (with_reducible repeat (first | apply Kd.R_alloc | apply Kd.R_drewN | apply Kd.R_drew)); exact HO423.out) hb); have n4_ := Aside0.mk (Kd.R_lower (Kd.R_new' ho86 (Kd.R_lt (by (with_reducible repeat (first | apply Kd.R_alloc | apply Kd.R_drewN | apply Kd.R_drew)); exact HO416.out))) (below_size (by repeat (first | (with_reducible first | exact HB.out | apply below_alloc | apply pw_below_drewN | apply below_drew1) | exact HB.out)))); have n5_ := Aside0.mk (below_step (by repeat (first | (with_reducible first | exact HB.out | apply below_alloc | apply pw_below_drewN | apply below_drew1) | exact HB.out)) hb); clear HO412; clear HO416; clear HO419; clear HO423; clear HB; have HO412 := n0_; have HO416 := n1_; have HO419 := n2_; have HO423 := n3_; have HO426 := n4_; have HB := n5_; clear n0_ n1_ n2_ n3_ n4_ n5_; clear hb ho86; obtain ⟨Ao87, co87, eo87⟩ := Kd.R_slice HO416.out; subst eo87; obtain ⟨Ao88, co88, eo88⟩ := Kd.R_slice HO426.out; subst eo88) | (go_at_call 53; (with_reducible refine (calamusref02_Ints.calls k _ _ t413 _ _ y424 false _ ?side1 ?side2 ?side3 ?side4 A4.out).mono ?_); (case side1 => repeat (first | exact (Kd.R_reads' HO416.out).2.2 | (with_reducible refine Kd.C_alloc ?_ _) | (with_reducible refine Kd.C_drewN ?_ _) | (with_reducible refine Kd.C_drew ?_))); (case side2 => exact (Kd.R_reads' HO416.out).2.1); (case side3 => repeat (first | exact (Kd.R_reads' HO426.out).2.2 | (with_reducible refine Kd.C_alloc ?_ _) | (with_reducible refine Kd.C_drewN ?_ _) | (with_reducible refine Kd.C_drew ?_))); (case side4 => exact (Kd.R_reads' HO426.out).2.1); rintro e w' ⟨rfl, ⟨nd, rfl⟩⟩))
      go_ret
      exact ⟨by first | rfl | (simp [errW_none, errW_some] <;> rfl) | (simp [*, errW_none, errW_some] <;> rfl), by repeat (first | (with_reducible first | exact HB.out | apply below_alloc | apply pw_below_drewN | apply below_drew1) | exact HB.out)⟩
  · rw [if_neg c3] at H
    have c3b0 : (t414 == 0) = false := beq_eq_false_iff_ne.mpr c3
    have c3b1 : (t414 != 0) = true := bne_iff_ne.mpr c3
    obtain rfl := Option.some.inj H
    go_enter Try.func50, Try.ntmps50
    go_wp2_with (first | ((with_reducible refine gate_dst (N := 6) rfl ?_); (try (refine gate_guard (by rfl) ?_; dsimp only)); refine Kd.R_lit (Kd.int .u8) _ 5 ?hg (N := 6) ?hd (xs := ([0, 0, 0, 2, 0, 5] : List Int)) (inner := [.int .u8 0, .int .u8 0, .int .u8 0, .int .u8 2, .int .u8 0, .int .u8 5]) (ok := fun _ => True) (okp := fun _ => True) ?hr ?hp (fun _ hk => hk) trivial (Below.refl _ _) (Nat.le_refl _) (by simp) ?_; (case hd => rfl); (case hg => rfl); (case hr => first | (go_simp; done) | (go_simp; rfl)); (case hp => exact (Reps.one (show Kd.M (Kd.int .u8) _ _ _ 0 [.int .u8 0] from rfl) (Reps.one (show Kd.M (Kd.int .u8) _ _ _ 0 [.int .u8 0] from rfl) (Reps.one (show Kd.M (Kd.int .u8) _ _ _ 0 [.int .u8 0] from rfl) (Reps.one (show Kd.M (Kd.int .u8) _ _ _ 2 [.int .u8 2] from rfl) (Reps.one (show Kd.M (Kd.int .u8) _ _ _ 0 [.int .u8 0] from rfl) (Reps.one (show Kd.M (Kd.int .u8) _ _ _ 5 [.int .u8 5] from rfl) (Reps.none _ _)))))))); intro v411 w89 ho90 hb hg_ hnew_; clear hg_ hnew_; (first | rw [← Ny410.out] at ho90 | (simp only [Int.reduceToNat] at ho90; rw [← Ny410.out] at ho90)); have n0_ := Aside0.mk (Kd.R_lower ho90 (below_size (by repeat (first | (with_reducible first | exact HB.out | apply below_alloc | apply pw_below_drewN | apply below_drew1) | exact HB.out)))); have n1_ := Aside0.mk (below_step (by repeat (first | (with_reducible first | exact HB.out | apply below_alloc | apply pw_below_drewN | apply below_drew1) | exact HB.out)) hb); clear HB; have HO412 := n0_; have HB := n1_; clear n0_ n1_; clear hb ho90; obtain ⟨Ao91, co91, eo91⟩ := Kd.R_slice HO412.out; subst eo91) | ((with_reducible refine gate_callee (f := 51) rfl ?_); refine goesL_ (some 7) rfl rfl Try.func51 (by kernel_rfl) rfl #[.slice Ao91 y410.length co91, .bool false, .int .i64 2] rfl (by (try simp only [List.map_toArray, List.map_cons, List.map_nil]); first | done | rfl | (simp only [List.length_drop, List.length_take]; rfl)) ?_; (with_reducible refine (loca_Read.calls k _ _ y410 false 2 t413 t414 _ ?side1 ?side2 A1.out).mono ?_); (case side1 => repeat (first | exact (Kd.R_reads' HO412.out).2.2 | (with_reducible refine Kd.C_alloc ?_ _) | (with_reducible refine Kd.C_drewN ?_ _) | (with_reducible refine Kd.C_drew ?_))); (case side2 => exact (Kd.R_reads' HO412.out).2.1); rintro e w92 ⟨v415, rfl, ho0, hb⟩; refine ⟨_, rfl, ?_⟩; have n0_ := Aside0.mk (Kd.R_below (by (with_reducible repeat (first | apply Kd.R_alloc | apply Kd.R_drewN | apply Kd.R_drew)); exact HO412.out) hb); have n1_ := Aside0.mk (Kd.R_lower ho0 (below_size (by repeat (first | (with_reducible first | exact HB.out | apply below_alloc | apply pw_below_drewN | apply below_drew1) | exact HB.out)))); have n2_ := Aside0.mk (below_step (by repeat (first | (with_reducible first | exact HB.out | apply below_alloc | apply pw_below_drewN | apply below_drew1) | exact HB.out)) hb); clear HO412; clear HB; have HO412 := n0_; have HO416 := n1_; have HB := n2_; clear n0_ n1_ n2_; (try clear hb); (try clear hb2); (try clear hk); (try clear hi); (try clear ho0)) | ((with_reducible refine gate_dst (N := 11) rfl ?_); (try (refine gate_guard (by rfl) ?_; dsimp only)); refine Kd.R_lit (Kd.int .u8) _ 5 ?hg (N := 11) ?hd (xs := ([1, 244, 0, 10, 255, 254] : List Int)) (inner := [.int .u8 1, .int .u8 244, .int .u8 0, .int .u8 10, .int .u8 255, .int .u8 254]) (ok := fun _ => True) (okp := fun _ => True) ?hr ?hp (fun _ hk => hk) trivial (Below.refl _ _) (Nat.le_refl _) (by simp) ?_; (case hd => rfl); (case hg => rfl); (case hr => first | (go_simp; done) | (go_simp; rfl)); (case hp => exact (Reps.one (show Kd.M (Kd.int .u8) _ _ _ 1 [.int .u8 1] from rfl) (Reps.one (show Kd.M (Kd.int .u8) _ _ _ 244 [.int .u8 244] from rfl) (Reps.one (show Kd.M (Kd.int .u8) _ _ _ 0 [.int .u8 0] from rfl) (Reps.one (show Kd.M (Kd.int .u8) _ _ _ 10 [.int .u8 10] from rfl) (Reps.one (show Kd.M (Kd.int .u8) _ _ _ 255 [.int .u8 255] from rfl) (Reps.one (show Kd.M (Kd.int .u8) _ _ _ 254 [.int .u8 254] from rfl) (Reps.none _ _)))))))); intro v418 w93 ho94 hb hg_ hnew_; clear hg_ hnew_; (first | rw [← Ny417.out] at ho94 | (simp only [Int.reduceToNat] at ho94; rw [← Ny417.out] at ho94)); have n0_ := Aside0.mk (Kd.R_elder' (by (with_reducible repeat (first | apply Kd.R_alloc | apply Kd.R_drewN | apply Kd.R_drew)); exact HO412.out) (Kd.R_base ho94) hb); have n1_ := Aside0.mk (Kd.R_below (by (with_reducible repeat (first | apply Kd.R_alloc | apply Kd.R_drewN | apply Kd.R_drew)); exact HO416.out) hb); have n2_ := Aside0.mk (Kd.R_lower (Kd.R_new' ho94 (Kd.R_lt (by (with_reducible repeat (first | apply Kd.R_alloc | apply Kd.R_drewN | apply Kd.R_drew)); exact HO412.out))) (below_size (by repeat (first | (with_reducible first | exact HB.out | apply below_alloc | apply pw_below_drewN | apply below_drew1) | exact HB.out)))); have n3_ := Aside0.mk (below_step (by repeat (first | (with_reducible first | exact HB.out | apply below_alloc | apply pw_below_drewN | apply below_drew1) | exact HB.out)) hb); clear HO412; clear HO416; clear HB; have HO412 := n0_; have HO416 := n1_; have HO419 := n2_; have HB := n3_; clear n0_ n1_ n2_ n3_; clear hb ho94; obtain ⟨Ao95, co95, eo95⟩ := Kd.R_slice HO419.out; subst eo95) | ((with_reducible refine gate_callee (f := 58) rfl ?_); refine goesL_ (some 12) rfl rfl Try.func58 (by kernel_rfl) rfl #[.slice Ao95 y417.length co95, .int .i64 1, .int .i64 2] rfl (by (try simp only [List.map_toArray, List.map_cons, List.map_nil]); first | done | rfl | (simp only [List.length_drop, List.length_take]; rfl)) ?_; (with_reducible refine (loca_Metrics.calls k _ _ y417 1 2 t420 t421 _ ?side1 ?side2 A2.out).mono ?_); (case side1 => repeat (first | exact (Kd.R_reads' HO419.out).2.2 | (with_reducible refine Kd.C_alloc ?_ _) | (with_reducible refine Kd.C_drewN ?_ _) | (with_reducible refine Kd.C_drew ?_))); (case side2 => exact (Kd.R_reads' HO419.out).2.1); rintro e w96 ⟨v422, rfl, ho0, hb⟩; refine ⟨_, rfl, ?_⟩; have n0_ := Aside0.mk (Kd.R_below (by (with_reducible repeat (first | apply Kd.R_alloc | apply Kd.R_drewN | apply Kd.R_drew)); exact HO412.out) hb); have n1_ := Aside0.mk (Kd.R_below (by (with_reducible repeat (first | apply Kd.R_alloc | apply Kd.R_drewN | apply Kd.R_drew)); exact HO416.out) hb); have n2_ := Aside0.mk (Kd.R_below (by (with_reducible repeat (first | apply Kd.R_alloc | apply Kd.R_drewN | apply Kd.R_drew)); exact HO419.out) hb); have n3_ := Aside0.mk (Kd.R_lower ho0 (below_size (by repeat (first | (with_reducible first | exact HB.out | apply below_alloc | apply pw_below_drewN | apply below_drew1) | exact HB.out)))); have n4_ := Aside0.mk (below_step (by repeat (first | (with_reducible first | exact HB.out | apply below_alloc | apply pw_below_drewN | apply below_drew1) | exact HB.out)) hb); clear HO412; clear HO416; clear HO419; clear HB; have HO412 := n0_; have HO416 := n1_; have HO419 := n2_; have HO423 := n3_; have HB := n4_; clear n0_ n1_ n2_ n3_ n4_; (try clear hb); (try clear hb2); (try clear hk); (try clear hi); (try clear ho0)))
    go_ret
    exact ⟨by first | rfl | (simp [errW_none, errW_some] <;> rfl) | (simp [*, errW_none, errW_some] <;> rfl), by repeat (first | (with_reducible first | exact HB.out | apply below_alloc | apply pw_below_drewN | apply below_drew1) | exact HB.out)⟩

end Go.Proofs.Ytcclmaicdmogjaa.P
