/- Part 1 of the proof of the law HeadReads: where head.Head, head.Maxp and head.Count read what the reference reads, and the bytes stay, at any bytes. The row lists the variable head.places, tied to the program's text. -/
import Derived.Test.YtcclmaicdmogjaaDoorProg
import Derived.Below
import Derived.Deep.Draws
import Derived.Deep.AppendLies
import Derived.Maps.AppendAt
import Derived.OwnWalk
import Derived.Laws.BytesArg
import Derived.Laws.MakeOwn
import Derived.Laws.OwnMore
import Derived.Deep.OwnRows
import Derived.Tactics
import Derived.Lib.ConvBytes
import Derived.Laws.Slices
import Derived.WalkKit
import Derived.KernelRfl
import Derived.RowKit3
import Derived.Deep.LoopGhost
import Derived.Deep.QuietTactic
import Derived.BigQuiet
import Derived.WideLaws
import Derived.Deep.DeepCutAuto
import Derived.Deep.CutBlock
import Derived.Deep.RegionHeld3
import Derived.Laws.Rows
import Derived.Lib.AppendStr
import Derived.ArgAppend
import Derived.Laws.IdiomCopy
import Derived.OrdersHeld
import Derived.Laws.BitsLemmas
import Derived.RowKit
import Derived.Test.YtcclmaicdmogjaaDoorWWords
import Derived.Test.YtcclmaicdmogjaaDoorWLast
import Derived.Test.YtcclmaicdmogjaaDoorWTab
import Derived.Test.YtcclmaicdmogjaaDoorWFour
import Derived.Test.YtcclmaicdmogjaaDoorWQPut
import Derived.Test.YtcclmaicdmogjaaDoorWApart
import Derived.Test.YtcclmaicdmogjaaDoorWArr
import Derived.Test.YtcclmaicdmogjaaDoorWZeros
import Derived.Test.YtcclmaicdmogjaaDoorWFoot
import Derived.Test.YtcclmaicdmogjaaDoorWKept
import Derived.Test.YtcclmaicdmogjaaDoorWShare
import Derived.Test.YtcclmaicdmogjaaDoorWN
import Derived.Test.YtcclmaicdmogjaaDoorWFootNe
import Derived.Test.YtcclmaicdmogjaaDoorWAt
import Derived.Test.YtcclmaicdmogjaaDoorWEqStruct
import Derived.Test.YtcclmaicdmogjaaDoorWRepsOne
import Derived.Test.YtcclmaicdmogjaaDoorWInv
import Derived.Test.YtcclmaicdmogjaaDoorWInvWords
import Derived.Test.YtcclmaicdmogjaaDoorWGuard
import Derived.Test.YtcclmaicdmogjaaDoorWNEv
import Derived.Test.YtcclmaicdmogjaaDoorWMore
import Derived.Test.YtcclmaicdmogjaaDoorPb
import Derived.Deep.RegionLaw
-- Written by wip/pr.py over the kit's print
namespace Go.Proofs.YtcclmaicdmogjaaDoor.P
open Go.RowKit Go.Proofs.YtcclmaicdmogjaaDoorW.PrintWords Go.Proofs.YtcclmaicdmogjaaDoorW.PrintLast Go.Proofs.YtcclmaicdmogjaaDoorW.PrintMore
attribute [local go_sem] max2_int min2_int max_two min_two max_three min_three max_four min_four   -- for this text's walks alone
set_option linter.unusedVariables false
set_option linter.unusedSimpArgs false



def errW : Option Int → Value
  | none => .nilIface
  | some c => .iface 0 (.int .i64 c)
theorem errW_none : errW none = .nilIface := rfl
theorem errW_some (c : Int) : errW (some c) = .iface 0 (.int .i64 c) := rfl

theorem info3 : (Tryd.prog.info? 3).map (fun i => (i.zero, i.size, i.bytes)) = some (some (.int .i64 0), 1, 8) := by kernel_rfl
theorem info5 : (Tryd.prog.info? 5).map (fun i => (i.zero, i.size, i.bytes)) = some (some (.int .u8 0), 1, 1) := by kernel_rfl
theorem info22 : (Tryd.prog.info? 22).map (fun i => (i.zero, i.size, i.bytes)) = some (some (.slice none 0 0), 1, 24) := by kernel_rfl
theorem info64 : (Tryd.prog.info? 64).map (fun i => (i.zero, i.size, i.bytes)) = some (some (.agg #[(.string ⟨#[]⟩), (.slice none 0 0)]), 2, 40) := by kernel_rfl
theorem info115 : (Tryd.prog.info? 115).map (fun i => (i.zero, i.size, i.bytes)) = some (some (.agg #[(.int .i64 0), (.int .i64 0)]), 2, 16) := by kernel_rfl
-- the values' own types
def rd_L2 (xs : List (List Int)) (i : Int) : (List Int) := xs.getD i.toNat ([] : List Int)
theorem at_L2 {w : World} {A : Option Addr} {n : Nat} {xs : List (List Int)} (h : Kd.C (Kd.slice 5 (Kd.int .u8)) w A n xs) (i : Int) (h0 : 0 ≤ i) (h1 : i < n) : ∃ ad A0 c0, A = some ad ∧ w.cell? (ad.add i.toNat) = some (.slice A0 (rd_L2 xs i).length c0) ∧ (rd_L2 xs i).length ≤ c0 ∧ (Kd.int .u8).C w A0 (rd_L2 xs i).length (rd_L2 xs i) := by
  obtain ⟨ad, c, e, _, hK, hc0⟩ := Kd.C_get h ([] : List Int) i h0 h1
  have hc : ∀ j u, c[j]? = some u → w.cell? (ad.add (i.toNat * 1 + j)) = some u := hc0
  obtain ⟨A0, c0, rfl, l0, g0⟩ := hK
  exact ⟨ad, A0, c0, e, by have hq := hc 0 _ rfl; rwa [Nat.mul_one, Nat.add_zero] at hq, l0, g0⟩

/-! #### struct type 37 -/
structure S37 where
  f0 : Int
  f1 : Int
  f2 : Int
  f3 : Int
  f4 : Int
  f5 : Bool
def z37 : S37 := ⟨(0 : Int), (0 : Int), (0 : Int), (0 : Int), (0 : Int), false⟩
def k37 : Kd S37 := Kd.iso (Kd.pair (Kd.int .i64) (Kd.pair (Kd.int .i64) (Kd.pair (Kd.int .i64) (Kd.pair (Kd.int .i64) (Kd.pair (Kd.int .i64) Kd.bool))))) (fun x : S37 => (x.f0, x.f1, x.f2, x.f3, x.f4, x.f5))
theorem k37_open {w : World} {x : S37} {cs : List Value} (h : k37.K w x cs) : cs = [.int .i64 x.f0, .int .i64 x.f1, .int .i64 x.f2, .int .i64 x.f3, .int .i64 x.f4, .bool x.f5] := by
  obtain ⟨_, _, rfl, rfl, ⟨_, _, rfl, rfl, ⟨_, _, rfl, rfl, ⟨_, _, rfl, rfl, ⟨_, _, rfl, rfl, rfl⟩⟩⟩⟩⟩ := h
  exact rfl
theorem k37_openM {w : World} {base : Nat} {ok : Nat → Prop} {x : S37} {cs : List Value} (h : k37.M w base ok x cs) : cs = [.int .i64 x.f0, .int .i64 x.f1, .int .i64 x.f2, .int .i64 x.f3, .int .i64 x.f4, .bool x.f5] := by
  obtain ⟨_, _, rfl, rfl, ⟨_, _, rfl, rfl, ⟨_, _, rfl, rfl, ⟨_, _, rfl, rfl, ⟨_, _, rfl, rfl, rfl⟩⟩⟩⟩⟩ := h
  exact rfl
theorem k37_mk (w : World) (x : S37)  : k37.K w x [.int .i64 x.f0, .int .i64 x.f1, .int .i64 x.f2, .int .i64 x.f3, .int .i64 x.f4, .bool x.f5] := ⟨[.int .i64 x.f0], [.int .i64 x.f1, .int .i64 x.f2, .int .i64 x.f3, .int .i64 x.f4, .bool x.f5], rfl, rfl, ⟨[.int .i64 x.f1], [.int .i64 x.f2, .int .i64 x.f3, .int .i64 x.f4, .bool x.f5], rfl, rfl, ⟨[.int .i64 x.f2], [.int .i64 x.f3, .int .i64 x.f4, .bool x.f5], rfl, rfl, ⟨[.int .i64 x.f3], [.int .i64 x.f4, .bool x.f5], rfl, rfl, ⟨[.int .i64 x.f4], [.bool x.f5], rfl, rfl, rfl⟩⟩⟩⟩⟩
theorem k37_mkM (w : World) (base : Nat) (ok : Nat → Prop) (x : S37)  : k37.M w base ok x [.int .i64 x.f0, .int .i64 x.f1, .int .i64 x.f2, .int .i64 x.f3, .int .i64 x.f4, .bool x.f5] := ⟨[.int .i64 x.f0], [.int .i64 x.f1, .int .i64 x.f2, .int .i64 x.f3, .int .i64 x.f4, .bool x.f5], rfl, rfl, ⟨[.int .i64 x.f1], [.int .i64 x.f2, .int .i64 x.f3, .int .i64 x.f4, .bool x.f5], rfl, rfl, ⟨[.int .i64 x.f2], [.int .i64 x.f3, .int .i64 x.f4, .bool x.f5], rfl, rfl, ⟨[.int .i64 x.f3], [.int .i64 x.f4, .bool x.f5], rfl, rfl, ⟨[.int .i64 x.f4], [.bool x.f5], rfl, rfl, rfl⟩⟩⟩⟩⟩
theorem k37_mkF (W : World) (ok : Nat → Prop) (x : S37) : Kd.FK k37 W ok x [.int .i64 x.f0, .int .i64 x.f1, .int .i64 x.f2, .int .i64 x.f3, .int .i64 x.f4, .bool x.f5] := fun W2 _ => k37_mk W2 x
def rd_T37 (xs : List S37) (i : Int) : S37 := xs.getD i.toNat z37
theorem at_T37 {w : World} {A : Option Addr} {n : Nat} {xs : List S37} (h : Kd.C k37 w A n xs) (i : Int) (h0 : 0 ≤ i) (h1 : i < n) : ∃ ad , A = some ad ∧ w.cell? (ad.add (i.toNat * 6)) = some (.int .i64 (rd_T37 xs i).f0) ∧ w.cell? ⟨(ad.add (i.toNat * 6)).block, (ad.add (i.toNat * 6)).off + 1, none⟩ = some (.int .i64 (rd_T37 xs i).f1) ∧ w.cell? ⟨(ad.add (i.toNat * 6)).block, (ad.add (i.toNat * 6)).off + 2, none⟩ = some (.int .i64 (rd_T37 xs i).f2) ∧ w.cell? ⟨(ad.add (i.toNat * 6)).block, (ad.add (i.toNat * 6)).off + 3, none⟩ = some (.int .i64 (rd_T37 xs i).f3) ∧ w.cell? ⟨(ad.add (i.toNat * 6)).block, (ad.add (i.toNat * 6)).off + 4, none⟩ = some (.int .i64 (rd_T37 xs i).f4) ∧ w.cell? ⟨(ad.add (i.toNat * 6)).block, (ad.add (i.toNat * 6)).off + 5, none⟩ = some (.bool (rd_T37 xs i).f5) := by
  obtain ⟨ad, c, e, _, hK, hc0⟩ := Kd.C_get h z37 i h0 h1
  have hc : ∀ j u, c[j]? = some u → w.cell? (ad.add (i.toNat * 6 + j)) = some u := hc0
  obtain rfl := k37_open hK
  exact ⟨ad, e, hc 0 _ rfl, by rw [← add_field _ _ 1 (by omega)]; exact hc 1 _ rfl, by rw [← add_field _ _ 2 (by omega)]; exact hc 2 _ rfl, by rw [← add_field _ _ 3 (by omega)]; exact hc 3 _ rfl, by rw [← add_field _ _ 4 (by omega)]; exact hc 4 _ rfl, by rw [← add_field _ _ 5 (by omega)]; exact hc 5 _ rfl⟩

/-! #### struct type 24 -/
structure S24 where
  f0 : Int
  f1 : Int
  f2 : Int
  f3 : Int
  f4 : Int
  f5 : Int
  f6 : Int
def z24 : S24 := ⟨(0 : Int), (0 : Int), (0 : Int), (0 : Int), (0 : Int), (0 : Int), (0 : Int)⟩
def k24 : Kd S24 := Kd.iso (Kd.pair (Kd.int .i64) (Kd.pair (Kd.int .i64) (Kd.pair (Kd.int .i64) (Kd.pair (Kd.int .i64) (Kd.pair (Kd.int .i64) (Kd.pair (Kd.int .i64) (Kd.int .i64))))))) (fun x : S24 => (x.f0, x.f1, x.f2, x.f3, x.f4, x.f5, x.f6))
theorem k24_open {w : World} {x : S24} {cs : List Value} (h : k24.K w x cs) : cs = [.int .i64 x.f0, .int .i64 x.f1, .int .i64 x.f2, .int .i64 x.f3, .int .i64 x.f4, .int .i64 x.f5, .int .i64 x.f6] := by
  obtain ⟨_, _, rfl, rfl, ⟨_, _, rfl, rfl, ⟨_, _, rfl, rfl, ⟨_, _, rfl, rfl, ⟨_, _, rfl, rfl, ⟨_, _, rfl, rfl, rfl⟩⟩⟩⟩⟩⟩ := h
  exact rfl
theorem k24_openM {w : World} {base : Nat} {ok : Nat → Prop} {x : S24} {cs : List Value} (h : k24.M w base ok x cs) : cs = [.int .i64 x.f0, .int .i64 x.f1, .int .i64 x.f2, .int .i64 x.f3, .int .i64 x.f4, .int .i64 x.f5, .int .i64 x.f6] := by
  obtain ⟨_, _, rfl, rfl, ⟨_, _, rfl, rfl, ⟨_, _, rfl, rfl, ⟨_, _, rfl, rfl, ⟨_, _, rfl, rfl, ⟨_, _, rfl, rfl, rfl⟩⟩⟩⟩⟩⟩ := h
  exact rfl
theorem k24_mk (w : World) (x : S24)  : k24.K w x [.int .i64 x.f0, .int .i64 x.f1, .int .i64 x.f2, .int .i64 x.f3, .int .i64 x.f4, .int .i64 x.f5, .int .i64 x.f6] := ⟨[.int .i64 x.f0], [.int .i64 x.f1, .int .i64 x.f2, .int .i64 x.f3, .int .i64 x.f4, .int .i64 x.f5, .int .i64 x.f6], rfl, rfl, ⟨[.int .i64 x.f1], [.int .i64 x.f2, .int .i64 x.f3, .int .i64 x.f4, .int .i64 x.f5, .int .i64 x.f6], rfl, rfl, ⟨[.int .i64 x.f2], [.int .i64 x.f3, .int .i64 x.f4, .int .i64 x.f5, .int .i64 x.f6], rfl, rfl, ⟨[.int .i64 x.f3], [.int .i64 x.f4, .int .i64 x.f5, .int .i64 x.f6], rfl, rfl, ⟨[.int .i64 x.f4], [.int .i64 x.f5, .int .i64 x.f6], rfl, rfl, ⟨[.int .i64 x.f5], [.int .i64 x.f6], rfl, rfl, rfl⟩⟩⟩⟩⟩⟩
theorem k24_mkM (w : World) (base : Nat) (ok : Nat → Prop) (x : S24)  : k24.M w base ok x [.int .i64 x.f0, .int .i64 x.f1, .int .i64 x.f2, .int .i64 x.f3, .int .i64 x.f4, .int .i64 x.f5, .int .i64 x.f6] := ⟨[.int .i64 x.f0], [.int .i64 x.f1, .int .i64 x.f2, .int .i64 x.f3, .int .i64 x.f4, .int .i64 x.f5, .int .i64 x.f6], rfl, rfl, ⟨[.int .i64 x.f1], [.int .i64 x.f2, .int .i64 x.f3, .int .i64 x.f4, .int .i64 x.f5, .int .i64 x.f6], rfl, rfl, ⟨[.int .i64 x.f2], [.int .i64 x.f3, .int .i64 x.f4, .int .i64 x.f5, .int .i64 x.f6], rfl, rfl, ⟨[.int .i64 x.f3], [.int .i64 x.f4, .int .i64 x.f5, .int .i64 x.f6], rfl, rfl, ⟨[.int .i64 x.f4], [.int .i64 x.f5, .int .i64 x.f6], rfl, rfl, ⟨[.int .i64 x.f5], [.int .i64 x.f6], rfl, rfl, rfl⟩⟩⟩⟩⟩⟩
theorem k24_mkF (W : World) (ok : Nat → Prop) (x : S24) : Kd.FK k24 W ok x [.int .i64 x.f0, .int .i64 x.f1, .int .i64 x.f2, .int .i64 x.f3, .int .i64 x.f4, .int .i64 x.f5, .int .i64 x.f6] := fun W2 _ => k24_mk W2 x
def rd_T24 (xs : List S24) (i : Int) : S24 := xs.getD i.toNat z24
theorem at_T24 {w : World} {A : Option Addr} {n : Nat} {xs : List S24} (h : Kd.C k24 w A n xs) (i : Int) (h0 : 0 ≤ i) (h1 : i < n) : ∃ ad , A = some ad ∧ w.cell? (ad.add (i.toNat * 7)) = some (.int .i64 (rd_T24 xs i).f0) ∧ w.cell? ⟨(ad.add (i.toNat * 7)).block, (ad.add (i.toNat * 7)).off + 1, none⟩ = some (.int .i64 (rd_T24 xs i).f1) ∧ w.cell? ⟨(ad.add (i.toNat * 7)).block, (ad.add (i.toNat * 7)).off + 2, none⟩ = some (.int .i64 (rd_T24 xs i).f2) ∧ w.cell? ⟨(ad.add (i.toNat * 7)).block, (ad.add (i.toNat * 7)).off + 3, none⟩ = some (.int .i64 (rd_T24 xs i).f3) ∧ w.cell? ⟨(ad.add (i.toNat * 7)).block, (ad.add (i.toNat * 7)).off + 4, none⟩ = some (.int .i64 (rd_T24 xs i).f4) ∧ w.cell? ⟨(ad.add (i.toNat * 7)).block, (ad.add (i.toNat * 7)).off + 5, none⟩ = some (.int .i64 (rd_T24 xs i).f5) ∧ w.cell? ⟨(ad.add (i.toNat * 7)).block, (ad.add (i.toNat * 7)).off + 6, none⟩ = some (.int .i64 (rd_T24 xs i).f6) := by
  obtain ⟨ad, c, e, _, hK, hc0⟩ := Kd.C_get h z24 i h0 h1
  have hc : ∀ j u, c[j]? = some u → w.cell? (ad.add (i.toNat * 7 + j)) = some u := hc0
  obtain rfl := k24_open hK
  exact ⟨ad, e, hc 0 _ rfl, by rw [← add_field _ _ 1 (by omega)]; exact hc 1 _ rfl, by rw [← add_field _ _ 2 (by omega)]; exact hc 2 _ rfl, by rw [← add_field _ _ 3 (by omega)]; exact hc 3 _ rfl, by rw [← add_field _ _ 4 (by omega)]; exact hc 4 _ rfl, by rw [← add_field _ _ 5 (by omega)]; exact hc 5 _ rfl, by rw [← add_field _ _ 6 (by omega)]; exact hc 6 _ rfl⟩

/-! #### struct type 64 -/
structure S64 where
  f0 : ByteArray
  f1 : (List Int)
def z64 : S64 := ⟨(⟨#[]⟩ : ByteArray), ([] : List Int)⟩
def k64 : Kd S64 := Kd.iso (Kd.pair Kd.string (Kd.slice 5 (Kd.int .u8))) (fun x : S64 => (x.f0, x.f1))
theorem k64_open {w : World} {x : S64} {cs : List Value} (h : k64.K w x cs) : ∃ A1 c1, cs = [.string x.f0, .slice A1 x.f1.length c1] ∧ x.f1.length ≤ c1 ∧ (Kd.int .u8).C w A1 x.f1.length x.f1 := by
  obtain ⟨_, _, rfl, rfl, ⟨A1, c1, rfl, l1, g1⟩⟩ := h
  exact ⟨A1, c1, rfl, l1, g1⟩
theorem k64_openM {w : World} {base : Nat} {ok : Nat → Prop} {x : S64} {cs : List Value} (h : k64.M w base ok x cs) : ∃ v1, cs = [.string x.f0, v1] ∧ (Kd.int .u8).R 5 w base ok v1 x.f1 := by
  obtain ⟨_, _, rfl, rfl, ⟨v1, rfl, g1⟩⟩ := h
  exact ⟨v1, rfl, g1⟩
theorem k64_mk (w : World) (x : S64) {A1 : Option Addr} {c1 : Nat} (l1 : x.f1.length ≤ c1) (g1 : (Kd.int .u8).C w A1 x.f1.length x.f1) : k64.K w x [.string x.f0, .slice A1 x.f1.length c1] := ⟨[.string x.f0], [.slice A1 x.f1.length c1], rfl, rfl, ⟨A1, c1, rfl, l1, g1⟩⟩
theorem k64_mkM (w : World) (base : Nat) (ok : Nat → Prop) (x : S64) {v1 : Value} (g1 : (Kd.int .u8).R 5 w base ok v1 x.f1) : k64.M w base ok x [.string x.f0, v1] := ⟨[.string x.f0], [v1], rfl, rfl, ⟨v1, rfl, g1⟩⟩
theorem k64_openF {W : World} {ok : Nat → Prop} {x : S64} {cs : List Value} (h : Kd.FK k64 W ok x cs) : ∃ A1 c1, cs = [.string x.f0, .slice A1 x.f1.length c1] ∧ x.f1.length ≤ c1 ∧ Kd.F (Kd.int .u8) W ok A1 x.f1.length x.f1 := by
  obtain ⟨A1, c1, rfl, l1, _⟩ := k64_open (Kd.FK_now h)
  exact ⟨A1, c1, rfl, l1, (fun W' hW => by obtain ⟨A1_, c1_, he, l1_, g1_⟩ := k64_open (h W' hW); injection (Option.some.inj (show some (Value.slice A1 x.f1.length c1) = some (Value.slice A1_ x.f1.length c1_) from congrArg (fun l => l[1]?) he)) with ha_ _ _; rw [ha_]; exact g1_)⟩
theorem k64_mkF (W : World) (ok : Nat → Prop) (x : S64) {A1 : Option Addr} {c1 : Nat} (l1 : x.f1.length ≤ c1) (g1 : Kd.F (Kd.int .u8) W ok A1 x.f1.length x.f1) : Kd.FK k64 W ok x [.string x.f0, .slice A1 x.f1.length c1] := fun W2 hW => k64_mk W2 x l1 (g1 W2 hW)
def rd_T64 (xs : List S64) (i : Int) : S64 := xs.getD i.toNat z64
theorem at_T64 {w : World} {A : Option Addr} {n : Nat} {xs : List S64} (h : Kd.C k64 w A n xs) (i : Int) (h0 : 0 ≤ i) (h1 : i < n) : ∃ ad A1 c1, A = some ad ∧ w.cell? (ad.add (i.toNat * 2)) = some (.string (rd_T64 xs i).f0) ∧ w.cell? ⟨(ad.add (i.toNat * 2)).block, (ad.add (i.toNat * 2)).off + 1, none⟩ = some (.slice A1 (rd_T64 xs i).f1.length c1) ∧ (rd_T64 xs i).f1.length ≤ c1 ∧ (Kd.int .u8).C w A1 (rd_T64 xs i).f1.length (rd_T64 xs i).f1 := by
  obtain ⟨ad, c, e, _, hK, hc0⟩ := Kd.C_get h z64 i h0 h1
  have hc : ∀ j u, c[j]? = some u → w.cell? (ad.add (i.toNat * 2 + j)) = some u := hc0
  obtain ⟨A1, c1, rfl, l1, g1⟩ := k64_open hK
  exact ⟨ad, A1, c1, e, hc 0 _ rfl, by rw [← add_field _ _ 1 (by omega)]; exact hc 1 _ rfl, l1, g1⟩

def rd_L8 (xs : List (List Int)) (i : Int) : (List Int) := xs.getD i.toNat ([] : List Int)
theorem at_L8 {w : World} {A : Option Addr} {n : Nat} {xs : List (List Int)} (h : Kd.C (Kd.slice 3 (Kd.int .i64)) w A n xs) (i : Int) (h0 : 0 ≤ i) (h1 : i < n) : ∃ ad A0 c0, A = some ad ∧ w.cell? (ad.add i.toNat) = some (.slice A0 (rd_L8 xs i).length c0) ∧ (rd_L8 xs i).length ≤ c0 ∧ (Kd.int .i64).C w A0 (rd_L8 xs i).length (rd_L8 xs i) := by
  obtain ⟨ad, c, e, _, hK, hc0⟩ := Kd.C_get h ([] : List Int) i h0 h1
  have hc : ∀ j u, c[j]? = some u → w.cell? (ad.add (i.toNat * 1 + j)) = some u := hc0
  obtain ⟨A0, c0, rfl, l0, g0⟩ := hK
  exact ⟨ad, A0, c0, e, by have hq := hc 0 _ rfl; rwa [Nat.mul_one, Nat.add_zero] at hq, l0, g0⟩

/-! #### struct type 115 -/
structure S115 where
  f0 : Int
  f1 : Int
def z115 : S115 := ⟨(0 : Int), (0 : Int)⟩
def k115 : Kd S115 := Kd.iso (Kd.pair (Kd.int .i64) (Kd.int .i64)) (fun x : S115 => (x.f0, x.f1))
theorem k115_open {w : World} {x : S115} {cs : List Value} (h : k115.K w x cs) : cs = [.int .i64 x.f0, .int .i64 x.f1] := by
  obtain ⟨_, _, rfl, rfl, rfl⟩ := h
  exact rfl
theorem k115_openM {w : World} {base : Nat} {ok : Nat → Prop} {x : S115} {cs : List Value} (h : k115.M w base ok x cs) : cs = [.int .i64 x.f0, .int .i64 x.f1] := by
  obtain ⟨_, _, rfl, rfl, rfl⟩ := h
  exact rfl
theorem k115_mk (w : World) (x : S115)  : k115.K w x [.int .i64 x.f0, .int .i64 x.f1] := ⟨[.int .i64 x.f0], [.int .i64 x.f1], rfl, rfl, rfl⟩
theorem k115_mkM (w : World) (base : Nat) (ok : Nat → Prop) (x : S115)  : k115.M w base ok x [.int .i64 x.f0, .int .i64 x.f1] := ⟨[.int .i64 x.f0], [.int .i64 x.f1], rfl, rfl, rfl⟩
theorem k115_mkF (W : World) (ok : Nat → Prop) (x : S115) : Kd.FK k115 W ok x [.int .i64 x.f0, .int .i64 x.f1] := fun W2 _ => k115_mk W2 x
def rd_T115 (xs : List S115) (i : Int) : S115 := xs.getD i.toNat z115
theorem at_T115 {w : World} {A : Option Addr} {n : Nat} {xs : List S115} (h : Kd.C k115 w A n xs) (i : Int) (h0 : 0 ≤ i) (h1 : i < n) : ∃ ad , A = some ad ∧ w.cell? (ad.add (i.toNat * 2)) = some (.int .i64 (rd_T115 xs i).f0) ∧ w.cell? ⟨(ad.add (i.toNat * 2)).block, (ad.add (i.toNat * 2)).off + 1, none⟩ = some (.int .i64 (rd_T115 xs i).f1) := by
  obtain ⟨ad, c, e, _, hK, hc0⟩ := Kd.C_get h z115 i h0 h1
  have hc : ∀ j u, c[j]? = some u → w.cell? (ad.add (i.toNat * 2 + j)) = some u := hc0
  obtain rfl := k115_open hK
  exact ⟨ad, e, hc 0 _ rfl, by rw [← add_field _ _ 1 (by omega)]; exact hc 1 _ rfl⟩

def rd_L10 (xs : List (List S115)) (i : Int) : (List S115) := xs.getD i.toNat ([] : List S115)
theorem at_L10 {w : World} {A : Option Addr} {n : Nat} {xs : List (List S115)} (h : Kd.C (Kd.slice 115 k115) w A n xs) (i : Int) (h0 : 0 ≤ i) (h1 : i < n) : ∃ ad A0 c0, A = some ad ∧ w.cell? (ad.add i.toNat) = some (.slice A0 (rd_L10 xs i).length c0) ∧ (rd_L10 xs i).length ≤ c0 ∧ k115.C w A0 (rd_L10 xs i).length (rd_L10 xs i) := by
  obtain ⟨ad, c, e, _, hK, hc0⟩ := Kd.C_get h ([] : List S115) i h0 h1
  have hc : ∀ j u, c[j]? = some u → w.cell? (ad.add (i.toNat * 1 + j)) = some u := hc0
  obtain ⟨A0, c0, rfl, l0, g0⟩ := hK
  exact ⟨ad, A0, c0, e, by have hq := hc 0 _ rfl; rwa [Nat.mul_one, Nat.add_zero] at hq, l0, g0⟩

end Go.Proofs.YtcclmaicdmogjaaDoor.P

-- Written by wip/pr.py over the kit's print
namespace Go.Proofs.YtcclmaicdmogjaaDoor.P
open Go.RowKit Go.Proofs.YtcclmaicdmogjaaDoorW.PrintWords Go.Proofs.YtcclmaicdmogjaaDoorW.PrintLast Go.Proofs.YtcclmaicdmogjaaDoorW.PrintMore
attribute [local go_sem] max2_int min2_int max_two min_two max_three min_three max_four min_four   -- for this text's walks alone
set_option linter.unusedVariables false
set_option linter.unusedSimpArgs false

/-! ### head_ask: function 40 -/
def head_ask.f (l0 : List Int) (a1 : Int) : Option (Int) := if (l0.length : Int) < a1 then (some 3) else (some 0)
set_option maxHeartbeats 8000000 in
set_option maxRecDepth 100000 in
theorem head_ask.calls (A0 : Option Addr) (c0 : Nat) (l0 : List Int) (a1 : Int) (r : Int) (w : World) (hr0 : Kd.C (Kd.int .u8) w A0 l0.length l0) (hc0 : l0.length ≤ c0) (h : head_ask.f l0 a1 = some r) :
    Calls Tryd.prog 40 #[.slice A0 l0.length c0, .int .i64 a1] w fun e w' => e = .returned (.int .i64 r) ∧ Drawn0 w w' := by
  have HR0 := Aside0.mk hr0
  have HC0 := Aside0.mk hc0
  clear hr0 hc0
  have H : (if (l0.length : Int) < a1 then (some 3) else (some 0)) = some r := h
  clear h
  by_cases c3 : (l0.length : Int) < a1
  · rw [if_pos c3] at H
    have c3b0 : decide ((l0.length : Int) < a1) = true := decide_eq_true c3
    clear c3
    obtain rfl := Option.some.inj H
    go_enter Tryd.func40, Tryd.ntmps40
    go_wp2
    go_ret
    exact ⟨by first | rfl | (simp; done) | (simp [*]; done), by repeat (first | exact Drawn0.refl _ | apply Drawn0.step)⟩
  · rw [if_neg c3] at H
    have c3b0 : decide ((l0.length : Int) < a1) = false := decide_eq_false c3
    clear c3
    obtain rfl := Option.some.inj H
    go_enter Tryd.func40, Tryd.ntmps40
    go_wp2
    go_ret
    exact ⟨by first | rfl | (simp; done) | (simp [*]; done), by repeat (first | exact Drawn0.refl _ | apply Drawn0.step)⟩

end Go.Proofs.YtcclmaicdmogjaaDoor.P

-- Written by wip/pr.py over the kit's print
namespace Go.Proofs.YtcclmaicdmogjaaDoor.P
open Go.RowKit Go.Proofs.YtcclmaicdmogjaaDoorW.PrintWords Go.Proofs.YtcclmaicdmogjaaDoorW.PrintLast Go.Proofs.YtcclmaicdmogjaaDoorW.PrintMore
attribute [local go_sem] max2_int min2_int max_two min_two max_three min_three max_four min_four   -- for this text's walks alone
set_option linter.unusedVariables false
set_option linter.unusedSimpArgs false

/-! ### be_there: function 101 -/
def be_there.f (l0 : List Int) (a1 : Int) (a2 : Int) : Option (Bool) := if a1 ≥ 0 then (if a2 ≥ 0 then (if a1 ≤ (l0.length : Int) then (some (decide (a2 ≤ (wrap64 ((l0.length : Int) - a1))))) else (some false)) else (some false)) else (some false)
set_option maxHeartbeats 8000000 in
set_option maxRecDepth 100000 in
theorem be_there.calls (A0 : Option Addr) (c0 : Nat) (l0 : List Int) (a1 : Int) (a2 : Int) (r : Bool) (w : World) (hr0 : Kd.C (Kd.int .u8) w A0 l0.length l0) (hc0 : l0.length ≤ c0) (h : be_there.f l0 a1 a2 = some r) :
    Calls Tryd.prog 101 #[.slice A0 l0.length c0, .int .i64 a1, .int .i64 a2] w fun e w' => e = .returned (.bool r) ∧ Drawn0 w w' := by
  have HR0 := Aside0.mk hr0
  have HC0 := Aside0.mk hc0
  clear hr0 hc0
  have H : (if a1 ≥ 0 then (if a2 ≥ 0 then (if a1 ≤ (l0.length : Int) then (some (decide (a2 ≤ (wrap64 ((l0.length : Int) - a1))))) else (some false)) else (some false)) else (some false)) = some r := h
  clear h
  by_cases c4 : a1 ≥ 0
  · rw [if_pos c4] at H
    have c4b0 : decide (0 ≤ a1) = true := decide_eq_true c4
    clear c4
    by_cases c5 : a2 ≥ 0
    · rw [if_pos c5] at H
      have c5b0 : decide (0 ≤ a2) = true := decide_eq_true c5
      clear c5
      by_cases c6 : a1 ≤ (l0.length : Int)
      · rw [if_pos c6] at H
        have c6b0 : decide (a1 ≤ (l0.length : Int)) = true := decide_eq_true c6
        clear c6
        obtain rfl := Option.some.inj H
        go_enter Tryd.func101, Tryd.ntmps101
        go_wp2
        go_ret
        exact ⟨by first | rfl | (simp; done) | (simp [*]; done), by repeat (first | exact Drawn0.refl _ | apply Drawn0.step)⟩
      · rw [if_neg c6] at H
        have c6b0 : decide (a1 ≤ (l0.length : Int)) = false := decide_eq_false c6
        clear c6
        obtain rfl := Option.some.inj H
        go_enter Tryd.func101, Tryd.ntmps101
        go_wp2
        go_ret
        exact ⟨by first | rfl | (simp; done) | (simp [*]; done), by repeat (first | exact Drawn0.refl _ | apply Drawn0.step)⟩
    · rw [if_neg c5] at H
      have c5b0 : decide (0 ≤ a2) = false := decide_eq_false c5
      clear c5
      obtain rfl := Option.some.inj H
      go_enter Tryd.func101, Tryd.ntmps101
      go_wp2
      go_ret
      exact ⟨by first | rfl | (simp; done) | (simp [*]; done), by repeat (first | exact Drawn0.refl _ | apply Drawn0.step)⟩
  · rw [if_neg c4] at H
    have c4b0 : decide (0 ≤ a1) = false := decide_eq_false c4
    clear c4
    obtain rfl := Option.some.inj H
    go_enter Tryd.func101, Tryd.ntmps101
    go_wp2
    go_ret
    exact ⟨by first | rfl | (simp; done) | (simp [*]; done), by repeat (first | exact Drawn0.refl _ | apply Drawn0.step)⟩

end Go.Proofs.YtcclmaicdmogjaaDoor.P

-- Written by wip/pr.py over the kit's print
namespace Go.Proofs.YtcclmaicdmogjaaDoor.P
open Go.RowKit Go.Proofs.YtcclmaicdmogjaaDoorW.PrintWords Go.Proofs.YtcclmaicdmogjaaDoorW.PrintLast Go.Proofs.YtcclmaicdmogjaaDoorW.PrintMore
attribute [local go_sem] max2_int min2_int max_two min_two max_three min_three max_four min_four   -- for this text's walks alone
set_option linter.unusedVariables false
set_option linter.unusedSimpArgs false

/-! ### be_U: function 76 (by hand) -/
-- FUNC calamus/be.U
-- ROUNDS no
-- MAKES no
-- INFO uint8
def be_U.f (l0 : List Int) (a1 : Int) (a2 : Int) : Option (Int × Int) :=
  if isBytes l0 ∧ inI a1 ∧ inI a2 then (if a2 < 1 ∨ a2 > 4 then some (0, 2) else if 0 ≤ a1 ∧ a1 + a2 ≤ l0.length then some (pre (l0.drop a1.toNat) a2.toNat, 0) else some (0, 3)) else none
theorem be_there_eq (l0 : List Int) (a1 a2 : Int) (hm : l0.length ≤ 9223372036854775807) (h1 : inI a1) (h2 : 0 ≤ a2) : be_there.f l0 a1 a2 = some (decide (0 ≤ a1 ∧ a1 + a2 ≤ l0.length)) := by
  unfold inI at h1
  unfold be_there.f
  by_cases c1 : a1 ≥ 0
  · rw [if_pos c1, if_pos (by omega)]
    by_cases c2 : a1 ≤ (l0.length : Int)
    · rw [if_pos c2, IntWalk.wrap64_in _ ⟨by omega, by omega⟩]
      congr 1
      rw [decide_eq_decide]; omega
    · rw [if_neg c2]; simp; omega
  · rw [if_neg c1]; simp; omega
set_option maxHeartbeats 8000000 in
set_option maxRecDepth 100000 in
theorem be_U.calls (A0 : Option Addr) (c0 : Nat) (l0 : List Int) (a1 : Int) (a2 : Int) (r1 : Int) (r2 : Int) (w : World) (hr0 : Kd.C (Kd.int .u8) w A0 l0.length l0) (hc0 : l0.length ≤ c0) (h : be_U.f l0 a1 a2 = some (r1, r2)) :
    Calls Tryd.prog 76 #[.slice A0 l0.length c0, .int .i64 a1, .int .i64 a2] w fun e w' => e = .returned (.tuple #[.int .i64 r1, .int .i64 r2]) ∧ Drawn0 w w' := by
  have HC := Aside0.mk hr0
  have HL := Aside0.mk hc0
  have hmax : l0.length ≤ 9223372036854775807 := Kd.C_max hr0
  clear hr0 hc0
  unfold be_U.f at h
  split at h
  case isFalse => cases h
  rename_i hg
  obtain ⟨hb, hi1, hi2⟩ := hg
  have HB := Aside0.mk hb
  have HT := fun h2 => be_there_eq l0 a1 a2 hmax hi1 h2
  have HI := Aside0.mk hi1
  unfold inI at hi1 hi2
  obtain ⟨hi11, hi12⟩ := hi1
  obtain ⟨hi21, hi22⟩ := hi2
  clear hb
  by_cases hlo : a2 < 1
  · rw [if_pos (.inl hlo)] at h
    simp only [Option.some.injEq, Prod.mk.injEq] at h
    obtain ⟨rfl, rfl⟩ := h
    clear HT
    go_enter Tryd.func76, Tryd.ntmps76
    go_wp2
    go_ret2
    exact ⟨rfl, Drawn0.refl _⟩
  by_cases hhi : a2 > 4
  · rw [if_pos (.inr hhi)] at h
    simp only [Option.some.injEq, Prod.mk.injEq] at h
    obtain ⟨rfl, rfl⟩ := h
    clear HT
    have hhi' : 4 < a2 := hhi
    go_enter Tryd.func76, Tryd.ntmps76
    go_wp2
    go_ret2
    exact ⟨rfl, Drawn0.refl _⟩
  rw [if_neg (by omega)] at h
  have hhi' : a2 ≤ 4 := by omega
  have hlo' : 1 ≤ a2 := by omega
  by_cases hth : 0 ≤ a1 ∧ a1 + a2 ≤ l0.length
  · rw [if_pos hth] at h
    have HT' := Aside0.mk (HT (by omega))
    clear HT
    rw [show decide (0 ≤ a1 ∧ a1 + a2 ≤ (l0.length : Int)) = true from decide_eq_true hth] at HT'
    obtain ⟨hth1, hth2⟩ := hth
    simp only [Option.some.injEq, Prod.mk.injEq] at h
    obtain ⟨hr, rfl⟩ := h
    obtain ⟨A', l', c', hcut, hC', hL', HE⟩ := C_midc (P := Tryd.prog) (k := .u8) 22 5 Tryd.underlying22 (info_parts info5).choose_spec.1 (info_parts info5).choose_spec.2.2.1 A0 c0 l0 a1 (a1 + a2) hth1 (by omega) hth2 HL.out
    have HLE := Aside0.mk (show l'.length = a2.toNat by rw [HE.out, List.length_drop, List.length_take]; omega)
    have hl4 : l'.length ≤ 4 := by have := HLE.out; omega
    have HB' := Aside0.mk (show isBytes l' by rw [HE.out]; exact (HB.out.take _).drop _)
    have HR := Aside0.mk (show pre l' l'.length = r1 by
      rw [← hr, HLE.out]
      unfold pre
      rw [HE.out]
      rw [List.take_of_length_le (by rw [List.length_drop, List.length_take]; omega), List.take_drop, show (a1 + a2).toNat = a1.toNat + a2.toNat by omega])
    have HC' := Aside0.mk (fun w' => hC' w')
    clear hr hC'
    go_enter Tryd.func76, Tryd.ntmps76
    go_wp2_with (go_at_call 101; refine (be_there.calls _ _ l0 a1 a2 true _ HC.out HL.out HT'.out).mono ?_; rintro e w' ⟨rfl, ⟨nd, rfl⟩⟩)
    go_loopg [8, 31] 4 (fun kq v8 v31 w' => ∃ (k : Nat), v31 = .int .i64 (k : Int) ∧ v8 = .int .i64 (pre l' k) ∧ k ≤ l'.length ∧ Aside0 (4 - k = kq) ∧ Aside0 (Kd.C (Kd.int .u8) w' A' l'.length l') ∧ Drawn0 w w')
    case atStart => exact ⟨0, rfl, rfl, by omega, ⟨rfl⟩, ⟨HC'.out _ (by repeat (first | exact HC.out | (with_reducible refine Kd.C_drewN ?_ _) | (with_reducible refine Kd.C_drew ?_)))⟩, ⟨nd, rfl⟩⟩
    case round =>
      obtain ⟨k, rfl, rfl, hkl, HK, HC2, ⟨m', rfl⟩⟩ := hrel
      obtain ⟨hp0, hpb⟩ : 0 ≤ pre l' k ∧ pre l' k ≤ 4294967295 := by
        have := pre_bd l' HB'.out k hkl
        have h256 : (256 : Int) ^ k ≤ 256 ^ 4 := by
          have : k = 0 ∨ k = 1 ∨ k = 2 ∨ k = 3 ∨ k = 4 := by omega
          rcases this with rfl | rfl | rfl | rfl | rfl <;> decide
        omega
      by_cases hkl' : k < l'.length
      · obtain ⟨ad, y, rfl, hx, HY⟩ := C_at HC2.out k hkl'
        obtain ⟨hy0, hy1⟩ := byte_at HB'.out HY
        go_wp2
        go_roundg (4 - (k + 1))
        case measure => have := HK.out; omega
        case rel =>
          have hor := i64_or8 (pre l' k * 256) y (by omega) (by omega) (by omega) hy0 (by omega)
          have hsucc := pre_succ l' k hkl'
          have hy := HY.out
          refine ⟨k + 1, by go_num, ?_, by omega, ⟨rfl⟩, HC2, ⟨m', rfl⟩⟩
          rw [hsucc, hy, ← hor]
      · obtain rfl : k = l'.length := by omega
        go_wp2
        go_ret2
        exact ⟨ret_ints HR.out rfl, ⟨m', rfl⟩⟩
  · rw [if_neg hth] at h
    have HT' := Aside0.mk (HT (by omega))
    clear HT
    rw [show decide (0 ≤ a1 ∧ a1 + a2 ≤ (l0.length : Int)) = false from decide_eq_false hth] at HT'
    simp only [Option.some.injEq, Prod.mk.injEq] at h
    obtain ⟨rfl, rfl⟩ := h
    clear hth
    go_enter Tryd.func76, Tryd.ntmps76
    go_wp2_with (go_at_call 101; refine (be_there.calls _ _ l0 a1 a2 false _ HC.out HL.out HT'.out).mono ?_; rintro e w' ⟨rfl, ⟨nd, rfl⟩⟩)
    go_ret2
    exact ⟨rfl, ⟨nd, rfl⟩⟩


end Go.Proofs.YtcclmaicdmogjaaDoor.P

-- Written by wip/pr.py over the kit's print
namespace Go.Proofs.YtcclmaicdmogjaaDoor.P
open Go.RowKit Go.Proofs.YtcclmaicdmogjaaDoorW.PrintWords Go.Proofs.YtcclmaicdmogjaaDoorW.PrintLast Go.Proofs.YtcclmaicdmogjaaDoorW.PrintMore
attribute [local go_sem] max2_int min2_int max_two min_two max_three min_three max_four min_four   -- for this text's walks alone
set_option linter.unusedVariables false
set_option linter.unusedSimpArgs false

/-! ### head_u: function 43 -/
def head_u.f (l0 : List Int) (a1 : Int) (a2 : Int) : Option (Int) := (be_U.f l0 a1 a2).bind fun bt101 => (some bt101.1)
set_option maxHeartbeats 8000000 in
set_option maxRecDepth 100000 in
theorem head_u.calls (A0 : Option Addr) (c0 : Nat) (l0 : List Int) (a1 : Int) (a2 : Int) (r : Int) (w : World) (hr0 : Kd.C (Kd.int .u8) w A0 l0.length l0) (hc0 : l0.length ≤ c0) (h : head_u.f l0 a1 a2 = some r) :
    Calls Tryd.prog 43 #[.slice A0 l0.length c0, .int .i64 a1, .int .i64 a2] w fun e w' => e = .returned (.int .i64 r) ∧ Drawn0 w w' := by
  have HR0 := Aside0.mk hr0
  have HC0 := Aside0.mk hc0
  clear hr0 hc0
  have H : ((be_U.f l0 a1 a2).bind fun bt101 => (some bt101.1)) = some r := h
  clear h
  replace H := Option.bind_eq_some_iff.mp H
  obtain ⟨⟨t101, t102⟩, A40, H⟩ := H
  replace H : (some t101) = some r := H
  have A4 := Aside0.mk A40
  clear A40
  obtain rfl := Option.some.inj H
  go_enter Tryd.func43, Tryd.ntmps43
  go_wp2_with (first | ((with_reducible refine gate_callee (f := 76) rfl ?_); refine goesL_ (some 13) rfl rfl Tryd.func76 (by kernel_rfl) rfl #[.slice A0 l0.length c0, .int .i64 a1, .int .i64 a2] rfl (by (try simp only [List.map_toArray, List.map_cons, List.map_nil]); first | done | rfl | (simp only [List.length_drop, List.length_take]; rfl)) ?_; (with_reducible refine (be_U.calls _ _ l0 a1 a2 t101 t102 _ ?side1 ?side2 A4.out).mono ?_); (case side1 => repeat (first | exact HR0.out | (with_reducible refine Kd.C_alloc ?_ _) | (with_reducible refine Kd.C_drewN ?_ _) | (with_reducible refine Kd.C_drew ?_))); (case side2 => exact HC0.out); rintro e w' ⟨rfl, ⟨nd, rfl⟩⟩; refine ⟨_, rfl, ?_⟩))
  go_ret
  exact ⟨by first | rfl | (simp; done) | (simp [*]; done), by repeat (first | exact Drawn0.refl _ | apply Drawn0.step)⟩

end Go.Proofs.YtcclmaicdmogjaaDoor.P

-- Written by wip/pr.py over the kit's print
namespace Go.Proofs.YtcclmaicdmogjaaDoor.P
open Go.RowKit Go.Proofs.YtcclmaicdmogjaaDoorW.PrintWords Go.Proofs.YtcclmaicdmogjaaDoorW.PrintLast Go.Proofs.YtcclmaicdmogjaaDoorW.PrintMore
attribute [local go_sem] max2_int min2_int max_two min_two max_three min_three max_four min_four   -- for this text's walks alone
set_option linter.unusedVariables false
set_option linter.unusedSimpArgs false

/-! ### be_S: function 77 -/
def be_S.f (l0 : List Int) (a1 : Int) (a2 : Int) : Option (Int × Int) := (be_U.f l0 a1 a2).bind fun bt103 => (if bt103.2 = 0 then (if 0 ≤ (wrap64 (64 - (wrap64 (8 * a2)))) then (some (shr .i64 (shl .i64 bt103.1 (wrap64 (64 - (wrap64 (8 * a2))))) (wrap64 (64 - (wrap64 (8 * a2)))), 0)) else (none)) else (some (0, bt103.2)))
set_option maxHeartbeats 8000000 in
set_option maxRecDepth 100000 in
theorem be_S.calls (A0 : Option Addr) (c0 : Nat) (l0 : List Int) (a1 : Int) (a2 : Int) (r1 : Int) (r2 : Int) (w : World) (hr0 : Kd.C (Kd.int .u8) w A0 l0.length l0) (hc0 : l0.length ≤ c0) (h : be_S.f l0 a1 a2 = some (r1, r2)) :
    Calls Tryd.prog 77 #[.slice A0 l0.length c0, .int .i64 a1, .int .i64 a2] w fun e w' => e = .returned (.tuple #[.int .i64 r1, .int .i64 r2]) ∧ Drawn0 w w' := by
  have HR0 := Aside0.mk hr0
  have HC0 := Aside0.mk hc0
  clear hr0 hc0
  have H : ((be_U.f l0 a1 a2).bind fun bt103 => (if bt103.2 = 0 then (if 0 ≤ (wrap64 (64 - (wrap64 (8 * a2)))) then (some (shr .i64 (shl .i64 bt103.1 (wrap64 (64 - (wrap64 (8 * a2))))) (wrap64 (64 - (wrap64 (8 * a2)))), 0)) else (none)) else (some (0, bt103.2)))) = some (r1, r2) := h
  clear h
  replace H := Option.bind_eq_some_iff.mp H
  obtain ⟨⟨t103, t104⟩, A40, H⟩ := H
  replace H : (if t104 = 0 then (if 0 ≤ (wrap64 (64 - (wrap64 (8 * a2)))) then (some (shr .i64 (shl .i64 t103 (wrap64 (64 - (wrap64 (8 * a2))))) (wrap64 (64 - (wrap64 (8 * a2)))), 0)) else (none)) else (some (0, t104))) = some (r1, r2) := H
  have A4 := Aside0.mk A40
  clear A40
  by_cases c5 : t104 = 0
  · rw [if_pos c5] at H
    have c5b0 : (t104 == 0) = true := beq_iff_eq.mpr c5
    have c5b1 : (t104 != 0) = false := bne_eq_false_iff_eq.mpr c5
    clear c5
    obtain ⟨ji6, hji6⟩ : ∃ j_ : Int, (wrap64 (64 - (wrap64 (8 * a2)))) = j_ := ⟨_, rfl⟩
    replace H : (if 0 ≤ (ji6) then (some (shr .i64 (shl .i64 t103 (ji6)) (ji6), 0)) else (none)) = some (r1, r2) := by first | (rw [hji6] at H; exact H) | (simp only [hji6] at H ⊢; exact H)
    (try rw [hji6] at A4)
    have hji6w : (IntKind.i64.wrap (64 - (wrap64 (8 * a2)))) = ji6 := (i64_w _).trans hji6
    by_cases c7 : 0 ≤ (ji6)
    · rw [if_pos c7] at H
      have c7b0 := eq_true c7
      have c7b1 : decide (0 ≤ (ji6)) = true := decide_eq_true c7
      clear c7
      obtain ⟨ji8, hji8⟩ : ∃ j_ : Int, (shl .i64 t103 (ji6)) = j_ := ⟨_, rfl⟩
      replace H : (some (shr .i64 (ji8) (ji6), 0)) = some (r1, r2) := by first | (rw [hji8] at H; exact H) | (simp only [hji8] at H ⊢; exact H)
      (try rw [hji8] at A4)
      have hji8_ : (IntKind.i64.wrap (t103 * 2 ^ min (ji6).toNat 64)) = ji8 := hji8
      have hji8z : (ji6) ≤ 64 → (IntKind.i64.wrap (t103 * 2 ^ (ji6).toNat)) = ji8 := shl_small hji8
      have hji8y : (wrap64 (t103 * 2 ^ min (ji6).toNat 64)) = ji8 := (i64_w _).symm.trans hji8_
      have hji8x : (ji6) ≤ 64 → (wrap64 (t103 * 2 ^ (ji6).toNat)) = ji8 := fun h_ => (i64_w _).symm.trans (hji8z h_)
      have c9b0 := eq_true (of_decide_eq_true (by first | (with_reducible assumption) | assumption) : 0 ≤ (ji6))
      obtain ⟨ji10, hji10⟩ : ∃ j_ : Int, (shr .i64 (ji8) (ji6)) = j_ := ⟨_, rfl⟩
      replace H : (some (ji10, 0)) = some (r1, r2) := by first | (rw [hji10] at H; exact H) | (simp only [hji10] at H ⊢; exact H)
      (try rw [hji10] at A4)
      have hji10_ : ((ji8) / 2 ^ min (ji6).toNat 64) = ji10 := hji10
      have hji10z : (ji6) ≤ 64 → ((ji8) / 2 ^ (ji6).toNat) = ji10 := shr_small hji10
      simp only [Option.some.injEq, Prod.mk.injEq] at H
      obtain ⟨rfl, rfl⟩ := H
      go_enter Tryd.func77, Tryd.ntmps77
      go_wp2_with (first | ((with_reducible refine gate_callee (f := 76) rfl ?_); refine goesL_ (some 15) rfl rfl Tryd.func76 (by kernel_rfl) rfl #[.slice A0 l0.length c0, .int .i64 a1, .int .i64 a2] rfl (by (try simp only [List.map_toArray, List.map_cons, List.map_nil]); first | done | rfl | (simp only [List.length_drop, List.length_take]; rfl)) ?_; (with_reducible refine (be_U.calls _ _ l0 a1 a2 t103 t104 _ ?side1 ?side2 A4.out).mono ?_); (case side1 => repeat (first | exact HR0.out | (with_reducible refine Kd.C_alloc ?_ _) | (with_reducible refine Kd.C_drewN ?_ _) | (with_reducible refine Kd.C_drew ?_))); (case side2 => exact HC0.out); rintro e w' ⟨rfl, ⟨nd, rfl⟩⟩; refine ⟨_, rfl, ?_⟩))
      go_ret2
      exact ⟨by first | rfl | (simp; done) | (simp only [← hji6, ← hji8, ← hji10] <;> (first | rfl | simp)) | (simp [*]; done), by repeat (first | exact Drawn0.refl _ | apply Drawn0.step)⟩
    · rw [if_neg c7] at H
      exact absurd H (by simp)
  · rw [if_neg c5] at H
    have c5b0 : (t104 == 0) = false := beq_eq_false_iff_ne.mpr c5
    have c5b1 : (t104 != 0) = true := bne_iff_ne.mpr c5
    simp only [Option.some.injEq, Prod.mk.injEq] at H
    obtain ⟨rfl, rfl⟩ := H
    go_enter Tryd.func77, Tryd.ntmps77
    go_wp2_with (first | ((with_reducible refine gate_callee (f := 76) rfl ?_); refine goesL_ (some 15) rfl rfl Tryd.func76 (by kernel_rfl) rfl #[.slice A0 l0.length c0, .int .i64 a1, .int .i64 a2] rfl (by (try simp only [List.map_toArray, List.map_cons, List.map_nil]); first | done | rfl | (simp only [List.length_drop, List.length_take]; rfl)) ?_; (with_reducible refine (be_U.calls _ _ l0 a1 a2 t103 t104 _ ?side1 ?side2 A4.out).mono ?_); (case side1 => repeat (first | exact HR0.out | (with_reducible refine Kd.C_alloc ?_ _) | (with_reducible refine Kd.C_drewN ?_ _) | (with_reducible refine Kd.C_drew ?_))); (case side2 => exact HC0.out); rintro e w' ⟨rfl, ⟨nd, rfl⟩⟩; refine ⟨_, rfl, ?_⟩))
    go_ret2
    exact ⟨by first | rfl | (simp; done) | (simp [*]; done), by repeat (first | exact Drawn0.refl _ | apply Drawn0.step)⟩

end Go.Proofs.YtcclmaicdmogjaaDoor.P

-- Written by wip/pr.py over the kit's print
namespace Go.Proofs.YtcclmaicdmogjaaDoor.P
open Go.RowKit Go.Proofs.YtcclmaicdmogjaaDoorW.PrintWords Go.Proofs.YtcclmaicdmogjaaDoorW.PrintLast Go.Proofs.YtcclmaicdmogjaaDoorW.PrintMore
attribute [local go_sem] max2_int min2_int max_two min_two max_three min_three max_four min_four   -- for this text's walks alone
set_option linter.unusedVariables false
set_option linter.unusedSimpArgs false

/-! ### head_s: function 44 -/
def head_s.f (l0 : List Int) (a1 : Int) : Option (Int) := (be_S.f l0 a1 2).bind fun bt105 => (some bt105.1)
set_option maxHeartbeats 8000000 in
set_option maxRecDepth 100000 in
theorem head_s.calls (A0 : Option Addr) (c0 : Nat) (l0 : List Int) (a1 : Int) (r : Int) (w : World) (hr0 : Kd.C (Kd.int .u8) w A0 l0.length l0) (hc0 : l0.length ≤ c0) (h : head_s.f l0 a1 = some r) :
    Calls Tryd.prog 44 #[.slice A0 l0.length c0, .int .i64 a1] w fun e w' => e = .returned (.int .i64 r) ∧ Drawn0 w w' := by
  have HR0 := Aside0.mk hr0
  have HC0 := Aside0.mk hc0
  clear hr0 hc0
  have H : ((be_S.f l0 a1 2).bind fun bt105 => (some bt105.1)) = some r := h
  clear h
  replace H := Option.bind_eq_some_iff.mp H
  obtain ⟨⟨t105, t106⟩, A30, H⟩ := H
  replace H : (some t105) = some r := H
  have A3 := Aside0.mk A30
  clear A30
  obtain rfl := Option.some.inj H
  go_enter Tryd.func44, Tryd.ntmps44
  go_wp2_with (first | ((with_reducible refine gate_callee (f := 77) rfl ?_); refine goesL_ (some 10) rfl rfl Tryd.func77 (by kernel_rfl) rfl #[.slice A0 l0.length c0, .int .i64 a1, .int .i64 2] rfl (by (try simp only [List.map_toArray, List.map_cons, List.map_nil]); first | done | rfl | (simp only [List.length_drop, List.length_take]; rfl)) ?_; (with_reducible refine (be_S.calls _ _ l0 a1 2 t105 t106 _ ?side1 ?side2 A3.out).mono ?_); (case side1 => repeat (first | exact HR0.out | (with_reducible refine Kd.C_alloc ?_ _) | (with_reducible refine Kd.C_drewN ?_ _) | (with_reducible refine Kd.C_drew ?_))); (case side2 => exact HC0.out); rintro e w' ⟨rfl, ⟨nd, rfl⟩⟩; refine ⟨_, rfl, ?_⟩))
  go_ret
  exact ⟨by first | rfl | (simp; done) | (simp [*]; done), by repeat (first | exact Drawn0.refl _ | apply Drawn0.step)⟩

end Go.Proofs.YtcclmaicdmogjaaDoor.P

namespace Go.Proofs.YtcclmaicdmogjaaDoor.P
open Go.RowKit Go.Proofs.YtcclmaicdmogjaaDoorW.PrintWords Go.Proofs.YtcclmaicdmogjaaDoorW.PrintLast Go.Proofs.YtcclmaicdmogjaaDoorW.PrintMore
set_option linter.unusedVariables false
set_option linter.unusedSimpArgs false

section
variable {P : Program} {ops : Array Oper} {rest : List Oper} {o : Oper} {a : Act} {Q : Exit → Act → World → Prop}
/-- A store of a value into a block of the call's own, cell by cell: the new world is a letter. -/
theorem store_seg {W : World} (hgd : o.guard = none) (t : TypeId) (p x : Operand) (ho : o.op = .store t p x) (hN : o.dst = none) {g off : Nat} {e : TypeId} {cur : Array Value} (seg : List Value) (u : Value)
    (hp : a.eval p = .pointer (some ⟨g, off, none⟩)) (hx : a.eval x = u) (hu : u.cells.toList = seg) (ht : (P.info? t).map (·.size) = some seg.length) (h1 : ∀ q ∈ seg, q.oneCell' = true)
    (hh : W.heap[g]? = some (.cells cur e (0, 0))) (hfit : off + seg.length ≤ cur.size) (cur2 : Array Value) (hc2 : cur2.toList = cur.toList.take off ++ seg ++ cur.toList.drop (off + seg.length))
    (h : ∀ w1, w1.heap[g]? = some (.cells cur2 e (0, 0)) → W.grownBy w1 (some g) → wpList P ops Q rest a w1) : wpList P ops Q (o :: rest) a W := by
  refine wpList_plain hgd fun K hK => ?_
  have hrun := run_store_run (P := P) (w := W) t u seg hh hu ht hfit h1
  obtain ⟨cur', h3, h4, h5⟩ := setCells_row seg off W cur hh hfit
  obtain ⟨s1, s2, s3, s4⟩ := setCells_same g seg off W
  have e2 : cur' = cur2 := by
    rw [← hc2] at h5
    exact Array.ext' h5
  rw [e2] at h3
  unfold Oper.wp execOp
  simp only [ho, hp, hx, Sem.run_bind, Sem.run_pure, Result.andThen_ok, hrun]
  show K (a.put o.dst undef) _
  rw [hN]
  exact hK a _ (h _ h3 ⟨s1, s2, s3, by rw [s4]; exact Nat.le_refl _, fun k _ hk => setCells_far _ _ k (fun he => hk (by rw [he]))⟩)
end
theorem grown_below {w W w1 : World} {g : Nat} (h : Below w.heap.size w W) (hg : W.grownBy w1 (some g)) (hle : w.heap.size ≤ g) : Below w.heap.size w w1 :=
  h.grown hg (below_size h) (fun k hk => by injection hk with hk; rw [← hk]; exact hle)
theorem one_all {l : List Value} (h : (l.all fun v => v.oneCell') = true) : ∀ q ∈ l, q.oneCell' = true := List.all_eq_true.1 h
section
variable {P : Program} {ops : Array Oper} {rest : List Oper} {o : Oper} {a : Act} {Q : Exit → Act → World → Prop}
/-- A store of a byte into a row of the call's own. -/
theorem store_u8 {W : World} (hgd : o.guard = none) (t : TypeId) (p x : Operand) (ho : o.op = .store t p x) (hN : o.dst = none) {g n cap i e base : Nat} {ok : Nat → Prop} {xs : List Int} (y : Int)
    (hp : a.eval p = .pointer (some ⟨g, i, none⟩)) (hx : a.eval x = .int .u8 y) (ht : (P.info? t).map (·.size) = some 1) (HO : (Kd.int .u8).R e W base ok (.slice (some ⟨g, 0, none⟩) n cap) xs) (hi : i < n)
    (h : ∀ w1, (Kd.int .u8).R e w1 base ok (.slice (some ⟨g, 0, none⟩) n cap) (xs.set i y) → W.grownBy w1 (some g) → wpList P ops Q rest a w1) : wpList P ops Q (o :: rest) a W := by
  obtain ⟨h1, h2⟩ := Kd.R_putg (enc := Value.int .u8) (h1 := fun _ => rfl) HO (i : Int) y
  have hown := Kd.own_of_R (enc := Value.int .u8) (h1 := fun _ => rfl) HO
  have hn : n = xs.length := (Kd.R_reads' HO).1
  refine wpList_plain hgd fun K hK => ?_
  have hrun : (Instr.storeAt t (.pointer (some ⟨g, i, none⟩)) (.int .u8 y)).run P W = .ok () (W.setCells g i [.int .u8 y]) := by
    rcases hown.2 with ⟨hv, _⟩ | ⟨g', cap', cur, hv, hb, hh, hnc, hcm, hcs, _⟩
    · cases hv
    injection hv with ha _ hc
    injection ha with ha
    injection ha with hg'
    subst hg'; subst hc
    exact run_store_run t (.int .u8 y) [.int .u8 y] hh rfl (by simpa using ht) (by simp only [List.length_cons, List.length_nil]; omega) (one_all rfl)
  unfold Oper.wp execOp
  simp only [ho, hp, hx, Sem.run_bind, Sem.run_pure, Result.andThen_ok, hrun]
  show K (a.put o.dst undef) _
  rw [hN]
  exact hK a _ (h _ h1 h2)
end

end Go.Proofs.YtcclmaicdmogjaaDoor.P

-- Written by wip/pr.py over the kit's print
namespace Go.Proofs.YtcclmaicdmogjaaDoor.P
open Go.RowKit Go.Proofs.YtcclmaicdmogjaaDoorW.PrintWords Go.Proofs.YtcclmaicdmogjaaDoorW.PrintLast Go.Proofs.YtcclmaicdmogjaaDoorW.PrintMore
attribute [local go_sem] max2_int min2_int max_two min_two max_three min_three max_four min_four   -- for this text's walks alone
set_option linter.unusedVariables false
set_option linter.unusedSimpArgs false

/-! ### head_Head: function 20 (by hand) -/
-- FUNC calamus/head.Head
-- ROUNDS no
-- MAKES yes
-- INFO uint8
-- NEEDS boxlaw
def head_Head.f (l0 : List Int) : Option (Int × Int × Int × Int × Int × Bool × Int) :=
  if (l0.length : Int) < 54 then some (0, 0, 0, 0, 0, false, 3) else (head_u.f l0 18 2).bind fun em => (head_s.f l0 36).bind fun x0 => (head_s.f l0 38).bind fun x1 => (head_s.f l0 40).bind fun x2 => (head_s.f l0 42).bind fun x3 => (head_u.f l0 50 2).bind fun fm => (head_u.f l0 12 4).bind fun mg =>
    some (if (fm ≠ 0 ∧ fm ≠ 1) ∨ mg ≠ 1594834165 ∨ em < 16 ∨ em > 16384 then (0, 0, 0, 0, 0, false, 4) else (em, x0, x1, x2, x3, decide (fm = 1), 0))
set_option maxHeartbeats 2000000 in
set_option maxRecDepth 100000 in
theorem head_Head_short (A0 : Option Addr) (c0 : Nat) (l0 : List Int) (w : World) (HC : Aside0 (Kd.C (Kd.int .u8) w A0 l0.length l0)) (HL : Aside0 (l0.length ≤ c0)) (HA : Aside0 (head_ask.f l0 54 = some 3)) :
    Calls Tryd.prog 20 #[.slice A0 l0.length c0] w fun e w' => e = .returned (.tuple #[.agg #[.int .i64 0, .int .i64 0, .int .i64 0, .int .i64 0, .int .i64 0, .bool false], .int .i64 3]) ∧ Below w.heap.size w w' := by
  have HB := Aside0.mk (Below.refl w.heap.size w)
  go_enter Tryd.func20, Tryd.ntmps20
  go_wp2_with (first
    | ((with_reducible refine gate_dst (N := 2) rfl ?_); refine box_event rfl (N := 2) rfl (cs := #[.int .i64 0, .int .i64 0, .int .i64 0, .int .i64 0, .int .i64 0, .bool false]) (t := 37) ?hr ?_; (case hr => first | (go_simp; done) | (go_simp; rfl)); intro gb2 hgb w1 hbx hb1; have HX2 := Aside0.mk hbx; have GE2 := Aside0.mk (show w.heap.size ≤ gb2 from Nat.le_of_eq hgb.symm); clear HB; have HB := Aside0.mk hb1; clear hgb hbx hb1)
    | (go_at_call 40; (with_reducible refine (head_ask.calls _ _ l0 54 3 _ ?sc HL.out HA.out).mono ?_); (case sc => repeat (first | exact Kd.C_below HC.out HB.out | (with_reducible refine Kd.C_drewN ?_ _) | (with_reducible refine Kd.C_drew ?_))); rintro e w' ⟨rfl, ⟨nd, rfl⟩⟩)
    | ((with_reducible refine gate_store (t := 37) (p := 2) rfl ?_); refine store_seg rfl 37 (.tmp 2) _ rfl rfl (g := gb2) (off := 0) [.int .i64 0, .int .i64 0, .int .i64 0, .int .i64 0, .int .i64 0, .bool false] (.agg #[.int .i64 0, .int .i64 0, .int .i64 0, .int .i64 0, .int .i64 0, .bool false]) rfl rfl rfl (by kernel_rfl) (one_all rfl) HX2.out (Nat.le_refl 6) #[.int .i64 0, .int .i64 0, .int .i64 0, .int .i64 0, .int .i64 0, .bool false] rfl ?_; intro w8 hx6 hg6; have n1 : Aside0 (Below w.heap.size w w8) := ⟨by first | exact grown_below HB.out hg6 GE2.out | exact grown_below (pw_below_drewN HB.out _) hg6 GE2.out⟩; clear HX2 HB; have HB := n1; have HX2 := Aside0.mk hx6; clear n1 hx6 hg6))
  refine bodyPost_ret (results_ct rfl _ _ gb2 37 #[.int .i64 0, .int .i64 0, .int .i64 0, .int .i64 0, .int .i64 0, .bool false] (0, 0) _ rfl (by exact HX2.out) Tryd.underlying37 rfl (by kernel_rfl)) rfl ?_
  exact ⟨rfl, by first | exact HB.out | exact pw_below_drewN HB.out _⟩

set_option maxHeartbeats 4000000 in
set_option maxRecDepth 100000 in
theorem head_Head_form (A0 : Option Addr) (c0 : Nat) (l0 : List Int) (em x0 x1 x2 x3 fm mg : Int) (w : World) (HC : Aside0 (Kd.C (Kd.int .u8) w A0 l0.length l0)) (HL : Aside0 (l0.length ≤ c0)) (HA : Aside0 (head_ask.f l0 54 = some 0)) (AE : Aside0 (head_u.f l0 18 2 = some em)) (A0_ : Aside0 (head_s.f l0 36 = some x0)) (A1 : Aside0 (head_s.f l0 38 = some x1)) (A2 : Aside0 (head_s.f l0 40 = some x2)) (A3 : Aside0 (head_s.f l0 42 = some x3)) (AF : Aside0 (head_u.f l0 50 2 = some fm)) (AM : Aside0 (head_u.f l0 12 4 = some mg)) (hf : fm ≠ 0 ∧ fm ≠ 1) :
    Calls Tryd.prog 20 #[.slice A0 l0.length c0] w fun e w' => e = .returned (.tuple #[.agg #[.int .i64 0, .int .i64 0, .int .i64 0, .int .i64 0, .int .i64 0, .bool false], .int .i64 4]) ∧ Below w.heap.size w w' := by
  have HB := Aside0.mk (Below.refl w.heap.size w)
  have b0 : (fm == 0) = false := beq_eq_false_iff_ne.2 hf.1
  have b1 : (fm == 1) = false := beq_eq_false_iff_ne.2 hf.2
  clear hf
  go_enter Tryd.func20, Tryd.ntmps20
  go_wp2_with (first
    | ((with_reducible refine gate_dst (N := 2) rfl ?_); refine box_event rfl (N := 2) rfl (cs := #[.int .i64 0, .int .i64 0, .int .i64 0, .int .i64 0, .int .i64 0, .bool false]) (t := 37) ?hr ?_; (case hr => first | (go_simp; done) | (go_simp; rfl)); intro gb2 hgb w1 hbx hb1; have HX2 := Aside0.mk hbx; have GE2 := Aside0.mk (show w.heap.size ≤ gb2 from Nat.le_of_eq hgb.symm); clear HB; have HB := Aside0.mk hb1; clear hgb hbx hb1)
    | (go_at_call 40; (with_reducible refine (head_ask.calls _ _ l0 54 0 _ ?sc HL.out HA.out).mono ?_); (case sc => repeat (first | exact Kd.C_below HC.out HB.out | (with_reducible refine Kd.C_drewN ?_ _) | (with_reducible refine Kd.C_drew ?_))); rintro e w' ⟨rfl, ⟨nd, rfl⟩⟩)
    | (go_at_call 43; (with_reducible refine (head_u.calls _ _ l0 18 2 em _ ?sc HL.out AE.out).mono ?_); (case sc => repeat (first | exact Kd.C_below HC.out HB.out | (with_reducible refine Kd.C_drewN ?_ _) | (with_reducible refine Kd.C_drew ?_))); rintro e w' ⟨rfl, ⟨nd, rfl⟩⟩)
    | (go_at_call 44; (with_reducible refine (head_s.calls _ _ l0 36 x0 _ ?sc HL.out A0_.out).mono ?_); (case sc => repeat (first | exact Kd.C_below HC.out HB.out | (with_reducible refine Kd.C_drewN ?_ _) | (with_reducible refine Kd.C_drew ?_))); rintro e w' ⟨rfl, ⟨nd, rfl⟩⟩)
    | (go_at_call 44; (with_reducible refine (head_s.calls _ _ l0 38 x1 _ ?sc HL.out A1.out).mono ?_); (case sc => repeat (first | exact Kd.C_below HC.out HB.out | (with_reducible refine Kd.C_drewN ?_ _) | (with_reducible refine Kd.C_drew ?_))); rintro e w' ⟨rfl, ⟨nd, rfl⟩⟩)
    | (go_at_call 44; (with_reducible refine (head_s.calls _ _ l0 40 x2 _ ?sc HL.out A2.out).mono ?_); (case sc => repeat (first | exact Kd.C_below HC.out HB.out | (with_reducible refine Kd.C_drewN ?_ _) | (with_reducible refine Kd.C_drew ?_))); rintro e w' ⟨rfl, ⟨nd, rfl⟩⟩)
    | (go_at_call 44; (with_reducible refine (head_s.calls _ _ l0 42 x3 _ ?sc HL.out A3.out).mono ?_); (case sc => repeat (first | exact Kd.C_below HC.out HB.out | (with_reducible refine Kd.C_drewN ?_ _) | (with_reducible refine Kd.C_drew ?_))); rintro e w' ⟨rfl, ⟨nd, rfl⟩⟩)
    | ((with_reducible refine gate_dst (N := 5) rfl ?_); refine box_event rfl (N := 5) rfl (cs := #[.int .i64 0, .int .i64 0, .int .i64 0, .int .i64 0, .int .i64 0, .bool false]) (t := 37) ?hr ?_; (case hr => first | (go_simp; done) | (go_simp; rfl)); intro gb5 hgb w5 hbx hb1; have HX5 := Aside0.mk hbx; have n0 := Aside0.mk (blk_below (blk_drewN HX2.out _) hb1); have n1 := Aside0.mk (show w.heap.size ≤ gb5 from by have h2 : gb5 = w1.heap.size := hgb; rw [h2]; exact below_size HB.out); have n2 := Aside0.mk (below_step (pw_below_drewN HB.out _) hb1); have n3 := Aside0.mk (show some gb2 ≠ some gb5 from fun he => by have h1 := blk_lt HX2.out; have h2 : gb5 = w1.heap.size := hgb; injection he with he; omega); clear HX2 HB; have HX2 := n0; have GE5 := n1; have HB := n2; have NE25 := n3; clear n0 n1 n2 n3 hgb hbx hb1)
    | ((with_reducible refine gate_store (t := 37) (p := 5) rfl ?_); refine store_seg rfl 37 (.tmp 5) _ rfl rfl (g := gb5) (off := 0) [.int .i64 em, .int .i64 x0, .int .i64 x1, .int .i64 x2, .int .i64 x3, .bool false] (.agg #[.int .i64 em, .int .i64 x0, .int .i64 x1, .int .i64 x2, .int .i64 x3, .bool false]) rfl rfl rfl (by kernel_rfl) (one_all rfl) HX5.out (Nat.le_refl 6) #[.int .i64 em, .int .i64 x0, .int .i64 x1, .int .i64 x2, .int .i64 x3, .bool false] rfl ?_; intro w6 hx6 hg6; have n0 := Aside0.mk (blk_grown HX2.out hg6 NE25.out); have n1 := Aside0.mk (grown_below HB.out hg6 GE5.out); clear HX2 HB HX5; have HX2 := n0; have HB := n1; have HX5 := Aside0.mk hx6; clear n0 n1 hx6 hg6)
    | (go_at_call 43; (with_reducible refine (head_u.calls _ _ l0 50 2 fm _ ?sc HL.out AF.out).mono ?_); (case sc => repeat (first | exact Kd.C_below HC.out HB.out | (with_reducible refine Kd.C_drewN ?_ _) | (with_reducible refine Kd.C_drew ?_))); rintro e w' ⟨rfl, ⟨nd, rfl⟩⟩)
    | ((with_reducible refine gate_store (t := 37) (p := 2) rfl ?_); refine store_seg rfl 37 (.tmp 2) _ rfl rfl (g := gb2) (off := 0) [.int .i64 0, .int .i64 0, .int .i64 0, .int .i64 0, .int .i64 0, .bool false] (.agg #[.int .i64 0, .int .i64 0, .int .i64 0, .int .i64 0, .int .i64 0, .bool false]) rfl rfl rfl (by kernel_rfl) (one_all rfl) HX2.out (Nat.le_refl 6) #[.int .i64 0, .int .i64 0, .int .i64 0, .int .i64 0, .int .i64 0, .bool false] rfl ?_; intro w8 hx6 hg6; have n1 : Aside0 (Below w.heap.size w w8) := ⟨by first | exact grown_below HB.out hg6 GE2.out | exact grown_below (pw_below_drewN HB.out _) hg6 GE2.out⟩; clear HX2 HB; have HB := n1; have HX2 := Aside0.mk hx6; clear n1 hx6 hg6))
  refine bodyPost_ret (results_ct rfl _ _ gb2 37 #[.int .i64 0, .int .i64 0, .int .i64 0, .int .i64 0, .int .i64 0, .bool false] (0, 0) _ rfl (by exact HX2.out) Tryd.underlying37 rfl (by kernel_rfl)) rfl ?_
  exact ⟨rfl, by first | exact HB.out | exact pw_below_drewN HB.out _⟩

set_option maxHeartbeats 4000000 in
set_option maxRecDepth 100000 in
theorem head_Head_magic0 (A0 : Option Addr) (c0 : Nat) (l0 : List Int) (em x0 x1 x2 x3 fm mg : Int) (w : World) (HC : Aside0 (Kd.C (Kd.int .u8) w A0 l0.length l0)) (HL : Aside0 (l0.length ≤ c0)) (HA : Aside0 (head_ask.f l0 54 = some 0)) (AE : Aside0 (head_u.f l0 18 2 = some em)) (A0_ : Aside0 (head_s.f l0 36 = some x0)) (A1 : Aside0 (head_s.f l0 38 = some x1)) (A2 : Aside0 (head_s.f l0 40 = some x2)) (A3 : Aside0 (head_s.f l0 42 = some x3)) (AF : Aside0 (head_u.f l0 50 2 = some fm)) (AM : Aside0 (head_u.f l0 12 4 = some mg)) (hf : fm = 0) (hm : mg ≠ 1594834165) :
    Calls Tryd.prog 20 #[.slice A0 l0.length c0] w fun e w' => e = .returned (.tuple #[.agg #[.int .i64 0, .int .i64 0, .int .i64 0, .int .i64 0, .int .i64 0, .bool false], .int .i64 4]) ∧ Below w.heap.size w w' := by
  have HB := Aside0.mk (Below.refl w.heap.size w)
  have b0 : (fm == 0) = true := beq_iff_eq.2 hf
  have b2 : (mg != 1594834165) = true := by rw [bne_iff_ne]; exact hm
  clear hf hm
  go_enter Tryd.func20, Tryd.ntmps20
  go_wp2_with (first
    | ((with_reducible refine gate_dst (N := 2) rfl ?_); refine box_event rfl (N := 2) rfl (cs := #[.int .i64 0, .int .i64 0, .int .i64 0, .int .i64 0, .int .i64 0, .bool false]) (t := 37) ?hr ?_; (case hr => first | (go_simp; done) | (go_simp; rfl)); intro gb2 hgb w1 hbx hb1; have HX2 := Aside0.mk hbx; have GE2 := Aside0.mk (show w.heap.size ≤ gb2 from Nat.le_of_eq hgb.symm); clear HB; have HB := Aside0.mk hb1; clear hgb hbx hb1)
    | (go_at_call 40; (with_reducible refine (head_ask.calls _ _ l0 54 0 _ ?sc HL.out HA.out).mono ?_); (case sc => repeat (first | exact Kd.C_below HC.out HB.out | (with_reducible refine Kd.C_drewN ?_ _) | (with_reducible refine Kd.C_drew ?_))); rintro e w' ⟨rfl, ⟨nd, rfl⟩⟩)
    | (go_at_call 43; (with_reducible refine (head_u.calls _ _ l0 18 2 em _ ?sc HL.out AE.out).mono ?_); (case sc => repeat (first | exact Kd.C_below HC.out HB.out | (with_reducible refine Kd.C_drewN ?_ _) | (with_reducible refine Kd.C_drew ?_))); rintro e w' ⟨rfl, ⟨nd, rfl⟩⟩)
    | (go_at_call 44; (with_reducible refine (head_s.calls _ _ l0 36 x0 _ ?sc HL.out A0_.out).mono ?_); (case sc => repeat (first | exact Kd.C_below HC.out HB.out | (with_reducible refine Kd.C_drewN ?_ _) | (with_reducible refine Kd.C_drew ?_))); rintro e w' ⟨rfl, ⟨nd, rfl⟩⟩)
    | (go_at_call 44; (with_reducible refine (head_s.calls _ _ l0 38 x1 _ ?sc HL.out A1.out).mono ?_); (case sc => repeat (first | exact Kd.C_below HC.out HB.out | (with_reducible refine Kd.C_drewN ?_ _) | (with_reducible refine Kd.C_drew ?_))); rintro e w' ⟨rfl, ⟨nd, rfl⟩⟩)
    | (go_at_call 44; (with_reducible refine (head_s.calls _ _ l0 40 x2 _ ?sc HL.out A2.out).mono ?_); (case sc => repeat (first | exact Kd.C_below HC.out HB.out | (with_reducible refine Kd.C_drewN ?_ _) | (with_reducible refine Kd.C_drew ?_))); rintro e w' ⟨rfl, ⟨nd, rfl⟩⟩)
    | (go_at_call 44; (with_reducible refine (head_s.calls _ _ l0 42 x3 _ ?sc HL.out A3.out).mono ?_); (case sc => repeat (first | exact Kd.C_below HC.out HB.out | (with_reducible refine Kd.C_drewN ?_ _) | (with_reducible refine Kd.C_drew ?_))); rintro e w' ⟨rfl, ⟨nd, rfl⟩⟩)
    | ((with_reducible refine gate_dst (N := 5) rfl ?_); refine box_event rfl (N := 5) rfl (cs := #[.int .i64 0, .int .i64 0, .int .i64 0, .int .i64 0, .int .i64 0, .bool false]) (t := 37) ?hr ?_; (case hr => first | (go_simp; done) | (go_simp; rfl)); intro gb5 hgb w5 hbx hb1; have HX5 := Aside0.mk hbx; have n0 := Aside0.mk (blk_below (blk_drewN HX2.out _) hb1); have n1 := Aside0.mk (show w.heap.size ≤ gb5 from by have h2 : gb5 = w1.heap.size := hgb; rw [h2]; exact below_size HB.out); have n2 := Aside0.mk (below_step (pw_below_drewN HB.out _) hb1); have n3 := Aside0.mk (show some gb2 ≠ some gb5 from fun he => by have h1 := blk_lt HX2.out; have h2 : gb5 = w1.heap.size := hgb; injection he with he; omega); clear HX2 HB; have HX2 := n0; have GE5 := n1; have HB := n2; have NE25 := n3; clear n0 n1 n2 n3 hgb hbx hb1)
    | ((with_reducible refine gate_store (t := 37) (p := 5) rfl ?_); refine store_seg rfl 37 (.tmp 5) _ rfl rfl (g := gb5) (off := 0) [.int .i64 em, .int .i64 x0, .int .i64 x1, .int .i64 x2, .int .i64 x3, .bool false] (.agg #[.int .i64 em, .int .i64 x0, .int .i64 x1, .int .i64 x2, .int .i64 x3, .bool false]) rfl rfl rfl (by kernel_rfl) (one_all rfl) HX5.out (Nat.le_refl 6) #[.int .i64 em, .int .i64 x0, .int .i64 x1, .int .i64 x2, .int .i64 x3, .bool false] rfl ?_; intro w6 hx6 hg6; have n0 := Aside0.mk (blk_grown HX2.out hg6 NE25.out); have n1 := Aside0.mk (grown_below HB.out hg6 GE5.out); clear HX2 HB HX5; have HX2 := n0; have HB := n1; have HX5 := Aside0.mk hx6; clear n0 n1 hx6 hg6)
    | (go_at_call 43; (with_reducible refine (head_u.calls _ _ l0 50 2 fm _ ?sc HL.out AF.out).mono ?_); (case sc => repeat (first | exact Kd.C_below HC.out HB.out | (with_reducible refine Kd.C_drewN ?_ _) | (with_reducible refine Kd.C_drew ?_))); rintro e w' ⟨rfl, ⟨nd, rfl⟩⟩)
    | (go_at_call 43; (with_reducible refine (head_u.calls _ _ l0 12 4 mg _ ?sc HL.out AM.out).mono ?_); (case sc => repeat (first | exact Kd.C_below HC.out HB.out | (with_reducible refine Kd.C_drewN ?_ _) | (with_reducible refine Kd.C_drew ?_))); rintro e w9 ⟨rfl, ⟨nd, hq⟩⟩; have n0 : Aside0 (w9.heap[gb5]? = some (.cells #[.int .i64 em, .int .i64 x0, .int .i64 x1, .int .i64 x2, .int .i64 x3, .bool false] 37 (0, 0))) := ⟨blk_at hq.symm (by exact HX5.out)⟩; have n1 := Aside0.mk (blk_at hq.symm (by exact HX2.out)); have n2 : Aside0 (Below w.heap.size w w9) := ⟨below_at hq.symm (by first | exact HB.out | exact pw_below_drewN HB.out _)⟩; clear HX5 HX2 HB hq; have HX5 := n0; have HX2 := n1; have HB := n2; clear n0 n1 n2; have hc0 := (blk_cell HX5.out 0).trans (show (_ : Option Value) = some (.int .i64 em) from rfl); have hc1 := (blk_cell HX5.out 1).trans (show (_ : Option Value) = some (.int .i64 x0) from rfl); have hc2 := (blk_cell HX5.out 2).trans (show (_ : Option Value) = some (.int .i64 x1) from rfl); have hc3 := (blk_cell HX5.out 3).trans (show (_ : Option Value) = some (.int .i64 x2) from rfl); have hc4 := (blk_cell HX5.out 4).trans (show (_ : Option Value) = some (.int .i64 x3) from rfl); have hc5 := (blk_cell HX5.out 5).trans (show (_ : Option Value) = some (.bool false) from rfl))
    | ((with_reducible refine gate_store (t := 37) (p := 2) rfl ?_); refine store_seg rfl 37 (.tmp 2) _ rfl rfl (g := gb2) (off := 0) [.int .i64 0, .int .i64 0, .int .i64 0, .int .i64 0, .int .i64 0, .bool false] (.agg #[.int .i64 0, .int .i64 0, .int .i64 0, .int .i64 0, .int .i64 0, .bool false]) rfl rfl rfl (by kernel_rfl) (one_all rfl) HX2.out (Nat.le_refl 6) #[.int .i64 0, .int .i64 0, .int .i64 0, .int .i64 0, .int .i64 0, .bool false] rfl ?_; intro w8 hx6 hg6; have n1 : Aside0 (Below w.heap.size w w8) := ⟨by first | exact grown_below HB.out hg6 GE2.out | exact grown_below (pw_below_drewN HB.out _) hg6 GE2.out⟩; clear HX2 HB; have HB := n1; have HX2 := Aside0.mk hx6; clear n1 hx6 hg6))
  refine bodyPost_ret (results_ct rfl _ _ gb2 37 #[.int .i64 0, .int .i64 0, .int .i64 0, .int .i64 0, .int .i64 0, .bool false] (0, 0) _ rfl (by exact HX2.out) Tryd.underlying37 rfl (by kernel_rfl)) rfl ?_
  exact ⟨rfl, by first | exact HB.out | exact pw_below_drewN HB.out _⟩

set_option maxHeartbeats 4000000 in
set_option maxRecDepth 100000 in
theorem head_Head_low0 (A0 : Option Addr) (c0 : Nat) (l0 : List Int) (em x0 x1 x2 x3 fm mg : Int) (w : World) (HC : Aside0 (Kd.C (Kd.int .u8) w A0 l0.length l0)) (HL : Aside0 (l0.length ≤ c0)) (HA : Aside0 (head_ask.f l0 54 = some 0)) (AE : Aside0 (head_u.f l0 18 2 = some em)) (A0_ : Aside0 (head_s.f l0 36 = some x0)) (A1 : Aside0 (head_s.f l0 38 = some x1)) (A2 : Aside0 (head_s.f l0 40 = some x2)) (A3 : Aside0 (head_s.f l0 42 = some x3)) (AF : Aside0 (head_u.f l0 50 2 = some fm)) (AM : Aside0 (head_u.f l0 12 4 = some mg)) (hf : fm = 0) (hm : mg = 1594834165) (he : em < 16) :
    Calls Tryd.prog 20 #[.slice A0 l0.length c0] w fun e w' => e = .returned (.tuple #[.agg #[.int .i64 0, .int .i64 0, .int .i64 0, .int .i64 0, .int .i64 0, .bool false], .int .i64 4]) ∧ Below w.heap.size w w' := by
  have HB := Aside0.mk (Below.refl w.heap.size w)
  have b0 : (fm == 0) = true := beq_iff_eq.2 hf
  have b2 : (mg != 1594834165) = false := bne_eq_false_iff_eq.2 hm
  clear hf hm
  go_enter Tryd.func20, Tryd.ntmps20
  go_wp2_with (first
    | ((with_reducible refine gate_dst (N := 2) rfl ?_); refine box_event rfl (N := 2) rfl (cs := #[.int .i64 0, .int .i64 0, .int .i64 0, .int .i64 0, .int .i64 0, .bool false]) (t := 37) ?hr ?_; (case hr => first | (go_simp; done) | (go_simp; rfl)); intro gb2 hgb w1 hbx hb1; have HX2 := Aside0.mk hbx; have GE2 := Aside0.mk (show w.heap.size ≤ gb2 from Nat.le_of_eq hgb.symm); clear HB; have HB := Aside0.mk hb1; clear hgb hbx hb1)
    | (go_at_call 40; (with_reducible refine (head_ask.calls _ _ l0 54 0 _ ?sc HL.out HA.out).mono ?_); (case sc => repeat (first | exact Kd.C_below HC.out HB.out | (with_reducible refine Kd.C_drewN ?_ _) | (with_reducible refine Kd.C_drew ?_))); rintro e w' ⟨rfl, ⟨nd, rfl⟩⟩)
    | (go_at_call 43; (with_reducible refine (head_u.calls _ _ l0 18 2 em _ ?sc HL.out AE.out).mono ?_); (case sc => repeat (first | exact Kd.C_below HC.out HB.out | (with_reducible refine Kd.C_drewN ?_ _) | (with_reducible refine Kd.C_drew ?_))); rintro e w' ⟨rfl, ⟨nd, rfl⟩⟩)
    | (go_at_call 44; (with_reducible refine (head_s.calls _ _ l0 36 x0 _ ?sc HL.out A0_.out).mono ?_); (case sc => repeat (first | exact Kd.C_below HC.out HB.out | (with_reducible refine Kd.C_drewN ?_ _) | (with_reducible refine Kd.C_drew ?_))); rintro e w' ⟨rfl, ⟨nd, rfl⟩⟩)
    | (go_at_call 44; (with_reducible refine (head_s.calls _ _ l0 38 x1 _ ?sc HL.out A1.out).mono ?_); (case sc => repeat (first | exact Kd.C_below HC.out HB.out | (with_reducible refine Kd.C_drewN ?_ _) | (with_reducible refine Kd.C_drew ?_))); rintro e w' ⟨rfl, ⟨nd, rfl⟩⟩)
    | (go_at_call 44; (with_reducible refine (head_s.calls _ _ l0 40 x2 _ ?sc HL.out A2.out).mono ?_); (case sc => repeat (first | exact Kd.C_below HC.out HB.out | (with_reducible refine Kd.C_drewN ?_ _) | (with_reducible refine Kd.C_drew ?_))); rintro e w' ⟨rfl, ⟨nd, rfl⟩⟩)
    | (go_at_call 44; (with_reducible refine (head_s.calls _ _ l0 42 x3 _ ?sc HL.out A3.out).mono ?_); (case sc => repeat (first | exact Kd.C_below HC.out HB.out | (with_reducible refine Kd.C_drewN ?_ _) | (with_reducible refine Kd.C_drew ?_))); rintro e w' ⟨rfl, ⟨nd, rfl⟩⟩)
    | ((with_reducible refine gate_dst (N := 5) rfl ?_); refine box_event rfl (N := 5) rfl (cs := #[.int .i64 0, .int .i64 0, .int .i64 0, .int .i64 0, .int .i64 0, .bool false]) (t := 37) ?hr ?_; (case hr => first | (go_simp; done) | (go_simp; rfl)); intro gb5 hgb w5 hbx hb1; have HX5 := Aside0.mk hbx; have n0 := Aside0.mk (blk_below (blk_drewN HX2.out _) hb1); have n1 := Aside0.mk (show w.heap.size ≤ gb5 from by have h2 : gb5 = w1.heap.size := hgb; rw [h2]; exact below_size HB.out); have n2 := Aside0.mk (below_step (pw_below_drewN HB.out _) hb1); have n3 := Aside0.mk (show some gb2 ≠ some gb5 from fun he => by have h1 := blk_lt HX2.out; have h2 : gb5 = w1.heap.size := hgb; injection he with he; omega); clear HX2 HB; have HX2 := n0; have GE5 := n1; have HB := n2; have NE25 := n3; clear n0 n1 n2 n3 hgb hbx hb1)
    | ((with_reducible refine gate_store (t := 37) (p := 5) rfl ?_); refine store_seg rfl 37 (.tmp 5) _ rfl rfl (g := gb5) (off := 0) [.int .i64 em, .int .i64 x0, .int .i64 x1, .int .i64 x2, .int .i64 x3, .bool false] (.agg #[.int .i64 em, .int .i64 x0, .int .i64 x1, .int .i64 x2, .int .i64 x3, .bool false]) rfl rfl rfl (by kernel_rfl) (one_all rfl) HX5.out (Nat.le_refl 6) #[.int .i64 em, .int .i64 x0, .int .i64 x1, .int .i64 x2, .int .i64 x3, .bool false] rfl ?_; intro w6 hx6 hg6; have n0 := Aside0.mk (blk_grown HX2.out hg6 NE25.out); have n1 := Aside0.mk (grown_below HB.out hg6 GE5.out); clear HX2 HB HX5; have HX2 := n0; have HB := n1; have HX5 := Aside0.mk hx6; clear n0 n1 hx6 hg6)
    | (go_at_call 43; (with_reducible refine (head_u.calls _ _ l0 50 2 fm _ ?sc HL.out AF.out).mono ?_); (case sc => repeat (first | exact Kd.C_below HC.out HB.out | (with_reducible refine Kd.C_drewN ?_ _) | (with_reducible refine Kd.C_drew ?_))); rintro e w' ⟨rfl, ⟨nd, rfl⟩⟩)
    | (go_at_call 43; (with_reducible refine (head_u.calls _ _ l0 12 4 mg _ ?sc HL.out AM.out).mono ?_); (case sc => repeat (first | exact Kd.C_below HC.out HB.out | (with_reducible refine Kd.C_drewN ?_ _) | (with_reducible refine Kd.C_drew ?_))); rintro e w9 ⟨rfl, ⟨nd, hq⟩⟩; have n0 : Aside0 (w9.heap[gb5]? = some (.cells #[.int .i64 em, .int .i64 x0, .int .i64 x1, .int .i64 x2, .int .i64 x3, .bool false] 37 (0, 0))) := ⟨blk_at hq.symm (by exact HX5.out)⟩; have n1 := Aside0.mk (blk_at hq.symm (by exact HX2.out)); have n2 : Aside0 (Below w.heap.size w w9) := ⟨below_at hq.symm (by first | exact HB.out | exact pw_below_drewN HB.out _)⟩; clear HX5 HX2 HB hq; have HX5 := n0; have HX2 := n1; have HB := n2; clear n0 n1 n2; have hc0 := (blk_cell HX5.out 0).trans (show (_ : Option Value) = some (.int .i64 em) from rfl); have hc1 := (blk_cell HX5.out 1).trans (show (_ : Option Value) = some (.int .i64 x0) from rfl); have hc2 := (blk_cell HX5.out 2).trans (show (_ : Option Value) = some (.int .i64 x1) from rfl); have hc3 := (blk_cell HX5.out 3).trans (show (_ : Option Value) = some (.int .i64 x2) from rfl); have hc4 := (blk_cell HX5.out 4).trans (show (_ : Option Value) = some (.int .i64 x3) from rfl); have hc5 := (blk_cell HX5.out 5).trans (show (_ : Option Value) = some (.bool false) from rfl))
    | ((with_reducible refine gate_store (t := 37) (p := 2) rfl ?_); refine store_seg rfl 37 (.tmp 2) _ rfl rfl (g := gb2) (off := 0) [.int .i64 0, .int .i64 0, .int .i64 0, .int .i64 0, .int .i64 0, .bool false] (.agg #[.int .i64 0, .int .i64 0, .int .i64 0, .int .i64 0, .int .i64 0, .bool false]) rfl rfl rfl (by kernel_rfl) (one_all rfl) HX2.out (Nat.le_refl 6) #[.int .i64 0, .int .i64 0, .int .i64 0, .int .i64 0, .int .i64 0, .bool false] rfl ?_; intro w8 hx6 hg6; have n1 : Aside0 (Below w.heap.size w w8) := ⟨by first | exact grown_below HB.out hg6 GE2.out | exact grown_below (pw_below_drewN HB.out _) hg6 GE2.out⟩; clear HX2 HB; have HB := n1; have HX2 := Aside0.mk hx6; clear n1 hx6 hg6))
  refine bodyPost_ret (results_ct rfl _ _ gb2 37 #[.int .i64 0, .int .i64 0, .int .i64 0, .int .i64 0, .int .i64 0, .bool false] (0, 0) _ rfl (by exact HX2.out) Tryd.underlying37 rfl (by kernel_rfl)) rfl ?_
  exact ⟨rfl, by first | exact HB.out | exact pw_below_drewN HB.out _⟩

set_option maxHeartbeats 4000000 in
set_option maxRecDepth 100000 in
theorem head_Head_high0 (A0 : Option Addr) (c0 : Nat) (l0 : List Int) (em x0 x1 x2 x3 fm mg : Int) (w : World) (HC : Aside0 (Kd.C (Kd.int .u8) w A0 l0.length l0)) (HL : Aside0 (l0.length ≤ c0)) (HA : Aside0 (head_ask.f l0 54 = some 0)) (AE : Aside0 (head_u.f l0 18 2 = some em)) (A0_ : Aside0 (head_s.f l0 36 = some x0)) (A1 : Aside0 (head_s.f l0 38 = some x1)) (A2 : Aside0 (head_s.f l0 40 = some x2)) (A3 : Aside0 (head_s.f l0 42 = some x3)) (AF : Aside0 (head_u.f l0 50 2 = some fm)) (AM : Aside0 (head_u.f l0 12 4 = some mg)) (hf : fm = 0) (hm : mg = 1594834165) (he0 : ¬ em < 16) (he : 16384 < em) :
    Calls Tryd.prog 20 #[.slice A0 l0.length c0] w fun e w' => e = .returned (.tuple #[.agg #[.int .i64 0, .int .i64 0, .int .i64 0, .int .i64 0, .int .i64 0, .bool false], .int .i64 4]) ∧ Below w.heap.size w w' := by
  have HB := Aside0.mk (Below.refl w.heap.size w)
  have b0 : (fm == 0) = true := beq_iff_eq.2 hf
  have b2 : (mg != 1594834165) = false := bne_eq_false_iff_eq.2 hm
  clear hf hm
  go_enter Tryd.func20, Tryd.ntmps20
  go_wp2_with (first
    | ((with_reducible refine gate_dst (N := 2) rfl ?_); refine box_event rfl (N := 2) rfl (cs := #[.int .i64 0, .int .i64 0, .int .i64 0, .int .i64 0, .int .i64 0, .bool false]) (t := 37) ?hr ?_; (case hr => first | (go_simp; done) | (go_simp; rfl)); intro gb2 hgb w1 hbx hb1; have HX2 := Aside0.mk hbx; have GE2 := Aside0.mk (show w.heap.size ≤ gb2 from Nat.le_of_eq hgb.symm); clear HB; have HB := Aside0.mk hb1; clear hgb hbx hb1)
    | (go_at_call 40; (with_reducible refine (head_ask.calls _ _ l0 54 0 _ ?sc HL.out HA.out).mono ?_); (case sc => repeat (first | exact Kd.C_below HC.out HB.out | (with_reducible refine Kd.C_drewN ?_ _) | (with_reducible refine Kd.C_drew ?_))); rintro e w' ⟨rfl, ⟨nd, rfl⟩⟩)
    | (go_at_call 43; (with_reducible refine (head_u.calls _ _ l0 18 2 em _ ?sc HL.out AE.out).mono ?_); (case sc => repeat (first | exact Kd.C_below HC.out HB.out | (with_reducible refine Kd.C_drewN ?_ _) | (with_reducible refine Kd.C_drew ?_))); rintro e w' ⟨rfl, ⟨nd, rfl⟩⟩)
    | (go_at_call 44; (with_reducible refine (head_s.calls _ _ l0 36 x0 _ ?sc HL.out A0_.out).mono ?_); (case sc => repeat (first | exact Kd.C_below HC.out HB.out | (with_reducible refine Kd.C_drewN ?_ _) | (with_reducible refine Kd.C_drew ?_))); rintro e w' ⟨rfl, ⟨nd, rfl⟩⟩)
    | (go_at_call 44; (with_reducible refine (head_s.calls _ _ l0 38 x1 _ ?sc HL.out A1.out).mono ?_); (case sc => repeat (first | exact Kd.C_below HC.out HB.out | (with_reducible refine Kd.C_drewN ?_ _) | (with_reducible refine Kd.C_drew ?_))); rintro e w' ⟨rfl, ⟨nd, rfl⟩⟩)
    | (go_at_call 44; (with_reducible refine (head_s.calls _ _ l0 40 x2 _ ?sc HL.out A2.out).mono ?_); (case sc => repeat (first | exact Kd.C_below HC.out HB.out | (with_reducible refine Kd.C_drewN ?_ _) | (with_reducible refine Kd.C_drew ?_))); rintro e w' ⟨rfl, ⟨nd, rfl⟩⟩)
    | (go_at_call 44; (with_reducible refine (head_s.calls _ _ l0 42 x3 _ ?sc HL.out A3.out).mono ?_); (case sc => repeat (first | exact Kd.C_below HC.out HB.out | (with_reducible refine Kd.C_drewN ?_ _) | (with_reducible refine Kd.C_drew ?_))); rintro e w' ⟨rfl, ⟨nd, rfl⟩⟩)
    | ((with_reducible refine gate_dst (N := 5) rfl ?_); refine box_event rfl (N := 5) rfl (cs := #[.int .i64 0, .int .i64 0, .int .i64 0, .int .i64 0, .int .i64 0, .bool false]) (t := 37) ?hr ?_; (case hr => first | (go_simp; done) | (go_simp; rfl)); intro gb5 hgb w5 hbx hb1; have HX5 := Aside0.mk hbx; have n0 := Aside0.mk (blk_below (blk_drewN HX2.out _) hb1); have n1 := Aside0.mk (show w.heap.size ≤ gb5 from by have h2 : gb5 = w1.heap.size := hgb; rw [h2]; exact below_size HB.out); have n2 := Aside0.mk (below_step (pw_below_drewN HB.out _) hb1); have n3 := Aside0.mk (show some gb2 ≠ some gb5 from fun he => by have h1 := blk_lt HX2.out; have h2 : gb5 = w1.heap.size := hgb; injection he with he; omega); clear HX2 HB; have HX2 := n0; have GE5 := n1; have HB := n2; have NE25 := n3; clear n0 n1 n2 n3 hgb hbx hb1)
    | ((with_reducible refine gate_store (t := 37) (p := 5) rfl ?_); refine store_seg rfl 37 (.tmp 5) _ rfl rfl (g := gb5) (off := 0) [.int .i64 em, .int .i64 x0, .int .i64 x1, .int .i64 x2, .int .i64 x3, .bool false] (.agg #[.int .i64 em, .int .i64 x0, .int .i64 x1, .int .i64 x2, .int .i64 x3, .bool false]) rfl rfl rfl (by kernel_rfl) (one_all rfl) HX5.out (Nat.le_refl 6) #[.int .i64 em, .int .i64 x0, .int .i64 x1, .int .i64 x2, .int .i64 x3, .bool false] rfl ?_; intro w6 hx6 hg6; have n0 := Aside0.mk (blk_grown HX2.out hg6 NE25.out); have n1 := Aside0.mk (grown_below HB.out hg6 GE5.out); clear HX2 HB HX5; have HX2 := n0; have HB := n1; have HX5 := Aside0.mk hx6; clear n0 n1 hx6 hg6)
    | (go_at_call 43; (with_reducible refine (head_u.calls _ _ l0 50 2 fm _ ?sc HL.out AF.out).mono ?_); (case sc => repeat (first | exact Kd.C_below HC.out HB.out | (with_reducible refine Kd.C_drewN ?_ _) | (with_reducible refine Kd.C_drew ?_))); rintro e w' ⟨rfl, ⟨nd, rfl⟩⟩)
    | (go_at_call 43; (with_reducible refine (head_u.calls _ _ l0 12 4 mg _ ?sc HL.out AM.out).mono ?_); (case sc => repeat (first | exact Kd.C_below HC.out HB.out | (with_reducible refine Kd.C_drewN ?_ _) | (with_reducible refine Kd.C_drew ?_))); rintro e w9 ⟨rfl, ⟨nd, hq⟩⟩; have n0 : Aside0 (w9.heap[gb5]? = some (.cells #[.int .i64 em, .int .i64 x0, .int .i64 x1, .int .i64 x2, .int .i64 x3, .bool false] 37 (0, 0))) := ⟨blk_at hq.symm (by exact HX5.out)⟩; have n1 := Aside0.mk (blk_at hq.symm (by exact HX2.out)); have n2 : Aside0 (Below w.heap.size w w9) := ⟨below_at hq.symm (by first | exact HB.out | exact pw_below_drewN HB.out _)⟩; clear HX5 HX2 HB hq; have HX5 := n0; have HX2 := n1; have HB := n2; clear n0 n1 n2; have hc0 := (blk_cell HX5.out 0).trans (show (_ : Option Value) = some (.int .i64 em) from rfl); have hc1 := (blk_cell HX5.out 1).trans (show (_ : Option Value) = some (.int .i64 x0) from rfl); have hc2 := (blk_cell HX5.out 2).trans (show (_ : Option Value) = some (.int .i64 x1) from rfl); have hc3 := (blk_cell HX5.out 3).trans (show (_ : Option Value) = some (.int .i64 x2) from rfl); have hc4 := (blk_cell HX5.out 4).trans (show (_ : Option Value) = some (.int .i64 x3) from rfl); have hc5 := (blk_cell HX5.out 5).trans (show (_ : Option Value) = some (.bool false) from rfl))
    | ((with_reducible refine gate_store (t := 37) (p := 2) rfl ?_); refine store_seg rfl 37 (.tmp 2) _ rfl rfl (g := gb2) (off := 0) [.int .i64 0, .int .i64 0, .int .i64 0, .int .i64 0, .int .i64 0, .bool false] (.agg #[.int .i64 0, .int .i64 0, .int .i64 0, .int .i64 0, .int .i64 0, .bool false]) rfl rfl rfl (by kernel_rfl) (one_all rfl) HX2.out (Nat.le_refl 6) #[.int .i64 0, .int .i64 0, .int .i64 0, .int .i64 0, .int .i64 0, .bool false] rfl ?_; intro w8 hx6 hg6; have n1 : Aside0 (Below w.heap.size w w8) := ⟨by first | exact grown_below HB.out hg6 GE2.out | exact grown_below (pw_below_drewN HB.out _) hg6 GE2.out⟩; clear HX2 HB; have HB := n1; have HX2 := Aside0.mk hx6; clear n1 hx6 hg6))
  refine bodyPost_ret (results_ct rfl _ _ gb2 37 #[.int .i64 0, .int .i64 0, .int .i64 0, .int .i64 0, .int .i64 0, .bool false] (0, 0) _ rfl (by exact HX2.out) Tryd.underlying37 rfl (by kernel_rfl)) rfl ?_
  exact ⟨rfl, by first | exact HB.out | exact pw_below_drewN HB.out _⟩

set_option maxHeartbeats 4000000 in
set_option maxRecDepth 100000 in
theorem head_Head_ok0 (A0 : Option Addr) (c0 : Nat) (l0 : List Int) (em x0 x1 x2 x3 fm mg : Int) (w : World) (HC : Aside0 (Kd.C (Kd.int .u8) w A0 l0.length l0)) (HL : Aside0 (l0.length ≤ c0)) (HA : Aside0 (head_ask.f l0 54 = some 0)) (AE : Aside0 (head_u.f l0 18 2 = some em)) (A0_ : Aside0 (head_s.f l0 36 = some x0)) (A1 : Aside0 (head_s.f l0 38 = some x1)) (A2 : Aside0 (head_s.f l0 40 = some x2)) (A3 : Aside0 (head_s.f l0 42 = some x3)) (AF : Aside0 (head_u.f l0 50 2 = some fm)) (AM : Aside0 (head_u.f l0 12 4 = some mg)) (hf : fm = 0) (hm : mg = 1594834165) (he0 : 16 ≤ em) (he : em ≤ 16384) :
    Calls Tryd.prog 20 #[.slice A0 l0.length c0] w fun e w' => e = .returned (.tuple #[.agg #[.int .i64 em, .int .i64 x0, .int .i64 x1, .int .i64 x2, .int .i64 x3, .bool false], .int .i64 0]) ∧ Below w.heap.size w w' := by
  have HB := Aside0.mk (Below.refl w.heap.size w)
  have b0 : (fm == 0) = true := beq_iff_eq.2 hf
  have b2 : (mg != 1594834165) = false := bne_eq_false_iff_eq.2 hm
  clear hf hm
  go_enter Tryd.func20, Tryd.ntmps20
  go_wp2_with (first
    | ((with_reducible refine gate_dst (N := 2) rfl ?_); refine box_event rfl (N := 2) rfl (cs := #[.int .i64 0, .int .i64 0, .int .i64 0, .int .i64 0, .int .i64 0, .bool false]) (t := 37) ?hr ?_; (case hr => first | (go_simp; done) | (go_simp; rfl)); intro gb2 hgb w1 hbx hb1; have HX2 := Aside0.mk hbx; have GE2 := Aside0.mk (show w.heap.size ≤ gb2 from Nat.le_of_eq hgb.symm); clear HB; have HB := Aside0.mk hb1; clear hgb hbx hb1)
    | (go_at_call 40; (with_reducible refine (head_ask.calls _ _ l0 54 0 _ ?sc HL.out HA.out).mono ?_); (case sc => repeat (first | exact Kd.C_below HC.out HB.out | (with_reducible refine Kd.C_drewN ?_ _) | (with_reducible refine Kd.C_drew ?_))); rintro e w' ⟨rfl, ⟨nd, rfl⟩⟩)
    | (go_at_call 43; (with_reducible refine (head_u.calls _ _ l0 18 2 em _ ?sc HL.out AE.out).mono ?_); (case sc => repeat (first | exact Kd.C_below HC.out HB.out | (with_reducible refine Kd.C_drewN ?_ _) | (with_reducible refine Kd.C_drew ?_))); rintro e w' ⟨rfl, ⟨nd, rfl⟩⟩)
    | (go_at_call 44; (with_reducible refine (head_s.calls _ _ l0 36 x0 _ ?sc HL.out A0_.out).mono ?_); (case sc => repeat (first | exact Kd.C_below HC.out HB.out | (with_reducible refine Kd.C_drewN ?_ _) | (with_reducible refine Kd.C_drew ?_))); rintro e w' ⟨rfl, ⟨nd, rfl⟩⟩)
    | (go_at_call 44; (with_reducible refine (head_s.calls _ _ l0 38 x1 _ ?sc HL.out A1.out).mono ?_); (case sc => repeat (first | exact Kd.C_below HC.out HB.out | (with_reducible refine Kd.C_drewN ?_ _) | (with_reducible refine Kd.C_drew ?_))); rintro e w' ⟨rfl, ⟨nd, rfl⟩⟩)
    | (go_at_call 44; (with_reducible refine (head_s.calls _ _ l0 40 x2 _ ?sc HL.out A2.out).mono ?_); (case sc => repeat (first | exact Kd.C_below HC.out HB.out | (with_reducible refine Kd.C_drewN ?_ _) | (with_reducible refine Kd.C_drew ?_))); rintro e w' ⟨rfl, ⟨nd, rfl⟩⟩)
    | (go_at_call 44; (with_reducible refine (head_s.calls _ _ l0 42 x3 _ ?sc HL.out A3.out).mono ?_); (case sc => repeat (first | exact Kd.C_below HC.out HB.out | (with_reducible refine Kd.C_drewN ?_ _) | (with_reducible refine Kd.C_drew ?_))); rintro e w' ⟨rfl, ⟨nd, rfl⟩⟩)
    | ((with_reducible refine gate_dst (N := 5) rfl ?_); refine box_event rfl (N := 5) rfl (cs := #[.int .i64 0, .int .i64 0, .int .i64 0, .int .i64 0, .int .i64 0, .bool false]) (t := 37) ?hr ?_; (case hr => first | (go_simp; done) | (go_simp; rfl)); intro gb5 hgb w5 hbx hb1; have HX5 := Aside0.mk hbx; have n0 := Aside0.mk (blk_below (blk_drewN HX2.out _) hb1); have n1 := Aside0.mk (show w.heap.size ≤ gb5 from by have h2 : gb5 = w1.heap.size := hgb; rw [h2]; exact below_size HB.out); have n2 := Aside0.mk (below_step (pw_below_drewN HB.out _) hb1); have n3 := Aside0.mk (show some gb2 ≠ some gb5 from fun he => by have h1 := blk_lt HX2.out; have h2 : gb5 = w1.heap.size := hgb; injection he with he; omega); clear HX2 HB; have HX2 := n0; have GE5 := n1; have HB := n2; have NE25 := n3; clear n0 n1 n2 n3 hgb hbx hb1)
    | ((with_reducible refine gate_store (t := 37) (p := 5) rfl ?_); refine store_seg rfl 37 (.tmp 5) _ rfl rfl (g := gb5) (off := 0) [.int .i64 em, .int .i64 x0, .int .i64 x1, .int .i64 x2, .int .i64 x3, .bool false] (.agg #[.int .i64 em, .int .i64 x0, .int .i64 x1, .int .i64 x2, .int .i64 x3, .bool false]) rfl rfl rfl (by kernel_rfl) (one_all rfl) HX5.out (Nat.le_refl 6) #[.int .i64 em, .int .i64 x0, .int .i64 x1, .int .i64 x2, .int .i64 x3, .bool false] rfl ?_; intro w6 hx6 hg6; have n0 := Aside0.mk (blk_grown HX2.out hg6 NE25.out); have n1 := Aside0.mk (grown_below HB.out hg6 GE5.out); clear HX2 HB HX5; have HX2 := n0; have HB := n1; have HX5 := Aside0.mk hx6; clear n0 n1 hx6 hg6)
    | (go_at_call 43; (with_reducible refine (head_u.calls _ _ l0 50 2 fm _ ?sc HL.out AF.out).mono ?_); (case sc => repeat (first | exact Kd.C_below HC.out HB.out | (with_reducible refine Kd.C_drewN ?_ _) | (with_reducible refine Kd.C_drew ?_))); rintro e w' ⟨rfl, ⟨nd, rfl⟩⟩)
    | (go_at_call 43; (with_reducible refine (head_u.calls _ _ l0 12 4 mg _ ?sc HL.out AM.out).mono ?_); (case sc => repeat (first | exact Kd.C_below HC.out HB.out | (with_reducible refine Kd.C_drewN ?_ _) | (with_reducible refine Kd.C_drew ?_))); rintro e w9 ⟨rfl, ⟨nd, hq⟩⟩; have n0 : Aside0 (w9.heap[gb5]? = some (.cells #[.int .i64 em, .int .i64 x0, .int .i64 x1, .int .i64 x2, .int .i64 x3, .bool false] 37 (0, 0))) := ⟨blk_at hq.symm (by exact HX5.out)⟩; have n1 := Aside0.mk (blk_at hq.symm (by exact HX2.out)); have n2 : Aside0 (Below w.heap.size w w9) := ⟨below_at hq.symm (by first | exact HB.out | exact pw_below_drewN HB.out _)⟩; clear HX5 HX2 HB hq; have HX5 := n0; have HX2 := n1; have HB := n2; clear n0 n1 n2; have hc0 := (blk_cell HX5.out 0).trans (show (_ : Option Value) = some (.int .i64 em) from rfl); have hc1 := (blk_cell HX5.out 1).trans (show (_ : Option Value) = some (.int .i64 x0) from rfl); have hc2 := (blk_cell HX5.out 2).trans (show (_ : Option Value) = some (.int .i64 x1) from rfl); have hc3 := (blk_cell HX5.out 3).trans (show (_ : Option Value) = some (.int .i64 x2) from rfl); have hc4 := (blk_cell HX5.out 4).trans (show (_ : Option Value) = some (.int .i64 x3) from rfl); have hc5 := (blk_cell HX5.out 5).trans (show (_ : Option Value) = some (.bool false) from rfl))
    | ((with_reducible refine gate_store (t := 37) (p := 2) rfl ?_); refine store_seg rfl 37 (.tmp 2) _ rfl rfl (g := gb2) (off := 0) [.int .i64 em, .int .i64 x0, .int .i64 x1, .int .i64 x2, .int .i64 x3, .bool false] (.agg #[.int .i64 em, .int .i64 x0, .int .i64 x1, .int .i64 x2, .int .i64 x3, .bool false]) rfl rfl rfl (by kernel_rfl) (one_all rfl) HX2.out (Nat.le_refl 6) #[.int .i64 em, .int .i64 x0, .int .i64 x1, .int .i64 x2, .int .i64 x3, .bool false] rfl ?_; intro w8 hx6 hg6; have n1 : Aside0 (Below w.heap.size w w8) := ⟨by first | exact grown_below HB.out hg6 GE2.out | exact grown_below (pw_below_drewN HB.out _) hg6 GE2.out⟩; clear HX2 HB; have HB := n1; have HX2 := Aside0.mk hx6; clear n1 hx6 hg6))
  refine bodyPost_ret (results_ct rfl _ _ gb2 37 #[.int .i64 em, .int .i64 x0, .int .i64 x1, .int .i64 x2, .int .i64 x3, .bool false] (0, 0) _ rfl (by exact HX2.out) Tryd.underlying37 rfl (by kernel_rfl)) rfl ?_
  exact ⟨rfl, by first | exact HB.out | exact pw_below_drewN HB.out _⟩

set_option maxHeartbeats 4000000 in
set_option maxRecDepth 100000 in
theorem head_Head_magic1 (A0 : Option Addr) (c0 : Nat) (l0 : List Int) (em x0 x1 x2 x3 fm mg : Int) (w : World) (HC : Aside0 (Kd.C (Kd.int .u8) w A0 l0.length l0)) (HL : Aside0 (l0.length ≤ c0)) (HA : Aside0 (head_ask.f l0 54 = some 0)) (AE : Aside0 (head_u.f l0 18 2 = some em)) (A0_ : Aside0 (head_s.f l0 36 = some x0)) (A1 : Aside0 (head_s.f l0 38 = some x1)) (A2 : Aside0 (head_s.f l0 40 = some x2)) (A3 : Aside0 (head_s.f l0 42 = some x3)) (AF : Aside0 (head_u.f l0 50 2 = some fm)) (AM : Aside0 (head_u.f l0 12 4 = some mg)) (hf : fm = 1) (hm : mg ≠ 1594834165) :
    Calls Tryd.prog 20 #[.slice A0 l0.length c0] w fun e w' => e = .returned (.tuple #[.agg #[.int .i64 0, .int .i64 0, .int .i64 0, .int .i64 0, .int .i64 0, .bool false], .int .i64 4]) ∧ Below w.heap.size w w' := by
  have HB := Aside0.mk (Below.refl w.heap.size w)
  have b0 : (fm == 0) = false := beq_eq_false_iff_ne.2 (by omega)
  have b1 : (fm == 1) = true := beq_iff_eq.2 hf
  have b2 : (mg != 1594834165) = true := by rw [bne_iff_ne]; exact hm
  clear hf hm
  go_enter Tryd.func20, Tryd.ntmps20
  go_wp2_with (first
    | ((with_reducible refine gate_dst (N := 2) rfl ?_); refine box_event rfl (N := 2) rfl (cs := #[.int .i64 0, .int .i64 0, .int .i64 0, .int .i64 0, .int .i64 0, .bool false]) (t := 37) ?hr ?_; (case hr => first | (go_simp; done) | (go_simp; rfl)); intro gb2 hgb w1 hbx hb1; have HX2 := Aside0.mk hbx; have GE2 := Aside0.mk (show w.heap.size ≤ gb2 from Nat.le_of_eq hgb.symm); clear HB; have HB := Aside0.mk hb1; clear hgb hbx hb1)
    | (go_at_call 40; (with_reducible refine (head_ask.calls _ _ l0 54 0 _ ?sc HL.out HA.out).mono ?_); (case sc => repeat (first | exact Kd.C_below HC.out HB.out | (with_reducible refine Kd.C_drewN ?_ _) | (with_reducible refine Kd.C_drew ?_))); rintro e w' ⟨rfl, ⟨nd, rfl⟩⟩)
    | (go_at_call 43; (with_reducible refine (head_u.calls _ _ l0 18 2 em _ ?sc HL.out AE.out).mono ?_); (case sc => repeat (first | exact Kd.C_below HC.out HB.out | (with_reducible refine Kd.C_drewN ?_ _) | (with_reducible refine Kd.C_drew ?_))); rintro e w' ⟨rfl, ⟨nd, rfl⟩⟩)
    | (go_at_call 44; (with_reducible refine (head_s.calls _ _ l0 36 x0 _ ?sc HL.out A0_.out).mono ?_); (case sc => repeat (first | exact Kd.C_below HC.out HB.out | (with_reducible refine Kd.C_drewN ?_ _) | (with_reducible refine Kd.C_drew ?_))); rintro e w' ⟨rfl, ⟨nd, rfl⟩⟩)
    | (go_at_call 44; (with_reducible refine (head_s.calls _ _ l0 38 x1 _ ?sc HL.out A1.out).mono ?_); (case sc => repeat (first | exact Kd.C_below HC.out HB.out | (with_reducible refine Kd.C_drewN ?_ _) | (with_reducible refine Kd.C_drew ?_))); rintro e w' ⟨rfl, ⟨nd, rfl⟩⟩)
    | (go_at_call 44; (with_reducible refine (head_s.calls _ _ l0 40 x2 _ ?sc HL.out A2.out).mono ?_); (case sc => repeat (first | exact Kd.C_below HC.out HB.out | (with_reducible refine Kd.C_drewN ?_ _) | (with_reducible refine Kd.C_drew ?_))); rintro e w' ⟨rfl, ⟨nd, rfl⟩⟩)
    | (go_at_call 44; (with_reducible refine (head_s.calls _ _ l0 42 x3 _ ?sc HL.out A3.out).mono ?_); (case sc => repeat (first | exact Kd.C_below HC.out HB.out | (with_reducible refine Kd.C_drewN ?_ _) | (with_reducible refine Kd.C_drew ?_))); rintro e w' ⟨rfl, ⟨nd, rfl⟩⟩)
    | ((with_reducible refine gate_dst (N := 5) rfl ?_); refine box_event rfl (N := 5) rfl (cs := #[.int .i64 0, .int .i64 0, .int .i64 0, .int .i64 0, .int .i64 0, .bool false]) (t := 37) ?hr ?_; (case hr => first | (go_simp; done) | (go_simp; rfl)); intro gb5 hgb w5 hbx hb1; have HX5 := Aside0.mk hbx; have n0 := Aside0.mk (blk_below (blk_drewN HX2.out _) hb1); have n1 := Aside0.mk (show w.heap.size ≤ gb5 from by have h2 : gb5 = w1.heap.size := hgb; rw [h2]; exact below_size HB.out); have n2 := Aside0.mk (below_step (pw_below_drewN HB.out _) hb1); have n3 := Aside0.mk (show some gb2 ≠ some gb5 from fun he => by have h1 := blk_lt HX2.out; have h2 : gb5 = w1.heap.size := hgb; injection he with he; omega); clear HX2 HB; have HX2 := n0; have GE5 := n1; have HB := n2; have NE25 := n3; clear n0 n1 n2 n3 hgb hbx hb1)
    | ((with_reducible refine gate_store (t := 37) (p := 5) rfl ?_); refine store_seg rfl 37 (.tmp 5) _ rfl rfl (g := gb5) (off := 0) [.int .i64 em, .int .i64 x0, .int .i64 x1, .int .i64 x2, .int .i64 x3, .bool false] (.agg #[.int .i64 em, .int .i64 x0, .int .i64 x1, .int .i64 x2, .int .i64 x3, .bool false]) rfl rfl rfl (by kernel_rfl) (one_all rfl) HX5.out (Nat.le_refl 6) #[.int .i64 em, .int .i64 x0, .int .i64 x1, .int .i64 x2, .int .i64 x3, .bool false] rfl ?_; intro w6 hx6 hg6; have n0 := Aside0.mk (blk_grown HX2.out hg6 NE25.out); have n1 := Aside0.mk (grown_below HB.out hg6 GE5.out); clear HX2 HB HX5; have HX2 := n0; have HB := n1; have HX5 := Aside0.mk hx6; clear n0 n1 hx6 hg6)
    | (go_at_call 43; (with_reducible refine (head_u.calls _ _ l0 50 2 fm _ ?sc HL.out AF.out).mono ?_); (case sc => repeat (first | exact Kd.C_below HC.out HB.out | (with_reducible refine Kd.C_drewN ?_ _) | (with_reducible refine Kd.C_drew ?_))); rintro e w' ⟨rfl, ⟨nd, rfl⟩⟩)
    | ((with_reducible refine gate_store (t := 4) (p := 30) rfl ?_); refine store_seg rfl 4 (.tmp 30) _ rfl rfl (g := gb5) (off := 5) [.bool true] (.bool true) rfl rfl rfl (by kernel_rfl) (one_all rfl) (blk_drewN HX5.out _) (Nat.le_refl 6) #[.int .i64 em, .int .i64 x0, .int .i64 x1, .int .i64 x2, .int .i64 x3, .bool true] rfl ?_; intro w7 hx6 hg6; have n0 := Aside0.mk (blk_grown (blk_drewN HX2.out _) hg6 NE25.out); have n1 := Aside0.mk (grown_below (pw_below_drewN HB.out _) hg6 GE5.out); clear HX2 HB HX5; have HX2 := n0; have HB := n1; have HX5 := Aside0.mk hx6; clear n0 n1 hx6 hg6)
    | (go_at_call 43; (with_reducible refine (head_u.calls _ _ l0 12 4 mg _ ?sc HL.out AM.out).mono ?_); (case sc => repeat (first | exact Kd.C_below HC.out HB.out | (with_reducible refine Kd.C_drewN ?_ _) | (with_reducible refine Kd.C_drew ?_))); rintro e w9 ⟨rfl, ⟨nd, hq⟩⟩; have n0 : Aside0 (w9.heap[gb5]? = some (.cells #[.int .i64 em, .int .i64 x0, .int .i64 x1, .int .i64 x2, .int .i64 x3, .bool true] 37 (0, 0))) := ⟨blk_at hq.symm (by exact HX5.out)⟩; have n1 := Aside0.mk (blk_at hq.symm (by exact HX2.out)); have n2 : Aside0 (Below w.heap.size w w9) := ⟨below_at hq.symm (by first | exact HB.out | exact pw_below_drewN HB.out _)⟩; clear HX5 HX2 HB hq; have HX5 := n0; have HX2 := n1; have HB := n2; clear n0 n1 n2; have hc0 := (blk_cell HX5.out 0).trans (show (_ : Option Value) = some (.int .i64 em) from rfl); have hc1 := (blk_cell HX5.out 1).trans (show (_ : Option Value) = some (.int .i64 x0) from rfl); have hc2 := (blk_cell HX5.out 2).trans (show (_ : Option Value) = some (.int .i64 x1) from rfl); have hc3 := (blk_cell HX5.out 3).trans (show (_ : Option Value) = some (.int .i64 x2) from rfl); have hc4 := (blk_cell HX5.out 4).trans (show (_ : Option Value) = some (.int .i64 x3) from rfl); have hc5 := (blk_cell HX5.out 5).trans (show (_ : Option Value) = some (.bool true) from rfl))
    | ((with_reducible refine gate_store (t := 37) (p := 2) rfl ?_); refine store_seg rfl 37 (.tmp 2) _ rfl rfl (g := gb2) (off := 0) [.int .i64 0, .int .i64 0, .int .i64 0, .int .i64 0, .int .i64 0, .bool false] (.agg #[.int .i64 0, .int .i64 0, .int .i64 0, .int .i64 0, .int .i64 0, .bool false]) rfl rfl rfl (by kernel_rfl) (one_all rfl) HX2.out (Nat.le_refl 6) #[.int .i64 0, .int .i64 0, .int .i64 0, .int .i64 0, .int .i64 0, .bool false] rfl ?_; intro w8 hx6 hg6; have n1 : Aside0 (Below w.heap.size w w8) := ⟨by first | exact grown_below HB.out hg6 GE2.out | exact grown_below (pw_below_drewN HB.out _) hg6 GE2.out⟩; clear HX2 HB; have HB := n1; have HX2 := Aside0.mk hx6; clear n1 hx6 hg6))
  refine bodyPost_ret (results_ct rfl _ _ gb2 37 #[.int .i64 0, .int .i64 0, .int .i64 0, .int .i64 0, .int .i64 0, .bool false] (0, 0) _ rfl (by exact HX2.out) Tryd.underlying37 rfl (by kernel_rfl)) rfl ?_
  exact ⟨rfl, by first | exact HB.out | exact pw_below_drewN HB.out _⟩

set_option maxHeartbeats 4000000 in
set_option maxRecDepth 100000 in
theorem head_Head_low1 (A0 : Option Addr) (c0 : Nat) (l0 : List Int) (em x0 x1 x2 x3 fm mg : Int) (w : World) (HC : Aside0 (Kd.C (Kd.int .u8) w A0 l0.length l0)) (HL : Aside0 (l0.length ≤ c0)) (HA : Aside0 (head_ask.f l0 54 = some 0)) (AE : Aside0 (head_u.f l0 18 2 = some em)) (A0_ : Aside0 (head_s.f l0 36 = some x0)) (A1 : Aside0 (head_s.f l0 38 = some x1)) (A2 : Aside0 (head_s.f l0 40 = some x2)) (A3 : Aside0 (head_s.f l0 42 = some x3)) (AF : Aside0 (head_u.f l0 50 2 = some fm)) (AM : Aside0 (head_u.f l0 12 4 = some mg)) (hf : fm = 1) (hm : mg = 1594834165) (he : em < 16) :
    Calls Tryd.prog 20 #[.slice A0 l0.length c0] w fun e w' => e = .returned (.tuple #[.agg #[.int .i64 0, .int .i64 0, .int .i64 0, .int .i64 0, .int .i64 0, .bool false], .int .i64 4]) ∧ Below w.heap.size w w' := by
  have HB := Aside0.mk (Below.refl w.heap.size w)
  have b0 : (fm == 0) = false := beq_eq_false_iff_ne.2 (by omega)
  have b1 : (fm == 1) = true := beq_iff_eq.2 hf
  have b2 : (mg != 1594834165) = false := bne_eq_false_iff_eq.2 hm
  clear hf hm
  go_enter Tryd.func20, Tryd.ntmps20
  go_wp2_with (first
    | ((with_reducible refine gate_dst (N := 2) rfl ?_); refine box_event rfl (N := 2) rfl (cs := #[.int .i64 0, .int .i64 0, .int .i64 0, .int .i64 0, .int .i64 0, .bool false]) (t := 37) ?hr ?_; (case hr => first | (go_simp; done) | (go_simp; rfl)); intro gb2 hgb w1 hbx hb1; have HX2 := Aside0.mk hbx; have GE2 := Aside0.mk (show w.heap.size ≤ gb2 from Nat.le_of_eq hgb.symm); clear HB; have HB := Aside0.mk hb1; clear hgb hbx hb1)
    | (go_at_call 40; (with_reducible refine (head_ask.calls _ _ l0 54 0 _ ?sc HL.out HA.out).mono ?_); (case sc => repeat (first | exact Kd.C_below HC.out HB.out | (with_reducible refine Kd.C_drewN ?_ _) | (with_reducible refine Kd.C_drew ?_))); rintro e w' ⟨rfl, ⟨nd, rfl⟩⟩)
    | (go_at_call 43; (with_reducible refine (head_u.calls _ _ l0 18 2 em _ ?sc HL.out AE.out).mono ?_); (case sc => repeat (first | exact Kd.C_below HC.out HB.out | (with_reducible refine Kd.C_drewN ?_ _) | (with_reducible refine Kd.C_drew ?_))); rintro e w' ⟨rfl, ⟨nd, rfl⟩⟩)
    | (go_at_call 44; (with_reducible refine (head_s.calls _ _ l0 36 x0 _ ?sc HL.out A0_.out).mono ?_); (case sc => repeat (first | exact Kd.C_below HC.out HB.out | (with_reducible refine Kd.C_drewN ?_ _) | (with_reducible refine Kd.C_drew ?_))); rintro e w' ⟨rfl, ⟨nd, rfl⟩⟩)
    | (go_at_call 44; (with_reducible refine (head_s.calls _ _ l0 38 x1 _ ?sc HL.out A1.out).mono ?_); (case sc => repeat (first | exact Kd.C_below HC.out HB.out | (with_reducible refine Kd.C_drewN ?_ _) | (with_reducible refine Kd.C_drew ?_))); rintro e w' ⟨rfl, ⟨nd, rfl⟩⟩)
    | (go_at_call 44; (with_reducible refine (head_s.calls _ _ l0 40 x2 _ ?sc HL.out A2.out).mono ?_); (case sc => repeat (first | exact Kd.C_below HC.out HB.out | (with_reducible refine Kd.C_drewN ?_ _) | (with_reducible refine Kd.C_drew ?_))); rintro e w' ⟨rfl, ⟨nd, rfl⟩⟩)
    | (go_at_call 44; (with_reducible refine (head_s.calls _ _ l0 42 x3 _ ?sc HL.out A3.out).mono ?_); (case sc => repeat (first | exact Kd.C_below HC.out HB.out | (with_reducible refine Kd.C_drewN ?_ _) | (with_reducible refine Kd.C_drew ?_))); rintro e w' ⟨rfl, ⟨nd, rfl⟩⟩)
    | ((with_reducible refine gate_dst (N := 5) rfl ?_); refine box_event rfl (N := 5) rfl (cs := #[.int .i64 0, .int .i64 0, .int .i64 0, .int .i64 0, .int .i64 0, .bool false]) (t := 37) ?hr ?_; (case hr => first | (go_simp; done) | (go_simp; rfl)); intro gb5 hgb w5 hbx hb1; have HX5 := Aside0.mk hbx; have n0 := Aside0.mk (blk_below (blk_drewN HX2.out _) hb1); have n1 := Aside0.mk (show w.heap.size ≤ gb5 from by have h2 : gb5 = w1.heap.size := hgb; rw [h2]; exact below_size HB.out); have n2 := Aside0.mk (below_step (pw_below_drewN HB.out _) hb1); have n3 := Aside0.mk (show some gb2 ≠ some gb5 from fun he => by have h1 := blk_lt HX2.out; have h2 : gb5 = w1.heap.size := hgb; injection he with he; omega); clear HX2 HB; have HX2 := n0; have GE5 := n1; have HB := n2; have NE25 := n3; clear n0 n1 n2 n3 hgb hbx hb1)
    | ((with_reducible refine gate_store (t := 37) (p := 5) rfl ?_); refine store_seg rfl 37 (.tmp 5) _ rfl rfl (g := gb5) (off := 0) [.int .i64 em, .int .i64 x0, .int .i64 x1, .int .i64 x2, .int .i64 x3, .bool false] (.agg #[.int .i64 em, .int .i64 x0, .int .i64 x1, .int .i64 x2, .int .i64 x3, .bool false]) rfl rfl rfl (by kernel_rfl) (one_all rfl) HX5.out (Nat.le_refl 6) #[.int .i64 em, .int .i64 x0, .int .i64 x1, .int .i64 x2, .int .i64 x3, .bool false] rfl ?_; intro w6 hx6 hg6; have n0 := Aside0.mk (blk_grown HX2.out hg6 NE25.out); have n1 := Aside0.mk (grown_below HB.out hg6 GE5.out); clear HX2 HB HX5; have HX2 := n0; have HB := n1; have HX5 := Aside0.mk hx6; clear n0 n1 hx6 hg6)
    | (go_at_call 43; (with_reducible refine (head_u.calls _ _ l0 50 2 fm _ ?sc HL.out AF.out).mono ?_); (case sc => repeat (first | exact Kd.C_below HC.out HB.out | (with_reducible refine Kd.C_drewN ?_ _) | (with_reducible refine Kd.C_drew ?_))); rintro e w' ⟨rfl, ⟨nd, rfl⟩⟩)
    | ((with_reducible refine gate_store (t := 4) (p := 30) rfl ?_); refine store_seg rfl 4 (.tmp 30) _ rfl rfl (g := gb5) (off := 5) [.bool true] (.bool true) rfl rfl rfl (by kernel_rfl) (one_all rfl) (blk_drewN HX5.out _) (Nat.le_refl 6) #[.int .i64 em, .int .i64 x0, .int .i64 x1, .int .i64 x2, .int .i64 x3, .bool true] rfl ?_; intro w7 hx6 hg6; have n0 := Aside0.mk (blk_grown (blk_drewN HX2.out _) hg6 NE25.out); have n1 := Aside0.mk (grown_below (pw_below_drewN HB.out _) hg6 GE5.out); clear HX2 HB HX5; have HX2 := n0; have HB := n1; have HX5 := Aside0.mk hx6; clear n0 n1 hx6 hg6)
    | (go_at_call 43; (with_reducible refine (head_u.calls _ _ l0 12 4 mg _ ?sc HL.out AM.out).mono ?_); (case sc => repeat (first | exact Kd.C_below HC.out HB.out | (with_reducible refine Kd.C_drewN ?_ _) | (with_reducible refine Kd.C_drew ?_))); rintro e w9 ⟨rfl, ⟨nd, hq⟩⟩; have n0 : Aside0 (w9.heap[gb5]? = some (.cells #[.int .i64 em, .int .i64 x0, .int .i64 x1, .int .i64 x2, .int .i64 x3, .bool true] 37 (0, 0))) := ⟨blk_at hq.symm (by exact HX5.out)⟩; have n1 := Aside0.mk (blk_at hq.symm (by exact HX2.out)); have n2 : Aside0 (Below w.heap.size w w9) := ⟨below_at hq.symm (by first | exact HB.out | exact pw_below_drewN HB.out _)⟩; clear HX5 HX2 HB hq; have HX5 := n0; have HX2 := n1; have HB := n2; clear n0 n1 n2; have hc0 := (blk_cell HX5.out 0).trans (show (_ : Option Value) = some (.int .i64 em) from rfl); have hc1 := (blk_cell HX5.out 1).trans (show (_ : Option Value) = some (.int .i64 x0) from rfl); have hc2 := (blk_cell HX5.out 2).trans (show (_ : Option Value) = some (.int .i64 x1) from rfl); have hc3 := (blk_cell HX5.out 3).trans (show (_ : Option Value) = some (.int .i64 x2) from rfl); have hc4 := (blk_cell HX5.out 4).trans (show (_ : Option Value) = some (.int .i64 x3) from rfl); have hc5 := (blk_cell HX5.out 5).trans (show (_ : Option Value) = some (.bool true) from rfl))
    | ((with_reducible refine gate_store (t := 37) (p := 2) rfl ?_); refine store_seg rfl 37 (.tmp 2) _ rfl rfl (g := gb2) (off := 0) [.int .i64 0, .int .i64 0, .int .i64 0, .int .i64 0, .int .i64 0, .bool false] (.agg #[.int .i64 0, .int .i64 0, .int .i64 0, .int .i64 0, .int .i64 0, .bool false]) rfl rfl rfl (by kernel_rfl) (one_all rfl) HX2.out (Nat.le_refl 6) #[.int .i64 0, .int .i64 0, .int .i64 0, .int .i64 0, .int .i64 0, .bool false] rfl ?_; intro w8 hx6 hg6; have n1 : Aside0 (Below w.heap.size w w8) := ⟨by first | exact grown_below HB.out hg6 GE2.out | exact grown_below (pw_below_drewN HB.out _) hg6 GE2.out⟩; clear HX2 HB; have HB := n1; have HX2 := Aside0.mk hx6; clear n1 hx6 hg6))
  refine bodyPost_ret (results_ct rfl _ _ gb2 37 #[.int .i64 0, .int .i64 0, .int .i64 0, .int .i64 0, .int .i64 0, .bool false] (0, 0) _ rfl (by exact HX2.out) Tryd.underlying37 rfl (by kernel_rfl)) rfl ?_
  exact ⟨rfl, by first | exact HB.out | exact pw_below_drewN HB.out _⟩

set_option maxHeartbeats 4000000 in
set_option maxRecDepth 100000 in
theorem head_Head_high1 (A0 : Option Addr) (c0 : Nat) (l0 : List Int) (em x0 x1 x2 x3 fm mg : Int) (w : World) (HC : Aside0 (Kd.C (Kd.int .u8) w A0 l0.length l0)) (HL : Aside0 (l0.length ≤ c0)) (HA : Aside0 (head_ask.f l0 54 = some 0)) (AE : Aside0 (head_u.f l0 18 2 = some em)) (A0_ : Aside0 (head_s.f l0 36 = some x0)) (A1 : Aside0 (head_s.f l0 38 = some x1)) (A2 : Aside0 (head_s.f l0 40 = some x2)) (A3 : Aside0 (head_s.f l0 42 = some x3)) (AF : Aside0 (head_u.f l0 50 2 = some fm)) (AM : Aside0 (head_u.f l0 12 4 = some mg)) (hf : fm = 1) (hm : mg = 1594834165) (he0 : ¬ em < 16) (he : 16384 < em) :
    Calls Tryd.prog 20 #[.slice A0 l0.length c0] w fun e w' => e = .returned (.tuple #[.agg #[.int .i64 0, .int .i64 0, .int .i64 0, .int .i64 0, .int .i64 0, .bool false], .int .i64 4]) ∧ Below w.heap.size w w' := by
  have HB := Aside0.mk (Below.refl w.heap.size w)
  have b0 : (fm == 0) = false := beq_eq_false_iff_ne.2 (by omega)
  have b1 : (fm == 1) = true := beq_iff_eq.2 hf
  have b2 : (mg != 1594834165) = false := bne_eq_false_iff_eq.2 hm
  clear hf hm
  go_enter Tryd.func20, Tryd.ntmps20
  go_wp2_with (first
    | ((with_reducible refine gate_dst (N := 2) rfl ?_); refine box_event rfl (N := 2) rfl (cs := #[.int .i64 0, .int .i64 0, .int .i64 0, .int .i64 0, .int .i64 0, .bool false]) (t := 37) ?hr ?_; (case hr => first | (go_simp; done) | (go_simp; rfl)); intro gb2 hgb w1 hbx hb1; have HX2 := Aside0.mk hbx; have GE2 := Aside0.mk (show w.heap.size ≤ gb2 from Nat.le_of_eq hgb.symm); clear HB; have HB := Aside0.mk hb1; clear hgb hbx hb1)
    | (go_at_call 40; (with_reducible refine (head_ask.calls _ _ l0 54 0 _ ?sc HL.out HA.out).mono ?_); (case sc => repeat (first | exact Kd.C_below HC.out HB.out | (with_reducible refine Kd.C_drewN ?_ _) | (with_reducible refine Kd.C_drew ?_))); rintro e w' ⟨rfl, ⟨nd, rfl⟩⟩)
    | (go_at_call 43; (with_reducible refine (head_u.calls _ _ l0 18 2 em _ ?sc HL.out AE.out).mono ?_); (case sc => repeat (first | exact Kd.C_below HC.out HB.out | (with_reducible refine Kd.C_drewN ?_ _) | (with_reducible refine Kd.C_drew ?_))); rintro e w' ⟨rfl, ⟨nd, rfl⟩⟩)
    | (go_at_call 44; (with_reducible refine (head_s.calls _ _ l0 36 x0 _ ?sc HL.out A0_.out).mono ?_); (case sc => repeat (first | exact Kd.C_below HC.out HB.out | (with_reducible refine Kd.C_drewN ?_ _) | (with_reducible refine Kd.C_drew ?_))); rintro e w' ⟨rfl, ⟨nd, rfl⟩⟩)
    | (go_at_call 44; (with_reducible refine (head_s.calls _ _ l0 38 x1 _ ?sc HL.out A1.out).mono ?_); (case sc => repeat (first | exact Kd.C_below HC.out HB.out | (with_reducible refine Kd.C_drewN ?_ _) | (with_reducible refine Kd.C_drew ?_))); rintro e w' ⟨rfl, ⟨nd, rfl⟩⟩)
    | (go_at_call 44; (with_reducible refine (head_s.calls _ _ l0 40 x2 _ ?sc HL.out A2.out).mono ?_); (case sc => repeat (first | exact Kd.C_below HC.out HB.out | (with_reducible refine Kd.C_drewN ?_ _) | (with_reducible refine Kd.C_drew ?_))); rintro e w' ⟨rfl, ⟨nd, rfl⟩⟩)
    | (go_at_call 44; (with_reducible refine (head_s.calls _ _ l0 42 x3 _ ?sc HL.out A3.out).mono ?_); (case sc => repeat (first | exact Kd.C_below HC.out HB.out | (with_reducible refine Kd.C_drewN ?_ _) | (with_reducible refine Kd.C_drew ?_))); rintro e w' ⟨rfl, ⟨nd, rfl⟩⟩)
    | ((with_reducible refine gate_dst (N := 5) rfl ?_); refine box_event rfl (N := 5) rfl (cs := #[.int .i64 0, .int .i64 0, .int .i64 0, .int .i64 0, .int .i64 0, .bool false]) (t := 37) ?hr ?_; (case hr => first | (go_simp; done) | (go_simp; rfl)); intro gb5 hgb w5 hbx hb1; have HX5 := Aside0.mk hbx; have n0 := Aside0.mk (blk_below (blk_drewN HX2.out _) hb1); have n1 := Aside0.mk (show w.heap.size ≤ gb5 from by have h2 : gb5 = w1.heap.size := hgb; rw [h2]; exact below_size HB.out); have n2 := Aside0.mk (below_step (pw_below_drewN HB.out _) hb1); have n3 := Aside0.mk (show some gb2 ≠ some gb5 from fun he => by have h1 := blk_lt HX2.out; have h2 : gb5 = w1.heap.size := hgb; injection he with he; omega); clear HX2 HB; have HX2 := n0; have GE5 := n1; have HB := n2; have NE25 := n3; clear n0 n1 n2 n3 hgb hbx hb1)
    | ((with_reducible refine gate_store (t := 37) (p := 5) rfl ?_); refine store_seg rfl 37 (.tmp 5) _ rfl rfl (g := gb5) (off := 0) [.int .i64 em, .int .i64 x0, .int .i64 x1, .int .i64 x2, .int .i64 x3, .bool false] (.agg #[.int .i64 em, .int .i64 x0, .int .i64 x1, .int .i64 x2, .int .i64 x3, .bool false]) rfl rfl rfl (by kernel_rfl) (one_all rfl) HX5.out (Nat.le_refl 6) #[.int .i64 em, .int .i64 x0, .int .i64 x1, .int .i64 x2, .int .i64 x3, .bool false] rfl ?_; intro w6 hx6 hg6; have n0 := Aside0.mk (blk_grown HX2.out hg6 NE25.out); have n1 := Aside0.mk (grown_below HB.out hg6 GE5.out); clear HX2 HB HX5; have HX2 := n0; have HB := n1; have HX5 := Aside0.mk hx6; clear n0 n1 hx6 hg6)
    | (go_at_call 43; (with_reducible refine (head_u.calls _ _ l0 50 2 fm _ ?sc HL.out AF.out).mono ?_); (case sc => repeat (first | exact Kd.C_below HC.out HB.out | (with_reducible refine Kd.C_drewN ?_ _) | (with_reducible refine Kd.C_drew ?_))); rintro e w' ⟨rfl, ⟨nd, rfl⟩⟩)
    | ((with_reducible refine gate_store (t := 4) (p := 30) rfl ?_); refine store_seg rfl 4 (.tmp 30) _ rfl rfl (g := gb5) (off := 5) [.bool true] (.bool true) rfl rfl rfl (by kernel_rfl) (one_all rfl) (blk_drewN HX5.out _) (Nat.le_refl 6) #[.int .i64 em, .int .i64 x0, .int .i64 x1, .int .i64 x2, .int .i64 x3, .bool true] rfl ?_; intro w7 hx6 hg6; have n0 := Aside0.mk (blk_grown (blk_drewN HX2.out _) hg6 NE25.out); have n1 := Aside0.mk (grown_below (pw_below_drewN HB.out _) hg6 GE5.out); clear HX2 HB HX5; have HX2 := n0; have HB := n1; have HX5 := Aside0.mk hx6; clear n0 n1 hx6 hg6)
    | (go_at_call 43; (with_reducible refine (head_u.calls _ _ l0 12 4 mg _ ?sc HL.out AM.out).mono ?_); (case sc => repeat (first | exact Kd.C_below HC.out HB.out | (with_reducible refine Kd.C_drewN ?_ _) | (with_reducible refine Kd.C_drew ?_))); rintro e w9 ⟨rfl, ⟨nd, hq⟩⟩; have n0 : Aside0 (w9.heap[gb5]? = some (.cells #[.int .i64 em, .int .i64 x0, .int .i64 x1, .int .i64 x2, .int .i64 x3, .bool true] 37 (0, 0))) := ⟨blk_at hq.symm (by exact HX5.out)⟩; have n1 := Aside0.mk (blk_at hq.symm (by exact HX2.out)); have n2 : Aside0 (Below w.heap.size w w9) := ⟨below_at hq.symm (by first | exact HB.out | exact pw_below_drewN HB.out _)⟩; clear HX5 HX2 HB hq; have HX5 := n0; have HX2 := n1; have HB := n2; clear n0 n1 n2; have hc0 := (blk_cell HX5.out 0).trans (show (_ : Option Value) = some (.int .i64 em) from rfl); have hc1 := (blk_cell HX5.out 1).trans (show (_ : Option Value) = some (.int .i64 x0) from rfl); have hc2 := (blk_cell HX5.out 2).trans (show (_ : Option Value) = some (.int .i64 x1) from rfl); have hc3 := (blk_cell HX5.out 3).trans (show (_ : Option Value) = some (.int .i64 x2) from rfl); have hc4 := (blk_cell HX5.out 4).trans (show (_ : Option Value) = some (.int .i64 x3) from rfl); have hc5 := (blk_cell HX5.out 5).trans (show (_ : Option Value) = some (.bool true) from rfl))
    | ((with_reducible refine gate_store (t := 37) (p := 2) rfl ?_); refine store_seg rfl 37 (.tmp 2) _ rfl rfl (g := gb2) (off := 0) [.int .i64 0, .int .i64 0, .int .i64 0, .int .i64 0, .int .i64 0, .bool false] (.agg #[.int .i64 0, .int .i64 0, .int .i64 0, .int .i64 0, .int .i64 0, .bool false]) rfl rfl rfl (by kernel_rfl) (one_all rfl) HX2.out (Nat.le_refl 6) #[.int .i64 0, .int .i64 0, .int .i64 0, .int .i64 0, .int .i64 0, .bool false] rfl ?_; intro w8 hx6 hg6; have n1 : Aside0 (Below w.heap.size w w8) := ⟨by first | exact grown_below HB.out hg6 GE2.out | exact grown_below (pw_below_drewN HB.out _) hg6 GE2.out⟩; clear HX2 HB; have HB := n1; have HX2 := Aside0.mk hx6; clear n1 hx6 hg6))
  refine bodyPost_ret (results_ct rfl _ _ gb2 37 #[.int .i64 0, .int .i64 0, .int .i64 0, .int .i64 0, .int .i64 0, .bool false] (0, 0) _ rfl (by exact HX2.out) Tryd.underlying37 rfl (by kernel_rfl)) rfl ?_
  exact ⟨rfl, by first | exact HB.out | exact pw_below_drewN HB.out _⟩

set_option maxHeartbeats 4000000 in
set_option maxRecDepth 100000 in
theorem head_Head_ok1 (A0 : Option Addr) (c0 : Nat) (l0 : List Int) (em x0 x1 x2 x3 fm mg : Int) (w : World) (HC : Aside0 (Kd.C (Kd.int .u8) w A0 l0.length l0)) (HL : Aside0 (l0.length ≤ c0)) (HA : Aside0 (head_ask.f l0 54 = some 0)) (AE : Aside0 (head_u.f l0 18 2 = some em)) (A0_ : Aside0 (head_s.f l0 36 = some x0)) (A1 : Aside0 (head_s.f l0 38 = some x1)) (A2 : Aside0 (head_s.f l0 40 = some x2)) (A3 : Aside0 (head_s.f l0 42 = some x3)) (AF : Aside0 (head_u.f l0 50 2 = some fm)) (AM : Aside0 (head_u.f l0 12 4 = some mg)) (hf : fm = 1) (hm : mg = 1594834165) (he0 : 16 ≤ em) (he : em ≤ 16384) :
    Calls Tryd.prog 20 #[.slice A0 l0.length c0] w fun e w' => e = .returned (.tuple #[.agg #[.int .i64 em, .int .i64 x0, .int .i64 x1, .int .i64 x2, .int .i64 x3, .bool true], .int .i64 0]) ∧ Below w.heap.size w w' := by
  have HB := Aside0.mk (Below.refl w.heap.size w)
  have b0 : (fm == 0) = false := beq_eq_false_iff_ne.2 (by omega)
  have b1 : (fm == 1) = true := beq_iff_eq.2 hf
  have b2 : (mg != 1594834165) = false := bne_eq_false_iff_eq.2 hm
  clear hf hm
  go_enter Tryd.func20, Tryd.ntmps20
  go_wp2_with (first
    | ((with_reducible refine gate_dst (N := 2) rfl ?_); refine box_event rfl (N := 2) rfl (cs := #[.int .i64 0, .int .i64 0, .int .i64 0, .int .i64 0, .int .i64 0, .bool false]) (t := 37) ?hr ?_; (case hr => first | (go_simp; done) | (go_simp; rfl)); intro gb2 hgb w1 hbx hb1; have HX2 := Aside0.mk hbx; have GE2 := Aside0.mk (show w.heap.size ≤ gb2 from Nat.le_of_eq hgb.symm); clear HB; have HB := Aside0.mk hb1; clear hgb hbx hb1)
    | (go_at_call 40; (with_reducible refine (head_ask.calls _ _ l0 54 0 _ ?sc HL.out HA.out).mono ?_); (case sc => repeat (first | exact Kd.C_below HC.out HB.out | (with_reducible refine Kd.C_drewN ?_ _) | (with_reducible refine Kd.C_drew ?_))); rintro e w' ⟨rfl, ⟨nd, rfl⟩⟩)
    | (go_at_call 43; (with_reducible refine (head_u.calls _ _ l0 18 2 em _ ?sc HL.out AE.out).mono ?_); (case sc => repeat (first | exact Kd.C_below HC.out HB.out | (with_reducible refine Kd.C_drewN ?_ _) | (with_reducible refine Kd.C_drew ?_))); rintro e w' ⟨rfl, ⟨nd, rfl⟩⟩)
    | (go_at_call 44; (with_reducible refine (head_s.calls _ _ l0 36 x0 _ ?sc HL.out A0_.out).mono ?_); (case sc => repeat (first | exact Kd.C_below HC.out HB.out | (with_reducible refine Kd.C_drewN ?_ _) | (with_reducible refine Kd.C_drew ?_))); rintro e w' ⟨rfl, ⟨nd, rfl⟩⟩)
    | (go_at_call 44; (with_reducible refine (head_s.calls _ _ l0 38 x1 _ ?sc HL.out A1.out).mono ?_); (case sc => repeat (first | exact Kd.C_below HC.out HB.out | (with_reducible refine Kd.C_drewN ?_ _) | (with_reducible refine Kd.C_drew ?_))); rintro e w' ⟨rfl, ⟨nd, rfl⟩⟩)
    | (go_at_call 44; (with_reducible refine (head_s.calls _ _ l0 40 x2 _ ?sc HL.out A2.out).mono ?_); (case sc => repeat (first | exact Kd.C_below HC.out HB.out | (with_reducible refine Kd.C_drewN ?_ _) | (with_reducible refine Kd.C_drew ?_))); rintro e w' ⟨rfl, ⟨nd, rfl⟩⟩)
    | (go_at_call 44; (with_reducible refine (head_s.calls _ _ l0 42 x3 _ ?sc HL.out A3.out).mono ?_); (case sc => repeat (first | exact Kd.C_below HC.out HB.out | (with_reducible refine Kd.C_drewN ?_ _) | (with_reducible refine Kd.C_drew ?_))); rintro e w' ⟨rfl, ⟨nd, rfl⟩⟩)
    | ((with_reducible refine gate_dst (N := 5) rfl ?_); refine box_event rfl (N := 5) rfl (cs := #[.int .i64 0, .int .i64 0, .int .i64 0, .int .i64 0, .int .i64 0, .bool false]) (t := 37) ?hr ?_; (case hr => first | (go_simp; done) | (go_simp; rfl)); intro gb5 hgb w5 hbx hb1; have HX5 := Aside0.mk hbx; have n0 := Aside0.mk (blk_below (blk_drewN HX2.out _) hb1); have n1 := Aside0.mk (show w.heap.size ≤ gb5 from by have h2 : gb5 = w1.heap.size := hgb; rw [h2]; exact below_size HB.out); have n2 := Aside0.mk (below_step (pw_below_drewN HB.out _) hb1); have n3 := Aside0.mk (show some gb2 ≠ some gb5 from fun he => by have h1 := blk_lt HX2.out; have h2 : gb5 = w1.heap.size := hgb; injection he with he; omega); clear HX2 HB; have HX2 := n0; have GE5 := n1; have HB := n2; have NE25 := n3; clear n0 n1 n2 n3 hgb hbx hb1)
    | ((with_reducible refine gate_store (t := 37) (p := 5) rfl ?_); refine store_seg rfl 37 (.tmp 5) _ rfl rfl (g := gb5) (off := 0) [.int .i64 em, .int .i64 x0, .int .i64 x1, .int .i64 x2, .int .i64 x3, .bool false] (.agg #[.int .i64 em, .int .i64 x0, .int .i64 x1, .int .i64 x2, .int .i64 x3, .bool false]) rfl rfl rfl (by kernel_rfl) (one_all rfl) HX5.out (Nat.le_refl 6) #[.int .i64 em, .int .i64 x0, .int .i64 x1, .int .i64 x2, .int .i64 x3, .bool false] rfl ?_; intro w6 hx6 hg6; have n0 := Aside0.mk (blk_grown HX2.out hg6 NE25.out); have n1 := Aside0.mk (grown_below HB.out hg6 GE5.out); clear HX2 HB HX5; have HX2 := n0; have HB := n1; have HX5 := Aside0.mk hx6; clear n0 n1 hx6 hg6)
    | (go_at_call 43; (with_reducible refine (head_u.calls _ _ l0 50 2 fm _ ?sc HL.out AF.out).mono ?_); (case sc => repeat (first | exact Kd.C_below HC.out HB.out | (with_reducible refine Kd.C_drewN ?_ _) | (with_reducible refine Kd.C_drew ?_))); rintro e w' ⟨rfl, ⟨nd, rfl⟩⟩)
    | ((with_reducible refine gate_store (t := 4) (p := 30) rfl ?_); refine store_seg rfl 4 (.tmp 30) _ rfl rfl (g := gb5) (off := 5) [.bool true] (.bool true) rfl rfl rfl (by kernel_rfl) (one_all rfl) (blk_drewN HX5.out _) (Nat.le_refl 6) #[.int .i64 em, .int .i64 x0, .int .i64 x1, .int .i64 x2, .int .i64 x3, .bool true] rfl ?_; intro w7 hx6 hg6; have n0 := Aside0.mk (blk_grown (blk_drewN HX2.out _) hg6 NE25.out); have n1 := Aside0.mk (grown_below (pw_below_drewN HB.out _) hg6 GE5.out); clear HX2 HB HX5; have HX2 := n0; have HB := n1; have HX5 := Aside0.mk hx6; clear n0 n1 hx6 hg6)
    | (go_at_call 43; (with_reducible refine (head_u.calls _ _ l0 12 4 mg _ ?sc HL.out AM.out).mono ?_); (case sc => repeat (first | exact Kd.C_below HC.out HB.out | (with_reducible refine Kd.C_drewN ?_ _) | (with_reducible refine Kd.C_drew ?_))); rintro e w9 ⟨rfl, ⟨nd, hq⟩⟩; have n0 : Aside0 (w9.heap[gb5]? = some (.cells #[.int .i64 em, .int .i64 x0, .int .i64 x1, .int .i64 x2, .int .i64 x3, .bool true] 37 (0, 0))) := ⟨blk_at hq.symm (by exact HX5.out)⟩; have n1 := Aside0.mk (blk_at hq.symm (by exact HX2.out)); have n2 : Aside0 (Below w.heap.size w w9) := ⟨below_at hq.symm (by first | exact HB.out | exact pw_below_drewN HB.out _)⟩; clear HX5 HX2 HB hq; have HX5 := n0; have HX2 := n1; have HB := n2; clear n0 n1 n2; have hc0 := (blk_cell HX5.out 0).trans (show (_ : Option Value) = some (.int .i64 em) from rfl); have hc1 := (blk_cell HX5.out 1).trans (show (_ : Option Value) = some (.int .i64 x0) from rfl); have hc2 := (blk_cell HX5.out 2).trans (show (_ : Option Value) = some (.int .i64 x1) from rfl); have hc3 := (blk_cell HX5.out 3).trans (show (_ : Option Value) = some (.int .i64 x2) from rfl); have hc4 := (blk_cell HX5.out 4).trans (show (_ : Option Value) = some (.int .i64 x3) from rfl); have hc5 := (blk_cell HX5.out 5).trans (show (_ : Option Value) = some (.bool true) from rfl))
    | ((with_reducible refine gate_store (t := 37) (p := 2) rfl ?_); refine store_seg rfl 37 (.tmp 2) _ rfl rfl (g := gb2) (off := 0) [.int .i64 em, .int .i64 x0, .int .i64 x1, .int .i64 x2, .int .i64 x3, .bool true] (.agg #[.int .i64 em, .int .i64 x0, .int .i64 x1, .int .i64 x2, .int .i64 x3, .bool true]) rfl rfl rfl (by kernel_rfl) (one_all rfl) HX2.out (Nat.le_refl 6) #[.int .i64 em, .int .i64 x0, .int .i64 x1, .int .i64 x2, .int .i64 x3, .bool true] rfl ?_; intro w8 hx6 hg6; have n1 : Aside0 (Below w.heap.size w w8) := ⟨by first | exact grown_below HB.out hg6 GE2.out | exact grown_below (pw_below_drewN HB.out _) hg6 GE2.out⟩; clear HX2 HB; have HB := n1; have HX2 := Aside0.mk hx6; clear n1 hx6 hg6))
  refine bodyPost_ret (results_ct rfl _ _ gb2 37 #[.int .i64 em, .int .i64 x0, .int .i64 x1, .int .i64 x2, .int .i64 x3, .bool true] (0, 0) _ rfl (by exact HX2.out) Tryd.underlying37 rfl (by kernel_rfl)) rfl ?_
  exact ⟨rfl, by first | exact HB.out | exact pw_below_drewN HB.out _⟩

theorem head_Head.calls (A0 : Option Addr) (c0 : Nat) (l0 : List Int) (r1 r2 r3 r4 r5 : Int) (r6 : Bool) (r7 : Int) (w : World) (hr0 : Kd.C (Kd.int .u8) w A0 l0.length l0) (hc0 : l0.length ≤ c0) (h : head_Head.f l0 = some (r1, r2, r3, r4, r5, r6, r7)) :
    Calls Tryd.prog 20 #[.slice A0 l0.length c0] w fun e w' => e = .returned (.tuple #[.agg #[.int .i64 r1, .int .i64 r2, .int .i64 r3, .int .i64 r4, .int .i64 r5, .bool r6], .int .i64 r7]) ∧ Below w.heap.size w w' := by
  unfold head_Head.f at h
  by_cases h1 : (l0.length : Int) < 54
  · rw [if_pos h1] at h
    simp only [Option.some.injEq, Prod.mk.injEq] at h
    obtain ⟨rfl, rfl, rfl, rfl, rfl, rfl, rfl⟩ := h
    exact head_Head_short A0 c0 l0 w ⟨hr0⟩ ⟨hc0⟩ ⟨by unfold head_ask.f; rw [if_pos h1]⟩
  rw [if_neg h1] at h
  obtain ⟨em, AE, h⟩ := Option.bind_eq_some_iff.mp h
  obtain ⟨x0, A0_, h⟩ := Option.bind_eq_some_iff.mp h
  obtain ⟨x1, A1, h⟩ := Option.bind_eq_some_iff.mp h
  obtain ⟨x2, A2, h⟩ := Option.bind_eq_some_iff.mp h
  obtain ⟨x3, A3, h⟩ := Option.bind_eq_some_iff.mp h
  obtain ⟨fm, AF, h⟩ := Option.bind_eq_some_iff.mp h
  obtain ⟨mg, AM, h⟩ := Option.bind_eq_some_iff.mp h
  have HA := Aside0.mk (show head_ask.f l0 54 = some 0 by unfold head_ask.f; rw [if_neg h1])
  have h := Option.some.inj h
  by_cases hf : fm ≠ 0 ∧ fm ≠ 1
  · rw [if_pos (.inl hf)] at h
    simp only [Prod.mk.injEq] at h
    obtain ⟨rfl, rfl, rfl, rfl, rfl, rfl, rfl⟩ := h
    exact head_Head_form A0 c0 l0 em x0 x1 x2 x3 fm mg w ⟨hr0⟩ ⟨hc0⟩ HA ⟨AE⟩ ⟨A0_⟩ ⟨A1⟩ ⟨A2⟩ ⟨A3⟩ ⟨AF⟩ ⟨AM⟩ hf
  by_cases hm : mg ≠ 1594834165
  · rw [if_pos (.inr (.inl hm))] at h
    simp only [Prod.mk.injEq] at h
    obtain ⟨rfl, rfl, rfl, rfl, rfl, rfl, rfl⟩ := h
    by_cases h0 : fm = 0
    · exact head_Head_magic0 A0 c0 l0 em x0 x1 x2 x3 fm mg w ⟨hr0⟩ ⟨hc0⟩ HA ⟨AE⟩ ⟨A0_⟩ ⟨A1⟩ ⟨A2⟩ ⟨A3⟩ ⟨AF⟩ ⟨AM⟩ h0 hm
    · exact head_Head_magic1 A0 c0 l0 em x0 x1 x2 x3 fm mg w ⟨hr0⟩ ⟨hc0⟩ HA ⟨AE⟩ ⟨A0_⟩ ⟨A1⟩ ⟨A2⟩ ⟨A3⟩ ⟨AF⟩ ⟨AM⟩ (by omega) hm
  by_cases he : em < 16
  · rw [if_pos (.inr (.inr (.inl he)))] at h
    simp only [Prod.mk.injEq] at h
    obtain ⟨rfl, rfl, rfl, rfl, rfl, rfl, rfl⟩ := h
    by_cases h0 : fm = 0
    · exact head_Head_low0 A0 c0 l0 em x0 x1 x2 x3 fm mg w ⟨hr0⟩ ⟨hc0⟩ HA ⟨AE⟩ ⟨A0_⟩ ⟨A1⟩ ⟨A2⟩ ⟨A3⟩ ⟨AF⟩ ⟨AM⟩ h0 (by omega) he
    · exact head_Head_low1 A0 c0 l0 em x0 x1 x2 x3 fm mg w ⟨hr0⟩ ⟨hc0⟩ HA ⟨AE⟩ ⟨A0_⟩ ⟨A1⟩ ⟨A2⟩ ⟨A3⟩ ⟨AF⟩ ⟨AM⟩ (by omega) (by omega) he
  by_cases he2 : em > 16384
  · rw [if_pos (.inr (.inr (.inr he2)))] at h
    simp only [Prod.mk.injEq] at h
    obtain ⟨rfl, rfl, rfl, rfl, rfl, rfl, rfl⟩ := h
    by_cases h0 : fm = 0
    · exact head_Head_high0 A0 c0 l0 em x0 x1 x2 x3 fm mg w ⟨hr0⟩ ⟨hc0⟩ HA ⟨AE⟩ ⟨A0_⟩ ⟨A1⟩ ⟨A2⟩ ⟨A3⟩ ⟨AF⟩ ⟨AM⟩ h0 (by omega) he he2
    · exact head_Head_high1 A0 c0 l0 em x0 x1 x2 x3 fm mg w ⟨hr0⟩ ⟨hc0⟩ HA ⟨AE⟩ ⟨A0_⟩ ⟨A1⟩ ⟨A2⟩ ⟨A3⟩ ⟨AF⟩ ⟨AM⟩ (by omega) (by omega) he he2
  rw [if_neg (by omega)] at h
  simp only [Prod.mk.injEq] at h
  obtain ⟨rfl, rfl, rfl, rfl, rfl, h6, rfl⟩ := h
  by_cases h0 : fm = 0
  · rw [decide_eq_false (by omega)] at h6
    subst h6
    exact head_Head_ok0 A0 c0 l0 _ _ _ _ _ fm mg w ⟨hr0⟩ ⟨hc0⟩ HA ⟨AE⟩ ⟨A0_⟩ ⟨A1⟩ ⟨A2⟩ ⟨A3⟩ ⟨AF⟩ ⟨AM⟩ h0 (by omega) (by omega) (by omega)
  · rw [decide_eq_true (by omega)] at h6
    subst h6
    exact head_Head_ok1 A0 c0 l0 _ _ _ _ _ fm mg w ⟨hr0⟩ ⟨hc0⟩ HA ⟨AE⟩ ⟨A0_⟩ ⟨A1⟩ ⟨A2⟩ ⟨A3⟩ ⟨AF⟩ ⟨AM⟩ (by omega) (by omega) (by omega) (by omega)



end Go.Proofs.YtcclmaicdmogjaaDoor.P

-- Written by wip/pr.py over the kit's print
namespace Go.Proofs.YtcclmaicdmogjaaDoor.P
open Go.RowKit Go.Proofs.YtcclmaicdmogjaaDoorW.PrintWords Go.Proofs.YtcclmaicdmogjaaDoorW.PrintLast Go.Proofs.YtcclmaicdmogjaaDoorW.PrintMore
attribute [local go_sem] max2_int min2_int max_two min_two max_three min_three max_four min_four   -- for this text's walks alone
set_option linter.unusedVariables false
set_option linter.unusedSimpArgs false

/-! ### be_Put: function 73 (by hand) -/
-- FUNC calamus/be.Put
-- ROUNDS no
-- MAKES yes
-- INFO uint8
def be_Put.f (a0 : Int) (a1 : Int) : Option (List Int) := if inI a0 ∧ inI a1 then some (putB a0 (widthB a1)) else none
set_option maxHeartbeats 8000000 in
set_option maxRecDepth 100000 in
theorem be_Put.calls (a0 : Int) (a1 : Int) (r : List Int) (w : World) (h : be_Put.f a0 a1 = some r) :
    Calls Tryd.prog 73 #[.int .i64 a0, .int .i64 a1] w fun e w' => ∃ v0_ : Value, e = .returned (v0_) ∧ Kd.R (Kd.int .u8) 5 w' w.heap.size (fun _ => True) v0_ r ∧ Below w.heap.size w w' := by
  unfold be_Put.f at h
  split at h
  case isFalse => cases h
  rename_i hg
  obtain ⟨⟨hi01, hi02⟩, ⟨hi11, hi12⟩⟩ := hg
  have HR := Aside0.mk (Option.some.inj h)
  clear h
  have HB := Aside0.mk (Below.refl w.heap.size w)
  obtain ⟨j, hj⟩ : ∃ j : Int, (if 8 < a1 then 8 else a1) = j := ⟨_, rfl⟩
  obtain ⟨W, hW⟩ : ∃ W : Nat, (if 0 < j then j else 0) = (W : Int) := ⟨(if 0 < j then j else 0).toNat, by split <;> omega⟩
  have HW := Aside0.mk (show widthB a1 = W by unfold widthB; rw [← hj] at hW; revert hW; (repeat' split) <;> omega)
  have hW8 : W ≤ 8 := by rw [← hj] at hW; revert hW; (repeat' split) <;> omega
  go_enter Tryd.func73, Tryd.ntmps73
  go_wp2_with (first | ((with_reducible refine gate_dst (N := 11) rfl ?_); refine Kd.R_make (Kd.int .u8) _ 5 rfl (N := 11) rfl 22 _ _ rfl (W : Int) rfl rfl Tryd.underlying22 (.int .u8 0) 1 info5 rfl (by decide) (by omega) 0 (ok := fun _ => True) (okp := fun _ => True) rfl (fun _ hk => hk) trivial (by omega) (by omega) (Below.refl _ _) (Nat.le_refl _) ?_; intro v188 w7 ho8 hb hg_ hnew_; clear hg_ hnew_; have HO := Aside0.mk (Kd.R_lower ho8 (below_size HB.out)); have HB2 := Aside0.mk (below_step HB.out hb); clear HB hb ho8))
  obtain ⟨xs, hxs⟩ : ∃ xs : List Int, xs = List.replicate W 0 := ⟨_, rfl⟩
  have HO1 : Aside0 (Kd.R (Kd.int .u8) 5 w7 w.heap.size (fun _ => True) v188 xs) := ⟨by rw [hxs]; exact HO.out⟩
  clear HO
  have HX := Aside0.mk hxs
  clear hxs
  by_cases hW0 : W = 0
  · subst hW0
    refine wp_loop_rounds 1 ?_
    rw [rounds_succ]
    go_wp2
    go_ret
    refine ⟨_, rfl, ?_, HB2.out⟩
    have := HO1.out
    rw [← HR.out, HW.out]
    rw [HX.out] at this
    simpa [putB] using this
  · obtain ⟨g, cap, hv, hgb, hgl, hgc⟩ := Kd.R_form HO1.out (by rw [HX.out]; simp; omega)
    have hlen : xs.length = W := by rw [HX.out]; simp
    rw [hlen] at hv
    subst hv
    have HG := Aside0.mk hgb
    clear hgb hgl hgc hlen
    go_loopg [6, 13] W (fun kq v6 v13 w' => ∃ (k : Nat), v13 = .int .i64 (k : Int) ∧ k ≤ W ∧ Aside0 (W - k = kq) ∧ Aside0 (Kd.R (Kd.int .u8) 5 w' w.heap.size (fun _ => True) (.slice (some ⟨g, 0, none⟩) W cap) (List.replicate (W - k) 0 ++ putB a0 k)) ∧ Aside0 (Below w.heap.size w w'))
    case atStart => exact ⟨0, rfl, by omega, ⟨rfl⟩, ⟨by have := HO1.out; rw [HX.out] at this; simpa [putB] using this⟩, HB2⟩
    case round =>
      obtain ⟨k, rfl, hk, HK, HO2, HB3⟩ := hrel
      by_cases hkl : k < W
      · obtain ⟨hx, hf⟩ := Kd.R_celln 0 HO2.out ((W - 1 - k : Nat) : Int) (by omega) (by omega)
        have hx2 : ∃ y, wr.cell? ⟨g, W - 1 - k, none⟩ = some (.int .u8 y) := ⟨_, by simpa using hx⟩
        have hf2 : wr.frozen? ⟨g, W - 1 - k, none⟩ = false := by simpa using hf
        clear hx hf
        obtain ⟨y, hx⟩ := hx2
        go_wp2
        go_roundg (W - (k + 1))
        case measure => have := HK.out; omega
        case rel => exact ⟨k + 1, by go_num, by omega, ⟨rfl⟩, ⟨put_stored HO2.out hkl rfl⟩, ⟨below_set HB3.out HG.out⟩⟩
      · obtain rfl : k = W := by omega
        go_wp2
        go_ret
        refine ⟨_, rfl, ?_, HB3.out⟩
        have := HO2.out
        rw [← HR.out, HW.out]
        simpa using this


end Go.Proofs.YtcclmaicdmogjaaDoor.P

namespace Go.Proofs.YtcclmaicdmogjaaDoor.P
open Go.RowKit Go.Proofs.YtcclmaicdmogjaaDoorW.PrintWords Go.Proofs.YtcclmaicdmogjaaDoorW.PrintLast Go.Proofs.YtcclmaicdmogjaaDoorW.PrintMore
set_option linter.unusedVariables false
set_option linter.unusedSimpArgs false

/-- copy(v[at:], ys), v a row of the call's own. -/
theorem R_copy_at {P : Program} {ops : Array Oper} {rest : List Oper} {o : Oper} {a : Act} {Q : Exit → Act → World → Prop} {α : Type} {enc : α → Value} {h1 : ∀ x, (enc x).oneCell' = true} (d : α) {w0 W : World} (base : Nat) (hgd : o.guard = none) (s x : Operand) (t t' e : TypeId)
    (ho : o.op = .call { callee := .builtin .copy, args := #[s, x], argTypes := #[t, t'] }) (ht : P.underlying t = some (.slice e)) (hinfo : (P.info? e).map (·.size) = some 1)
    (v : Value) (xs ys : List α) (A D : Option Addr) (m c dl dc pos : Nat) (ok : Nat → Prop) (hs : a.eval s = .slice D dl dc) (hx : a.eval x = .slice A m c)
    (hD : ∀ g n cap, v = .slice (some ⟨g, 0, none⟩) n cap → 0 < min m dl → D = some ⟨g, pos, none⟩) (hfit : pos + min m dl ≤ xs.length)
    (HO : (Kd.scalar enc h1).R e W base ok v xs) (HR : (Kd.scalar enc h1).C W A m ys) (HB : Below base w0 W) (hbase : base ≤ W.heap.size)
    (h : ∀ w1, (Kd.scalar enc h1).R e w1 base ok v (xs.take pos ++ ys.take (min m dl) ++ xs.drop (pos + min m dl)) → Below base w0 w1 → W.grownBy w1 v.ownBlock → wpList P ops Q rest (a.put o.dst (.int .i64 ((min m dl : Nat) : Int))) w1) :
    wpList P ops Q (o :: rest) a W := by
  have hR := Kd.reads_of_C (enc := enc) (d := d) (h1 := h1) HR
  have hm : ys.length = m := hR.1
  have hown := Kd.own_of_R HO
  have fin : ∀ w1, (Builtin.copy_ #[t, t'] o.type #[.slice D dl dc, .slice A m c]).run P W = .ok (goInt ((min m dl : Nat) : Int)) w1 → (Kd.scalar enc h1).R e w1 base ok v (xs.take pos ++ ys.take (min m dl) ++ xs.drop (pos + min m dl)) → W.grownBy w1 v.ownBlock → wpList P ops Q (o :: rest) a W := by
    intro w1 hr hrow hg
    refine wpList_plain hgd fun K hK => ?_
    unfold Oper.wp execOp
    simp only [ho, resolve, invoke, builtin, Sem.run_bind, Sem.run_pure, Result.andThen_ok, List.map_toArray, List.map_cons, List.map_nil, hs, hx, hr]
    exact hK _ _ (h w1 hrow (HB.grown hg hbase (own_base hown)) hg)
  rcases Nat.eq_zero_or_pos (min m dl) with h0 | hp
  · refine fin W ?_ (by rw [h0, List.take_zero, List.append_nil, Nat.add_zero, List.take_append_drop]; exact HO) (World.grownBy.refl W _)
    rw [h0]
    exact run_copy_none W t t' o.type e D A dl dc m c ht hinfo h0
  · obtain ⟨ad, hA, hc⟩ := hR.2.2 (by omega)
    rcases hown.2 with ⟨_, hx0⟩ | ⟨g, cap, cur, hv, hb, hh, hnc, hcm, hcs, htake⟩
    · omega
    have hcs1 : cur.size = cap := by omega
    have hDg := hD g xs.length cap hv hp
    have hsrc : ∀ j u, (encs enc (ys.take (min m dl)))[j]? = some u → W.cell? (ad.add j) = some u := by
      intro j u hu
      have hj : j < (ys.take (min m dl)).length := by
        rcases Nat.lt_or_ge j (ys.take (min m dl)).length with h | h
        · exact h
        · rw [List.getElem?_eq_none (by rw [encs_length]; exact h)] at hu
          cases hu
      have hjm : j < min m dl := by rw [List.length_take] at hj; omega
      rw [encs_get (d := d) _ j hj] at hu
      rw [hc j (by omega), ← hu]
      simp [List.getD_eq_getElem?_getD, hjm]
    have hkl : (encs enc (ys.take (min m dl))).length = min m dl := by rw [encs_length, List.length_take]; omega
    have hr := run_copy_cells (P := P) W t t' o.type e g pos dl dc ad m c (encs enc (ys.take (min m dl))) ht hinfo (by rw [hkl]) hsrc
      (fun j hj => by rw [cell_of_row W g _ cur e (0, 0) hh]; simp; omega) (fun j _ => blk_frozen hh _) (by intro u hu; simp only [encs, List.mem_map] at hu; obtain ⟨q, _, rfl⟩ := hu; exact h1 q)
    obtain ⟨cur', h3, h4, h5⟩ := setCells_row (encs enc (ys.take (min m dl))) pos W cur hh (by rw [hkl]; omega)
    obtain ⟨s1, s2, s3, s4⟩ := setCells_same g (encs enc (ys.take (min m dl))) pos W
    refine fin _ (by rw [hDg, hA, hr, hkl]) (Kd.R_of_own ?_ HO.1) ⟨s1, s2, s3, by rw [s4]; exact Nat.le_refl _, fun k _ hk => setCells_far _ _ k (fun he => hk (by rw [hv, he]; simp [Value.ownBlock]))⟩
    have hln : (xs.take pos ++ ys.take (min m dl) ++ xs.drop (pos + min m dl)).length = xs.length := by
      rw [List.length_append, List.length_append, List.length_take, List.length_take, List.length_drop]
      omega
    rw [hln]
    refine ⟨by rw [encs_length, hln, Nat.mul_one], .inr ⟨g, cap, cur', hv, hb, h3, hnc, hcm, by rw [h4, hcs], ?_⟩⟩
    have htk : cur.toList.take xs.length = encs enc xs := by rw [← htake, Nat.mul_one]
    rw [h5, hkl, encs_append, encs_append, Nat.mul_one]
    have e1 : encs enc (xs.take pos) = cur.toList.take pos := by
      have : encs enc (xs.take pos) = (encs enc xs).take pos := by simp [encs, List.map_take]
      rw [this, ← htk, List.take_take, Nat.min_eq_left (by omega)]
    have e2 : encs enc (xs.drop (pos + min m dl)) = (cur.toList.take xs.length).drop (pos + min m dl) := by
      rw [htk]; simp [encs, List.map_drop]
    rw [e1, e2, List.take_append, List.take_of_length_le (l := cur.toList.take pos ++ encs enc (ys.take (min m dl))) (by rw [List.length_append, List.length_take, hkl]; omega), List.length_append, List.length_take, hkl]
    congr 1
    rw [List.drop_take]
    congr 1
    have : cur.toList.length = cap := by rw [Array.length_toList]; exact hcs1
    omega
/-- v[at:], v a row of the call's own. -/
theorem own_cut {P : Program} {α : Type} {enc : α → Value} {h1 : ∀ x, (enc x).oneCell' = true} (t e : TypeId) {i : TypeInfo} (ht : P.underlying t = some (.slice e)) (hi : P.info? e = some i) (hsz : i.size = 1) {W : World} {base : Nat} {ok : Nat → Prop} {v : Value} {xs : List α}
    (h : (Kd.scalar enc h1).R e W base ok v xs) (m : Nat) (hm : m ≤ xs.length) :
    ∃ A c D, v = .slice A xs.length c ∧ (∀ W : World, (Instr.slice t (.slice A xs.length c) (some (.int .i64 (m : Int))) none none).run P W = .ok (.slice D (xs.length - m) (c - m)) W) ∧ ∀ g n cap, v = .slice (some ⟨g, 0, none⟩) n cap → m < xs.length → D = some ⟨g, m, none⟩ := by
  obtain ⟨A, c, hv, hl, hr⟩ := Kd.R_reads h
  refine ⟨A, c, if c = m then A else A.map (·.add m), hv, fun W => ?_, fun g n cap hg hlt => ?_⟩
  · have hel : P.elem t = e := by simp [Program.elem, ht]
    have hu : P.underlying t = some (.slice (P.elem t)) := by rw [hel]; exact ht
    rw [run_slice_l W t A xs.length c hu .i64 (m : Int) (Int.natCast_nonneg _) (by omega), hel]
    simp [sizeOf, typeInfo, hi, hsz, sliced, Result.andThen]
  · rw [hv] at hg
    injection hg with hg _ _
    rw [if_neg (by omega), hg]
    simp only [Option.map_some, add_plain]

end Go.Proofs.YtcclmaicdmogjaaDoor.P

namespace Go.Proofs.YtcclmaicdmogjaaDoor.P
open Go.RowKit Go.Proofs.YtcclmaicdmogjaaDoorW.PrintWords Go.Proofs.YtcclmaicdmogjaaDoorW.PrintLast Go.Proofs.YtcclmaicdmogjaaDoorW.PrintMore
set_option linter.unusedVariables false
set_option linter.unusedSimpArgs false

-- ALSO Derived.Deep.RegionLaw
-- NEEDS copyat
/-- copy(v[pos:..], ys), v a row of the call's own: as the machine runs it. -/
theorem copy_at_core {P : Program} {α : Type} {enc : α → Value} {h1 : ∀ x, (enc x).oneCell' = true} (d : α) {W : World} (base : Nat) (t t' e ty : TypeId)
    (ht : P.underlying t = some (.slice e)) (hinfo : (P.info? e).map (·.size) = some 1)
    (v : Value) (xs ys : List α) (A D : Option Addr) (m c dl dc pos : Nat) (ok : Nat → Prop)
    (hD : ∀ g n cap, v = .slice (some ⟨g, 0, none⟩) n cap → 0 < min m dl → D = some ⟨g, pos, none⟩) (hfit : pos + min m dl ≤ xs.length)
    (HO : (Kd.scalar enc h1).R e W base ok v xs) (HR : (Kd.scalar enc h1).C W A m ys) :
    ∃ w1, (Builtin.copy_ #[t, t'] ty #[.slice D dl dc, .slice A m c]).run P W = .ok (goInt ((min m dl : Nat) : Int)) w1 ∧ (Kd.scalar enc h1).R e w1 base ok v (xs.take pos ++ ys.take (min m dl) ++ xs.drop (pos + min m dl)) ∧ W.grownBy w1 v.ownBlock := by
  have hR := Kd.reads_of_C (enc := enc) (d := d) (h1 := h1) HR
  have hm : ys.length = m := hR.1
  have hown := Kd.own_of_R HO
  rcases Nat.eq_zero_or_pos (min m dl) with h0 | hp
  · refine ⟨W, ?_, by rw [h0, List.take_zero, List.append_nil, Nat.add_zero, List.take_append_drop]; exact HO, World.grownBy.refl W _⟩
    rw [h0]
    exact run_copy_none W t t' ty e D A dl dc m c ht hinfo h0
  · obtain ⟨ad, hA, hc⟩ := hR.2.2 (by omega)
    rcases hown.2 with ⟨_, hx0⟩ | ⟨g, cap, cur, hv, hb, hh, hnc, hcm, hcs, htake⟩
    · omega
    have hcs1 : cur.size = cap := by omega
    have hDg := hD g xs.length cap hv hp
    have hsrc : ∀ j u, (encs enc (ys.take (min m dl)))[j]? = some u → W.cell? (ad.add j) = some u := by
      intro j u hu
      have hj : j < (ys.take (min m dl)).length := by
        rcases Nat.lt_or_ge j (ys.take (min m dl)).length with h | h
        · exact h
        · rw [List.getElem?_eq_none (by rw [encs_length]; exact h)] at hu
          cases hu
      have hjm : j < min m dl := by rw [List.length_take] at hj; omega
      rw [encs_get (d := d) _ j hj] at hu
      rw [hc j (by omega), ← hu]
      simp [List.getD_eq_getElem?_getD, hjm]
    have hkl : (encs enc (ys.take (min m dl))).length = min m dl := by rw [encs_length, List.length_take]; omega
    have hr := run_copy_cells (P := P) W t t' ty e g pos dl dc ad m c (encs enc (ys.take (min m dl))) ht hinfo (by rw [hkl]) hsrc
      (fun j hj => by rw [cell_of_row W g _ cur e (0, 0) hh]; simp; omega) (fun j _ => blk_frozen hh _) (by intro u hu; simp only [encs, List.mem_map] at hu; obtain ⟨q, _, rfl⟩ := hu; exact h1 q)
    obtain ⟨cur', h3, h4, h5⟩ := setCells_row (encs enc (ys.take (min m dl))) pos W cur hh (by rw [hkl]; omega)
    obtain ⟨s1, s2, s3, s4⟩ := setCells_same g (encs enc (ys.take (min m dl))) pos W
    refine ⟨_, by rw [hDg, hA, hr, hkl], Kd.R_of_own ?_ HO.1, ⟨s1, s2, s3, by rw [s4]; exact Nat.le_refl _, fun k _ hk => setCells_far _ _ k (fun he => hk (by rw [hv, he]; simp [Value.ownBlock]))⟩⟩
    have hln : (xs.take pos ++ ys.take (min m dl) ++ xs.drop (pos + min m dl)).length = xs.length := by
      rw [List.length_append, List.length_append, List.length_take, List.length_take, List.length_drop]
      omega
    rw [hln]
    refine ⟨by rw [encs_length, hln, Nat.mul_one], .inr ⟨g, cap, cur', hv, hb, h3, hnc, hcm, by rw [h4, hcs], ?_⟩⟩
    have htk : cur.toList.take xs.length = encs enc xs := by rw [← htake, Nat.mul_one]
    rw [h5, hkl, encs_append, encs_append, Nat.mul_one]
    have e1 : encs enc (xs.take pos) = cur.toList.take pos := by
      have : encs enc (xs.take pos) = (encs enc xs).take pos := by simp [encs, List.map_take]
      rw [this, ← htk, List.take_take, Nat.min_eq_left (by omega)]
    have e2 : encs enc (xs.drop (pos + min m dl)) = (cur.toList.take xs.length).drop (pos + min m dl) := by
      rw [htk]; simp [encs, List.map_drop]
    rw [e1, e2, List.take_append, List.take_of_length_le (l := cur.toList.take pos ++ encs enc (ys.take (min m dl))) (by rw [List.length_append, List.length_take, hkl]; omega), List.length_append, List.length_take, hkl]
    congr 1
    rw [List.drop_take]
    congr 1
    have : cur.toList.length = cap := by rw [Array.length_toList]; exact hcs1
    omega
theorem R_copy_at_step {P : Program} {ops : Array Oper} {o : Oper} {a : Act} {Q : Exit → Act → World → Prop} {Kc : Act → World → Prop} {α : Type} {enc : α → Value} {h1 : ∀ x, (enc x).oneCell' = true} (d : α) {W : World} (base : Nat) (hw : Region.wanted o (yielded ops a.tmps) = true) (s x : Operand) (t t' e : TypeId)
    (ho : o.op = .call { callee := .builtin .copy, args := #[s, x], argTypes := #[t, t'] }) (ht : P.underlying t = some (.slice e)) (hinfo : (P.info? e).map (·.size) = some 1)
    (v : Value) (xs ys : List α) (A D : Option Addr) (m c dl dc pos : Nat) (ok : Nat → Prop) (hs : a.eval s = .slice D dl dc) (hx : a.eval x = .slice A m c)
    (hD : ∀ g n cap, v = .slice (some ⟨g, 0, none⟩) n cap → 0 < min m dl → D = some ⟨g, pos, none⟩) (hfit : pos + min m dl ≤ xs.length)
    (HO : (Kd.scalar enc h1).R e W base ok v xs) (HR : (Kd.scalar enc h1).C W A m ys)
    (h : ∀ w1, (Kd.scalar enc h1).R e w1 base ok v (xs.take pos ++ ys.take (min m dl) ++ xs.drop (pos + min m dl)) → W.grownBy w1 v.ownBlock → Kc (a.put o.dst (.int .i64 ((min m dl : Nat) : Int))) w1) :
    if Region.wanted o (yielded ops a.tmps) = true then Oper.wp P o a W Kc Q else Kc (a.put o.dst undef) W := by
  obtain ⟨w1, hr, h2, h3⟩ := copy_at_core (P := P) (enc := enc) (h1 := h1) d (W := W) base t t' e o.type ht hinfo v xs ys A D m c dl dc pos ok hD hfit HO HR
  refine event_step hw ?_ (h w1 h2 h3)
  unfold execOp
  simp only [ho, resolve, invoke, builtin, Sem.run_bind, Sem.run_pure, Result.andThen_ok, List.map_toArray, List.map_cons, List.map_nil, hs, hx, hr]
  rfl
/-- v[lo:hi], v a row of the call's own. -/
theorem own_mid {P : Program} (t e : TypeId) {i : TypeInfo} (ht : P.underlying t = some (.slice e)) (hi : P.info? e = some i) (hsz : i.size = 1) (g n c lo hi' : Nat) (h1 : lo ≤ hi') (h2 : hi' ≤ n) (hc : n ≤ c) (hlt : lo < n) :
    ∀ W : World, (Instr.slice t (.slice (some ⟨g, 0, none⟩) n c) (some (.int .i64 (lo : Int))) (some (.int .i64 (hi' : Int))) none).run P W = .ok (.slice (some ⟨g, lo, none⟩) (hi' - lo) (c - lo)) W := by
  intro W
  have := cut_mid (P := P) t e .i64 .i64 ht hi 1 hsz (some ⟨g, 0, none⟩) n c (lo : Int) (hi' : Int) (by omega) (by omega) (by omega) hc W
  rw [this, show ((lo : Nat) : Int).toNat = lo from rfl, if_neg (by omega)]
  simp only [Option.map_some, Nat.mul_one, add_plain]
  rfl

end Go.Proofs.YtcclmaicdmogjaaDoor.P

-- Written by wip/pr.py over the kit's print
namespace Go.Proofs.YtcclmaicdmogjaaDoor.P
open Go.RowKit Go.Proofs.YtcclmaicdmogjaaDoorW.PrintWords Go.Proofs.YtcclmaicdmogjaaDoorW.PrintLast Go.Proofs.YtcclmaicdmogjaaDoorW.PrintMore
attribute [local go_sem] max2_int min2_int max_two min_two max_three min_three max_four min_four   -- for this text's walks alone
set_option linter.unusedVariables false
set_option linter.unusedSimpArgs false

/-! ### head_lay: function 41 (by hand) -/
-- FUNC calamus/head.lay
-- ROUNDS no
-- MAKES yes
-- INFO uint8
-- NEEDS copystep
/-- Bytes with a number of two bytes at a place. -/
def lay2 (xs : List Int) (at_ : Nat) (n : Int) : List Int := xs.take at_ ++ putB n 2 ++ xs.drop (at_ + 2)
theorem lay2_length (xs : List Int) (at_ : Nat) (n : Int) (h : at_ + 2 ≤ xs.length) : (lay2 xs at_ n).length = xs.length := by
  unfold lay2; simp only [List.length_append, List.length_take, List.length_drop, putB_length]; omega
def head_lay.f (l0 : List Int) (a1 : Int) (a2 : Int) : Option Unit := none
set_option maxHeartbeats 4000000 in
set_option maxRecDepth 100000 in
theorem head_lay_any (g cap : Nat) (xs : List Int) (m : Nat) (hm : xs.length = m) (at_ : Nat) (a : Int) (ha : a = at_) (n : Int) (w : World) (base : Nat) (ok : Nat → Prop) (hat : at_ + 2 ≤ m) (hi : inI n) (hbig : at_ ≤ 1000)
    (HO : Kd.R (Kd.int .u8) 5 w base ok (.slice (some ⟨g, 0, none⟩) m cap) xs) :
    Calls Tryd.prog 41 #[.slice (some ⟨g, 0, none⟩) m cap, .int .i64 a, .int .i64 n] w fun e w' => e = .returned (.tuple #[]) ∧ Kd.R (Kd.int .u8) 5 w' base ok (.slice (some ⟨g, 0, none⟩) m cap) (lay2 xs at_ n) ∧ w.grownBy w' (some g) := by
  subst ha
  have HO1 := Aside0.mk HO
  have HM := Aside0.mk hm
  have hc : m ≤ cap := by exact (Kd.R_reads' HO).2.1
  have HI := Aside0.mk hi
  have HP := Aside0.mk (show be_Put.f n 2 = some (putB n 2) by unfold be_Put.f; rw [if_pos ⟨hi, by decide⟩]; rfl)
  have hw2 : IntKind.i64.wrap ((at_ : Int) + 2) = (at_ : Int) + 2 := by rw [IntWalk.i64_in _ ⟨by omega, by omega⟩]
  have hw3 : ((at_ : Int) + 2).toNat = at_ + 2 := by omega
  have hle : (at_ : Int) + 2 ≤ (cap : Int) := by omega
  have hle0 : 0 ≤ (at_ : Int) + 2 := by omega
  have hne : ¬ cap = at_ := by omega
  clear HO hm hi hbig
  go_enter Tryd.func41, Tryd.ntmps41
  go_wp2
  go_region_law (first
    | (go_simp; go_at_call 73; (with_reducible refine (be_Put.calls n 2 (putB n 2) _ HP.out).mono ?_); rintro e w1 ⟨v0, rfl, hr1, hb1⟩; obtain ⟨Ay, cy, hv, hly, hCy⟩ := Kd.R_reads hr1; rw [putB_length] at hv hCy hly; subst hv)
    | (refine R_copy_at_step (P := Tryd.prog) (enc := Value.int .u8) (h1 := fun _ => rfl) (0 : Int) base ?cw (.tmp 10) (.tmp 12) 22 22 5 rfl Tryd.underlying22 (by kernel_rfl) (.slice (some ⟨g, 0, none⟩) m cap) xs (putB n 2) Ay (some ⟨g, at_, none⟩) 2 cy 2 (cap - at_) at_ ok ?cs ?cx ?cD ?cF ?cO ?cR ?_; (case cw => rfl); (case cs => rfl); (case cx => rfl); (case cD => exact fun g' n' c' he _ => by injection he with he _ _; injection he with he; injection he with he _ _; rw [he]); (case cF => have := HM.out; omega); (case cO => exact Kd.R_below (Kd.R_drew HO1.out) hb1); (case cR => exact hCy); intro w2 hr2 hg2))
  go_end0
  refine ⟨rfl, ?_, World.grownBy.trans (grown_of_below (below_step (below_drew (Below.refl _ _)) hb1) _) hg2⟩
  exact hr2


end Go.Proofs.YtcclmaicdmogjaaDoor.P

-- Written by wip/pr.py over the kit's print
namespace Go.Proofs.YtcclmaicdmogjaaDoor.P
open Go.RowKit Go.Proofs.YtcclmaicdmogjaaDoorW.PrintWords Go.Proofs.YtcclmaicdmogjaaDoorW.PrintLast Go.Proofs.YtcclmaicdmogjaaDoorW.PrintMore
attribute [local go_sem] max2_int min2_int max_two min_two max_three min_three max_four min_four   -- for this text's walks alone
set_option linter.unusedVariables false
set_option linter.unusedSimpArgs false

/-! ### head_PutCount: function 16 (by hand) -/
-- FUNC calamus/head.PutCount
-- ROUNDS no
-- MAKES yes
-- INFO uint8
def head_PutCount.f (l0 : List Int) (a1 : Int) : Option (List Int × Int) :=
  if l0.length < 140737488355328 ∧ inI a1 then (if l0.length < 36 then some ([], 3) else if a1 < 1 ∨ a1 > 65535 then some ([], 6) else some (lay2 l0 34 a1, 0)) else none
theorem ask_short (l0 : List Int) (n : Int) (h : (l0.length : Int) < n) : head_ask.f l0 n = some 3 := by unfold head_ask.f; rw [if_pos h]
theorem ask_ok (l0 : List Int) (n : Int) (h : ¬ (l0.length : Int) < n) : head_ask.f l0 n = some 0 := by unfold head_ask.f; rw [if_neg h]
set_option maxHeartbeats 4000000 in
set_option maxRecDepth 100000 in
theorem head_PutCount.calls (A0 : Option Addr) (c0 : Nat) (l0 : List Int) (a1 : Int) (r1 : List Int) (r2 : Int) (w : World) (hr0 : Kd.C (Kd.int .u8) w A0 l0.length l0) (hc0 : l0.length ≤ c0) (h : head_PutCount.f l0 a1 = some (r1, r2)) :
    Calls Tryd.prog 16 #[.slice A0 l0.length c0, .int .i64 a1] w fun e w' => ∃ v0_ : Value, e = .returned (.tuple #[v0_, .int .i64 r2]) ∧ Kd.R (Kd.int .u8) 5 w' w.heap.size (fun _ => True) v0_ r1 ∧ Below w.heap.size w w' := by
  have HC := Aside0.mk hr0
  have HL := Aside0.mk hc0
  have HB := Aside0.mk (Below.refl w.heap.size w)
  unfold head_PutCount.f at h
  split at h
  case isFalse => cases h
  rename_i hg
  obtain ⟨hmax, hi⟩ := hg
  have HI := Aside0.mk hi
  clear hr0 hc0 hi
  by_cases h36 : l0.length < 36
  · rw [if_pos h36] at h
    simp only [Option.some.injEq, Prod.mk.injEq] at h
    obtain ⟨rfl, rfl⟩ := h
    have HA := Aside0.mk (ask_short l0 36 (by omega))
    clear h36
    go_enter Tryd.func16, Tryd.ntmps16
    go_wp2_with (go_at_call 40; (with_reducible refine (head_ask.calls _ _ l0 36 3 _ HC.out HL.out HA.out).mono ?_); rintro e w' ⟨rfl, ⟨nd, rfl⟩⟩)
    go_ret2
    exact ⟨_, rfl, Kd.R_nil _ _ _ _ _, pw_below_drewN HB.out nd⟩
  rw [if_neg h36] at h
  have HA := Aside0.mk (ask_ok l0 36 (by omega))
  by_cases h1 : a1 < 1
  · rw [if_pos (.inl h1)] at h
    simp only [Option.some.injEq, Prod.mk.injEq] at h
    obtain ⟨rfl, rfl⟩ := h
    go_enter Tryd.func16, Tryd.ntmps16
    go_wp2_with (go_at_call 40; (with_reducible refine (head_ask.calls _ _ l0 36 0 _ HC.out HL.out HA.out).mono ?_); rintro e w' ⟨rfl, ⟨nd, rfl⟩⟩)
    go_ret2
    exact ⟨_, rfl, Kd.R_nil _ _ _ _ _, pw_below_drewN HB.out nd⟩
  by_cases h2 : a1 > 65535
  · rw [if_pos (.inr h2)] at h
    simp only [Option.some.injEq, Prod.mk.injEq] at h
    obtain ⟨rfl, rfl⟩ := h
    have h2' : 65535 < a1 := h2
    go_enter Tryd.func16, Tryd.ntmps16
    go_wp2_with (go_at_call 40; (with_reducible refine (head_ask.calls _ _ l0 36 0 _ HC.out HL.out HA.out).mono ?_); rintro e w' ⟨rfl, ⟨nd, rfl⟩⟩)
    go_ret2
    exact ⟨_, rfl, Kd.R_nil _ _ _ _ _, pw_below_drewN HB.out nd⟩
  rw [if_neg (by omega)] at h
  simp only [Option.some.injEq, Prod.mk.injEq] at h
  obtain ⟨hr, rfl⟩ := h
  have HR := Aside0.mk hr
  have h1' : 1 ≤ a1 := by omega
  have h2' : a1 ≤ 65535 := by omega
  have H36 := Aside0.mk h36
  clear h1 h2 hr h36
  go_enter Tryd.func16, Tryd.ntmps16
  go_wp2_with (first
    | (go_at_call 40; (with_reducible refine (head_ask.calls _ _ l0 36 0 _ HC.out HL.out HA.out).mono ?_); rintro e w' ⟨rfl, ⟨nd, rfl⟩⟩)
    | ((with_reducible refine gate_dst (N := 19) rfl ?_); refine Kd.R_lit (Kd.int .u8) _ 5 ?hg (N := 19) ?hd (xs := ([] : List Int)) (inner := []) (ok := fun _ => True) (okp := fun _ => True) ?hr ?hp (fun _ hk => hk) trivial (Below.refl _ _) (Nat.le_refl _) (by simp) ?_; (case hd => rfl); (case hg => rfl); (case hr => first | (go_simp; done) | (go_simp; rfl)); (case hp => exact (Reps.none _ _)); intro v102 w3 ho4 hb hg_ hnew_; clear hg_ hnew_; have HB3 := Aside0.mk (below_step (pw_below_drewN HB.out nd) hb); have HO3 := Aside0.mk (Kd.R_lower ho4 (below_size (pw_below_drewN HB.out nd))); clear hb ho4)
    | ((with_reducible refine gate_builtin (b := .append) (xs := #[.tmp 19, .tmp 20]) rfl ?_); at_builtin; refine Kd.R_append_rows (Kd.int .u8) (w0 := w) w.heap.size rfl (.tmp 19) (.tmp 20) 22 5 (.int .u8 0) 1 rfl Tryd.underlying22 info5 rfl (by decide) (by omega) v102 ([] : List Int) l0 _ _ _ (fun _ => True) (fun _ => False) rfl rfl HO3.out (Kd.C_below HC.out HB3.out) (fun _ _ h => h) (fun _ h => h.elim) (fun _ _ => trivial) HB3.out (below_size HB3.out) (by simp only [List.length_nil]; omega) ?_; intro v105 w5 ho hb _ _; rw [List.nil_append] at ho; obtain ⟨g, cap, hv, hgb, hgl, hcells⟩ := Kd.R_form ho (by have := H36.out; omega); subst hv; have HO := Aside0.mk ho; have HB5 := Aside0.mk hb; have HGB := Aside0.mk hgb; clear HB3 HO3 ho hb hgb hgl hcells)
    | (go_at_call 41; (with_reducible refine (head_lay_any g cap l0 _ rfl 34 34 rfl a1 _ w.heap.size (fun _ => True) ?ul HI.out (by omega) HO.out).mono ?_); (case ul => have := H36.out; omega); rintro e w7 ⟨rfl, ho7, hg7⟩; have HO7 := Aside0.mk ho7; have HB7 := Aside0.mk (HB5.out.grown hg7 (below_size HB5.out) (fun k hk => by injection hk with hk; rw [← hk]; exact HGB.out)); clear ho7 hg7))
  go_ret2
  refine ⟨_, rfl, ?_, HB7.out⟩
  have h9 := HO7.out
  rw [← HR.out]
  exact h9


end Go.Proofs.YtcclmaicdmogjaaDoor.P

-- Written by wip/pr.py over the kit's print
namespace Go.Proofs.YtcclmaicdmogjaaDoor.P
open Go.RowKit Go.Proofs.YtcclmaicdmogjaaDoorW.PrintWords Go.Proofs.YtcclmaicdmogjaaDoorW.PrintLast Go.Proofs.YtcclmaicdmogjaaDoorW.PrintMore
attribute [local go_sem] max2_int min2_int max_two min_two max_three min_three max_four min_four   -- for this text's walks alone
set_option linter.unusedVariables false
set_option linter.unusedSimpArgs false

/-! ### head_PutMaxp: function 14 (by hand) -/
-- FUNC calamus/head.PutMaxp
-- ROUNDS no
-- MAKES yes
-- INFO uint8
-- GLOBAL yes
-- NEEDS boxlaw
/-- Where maxp's numbers stand, as the program's variable holds them. -/
def placesL : List Int := [4, 6, 8, 10, 12, 28, 30]
def PL (w : World) : Prop := w.cell? ⟨0, 0, none⟩ = some (.int .i64 4) ∧ w.cell? ⟨0, 1, none⟩ = some (.int .i64 6) ∧ w.cell? ⟨0, 2, none⟩ = some (.int .i64 8) ∧ w.cell? ⟨0, 3, none⟩ = some (.int .i64 10) ∧ w.cell? ⟨0, 4, none⟩ = some (.int .i64 12) ∧ w.cell? ⟨0, 5, none⟩ = some (.int .i64 28) ∧ w.cell? ⟨0, 6, none⟩ = some (.int .i64 30)
theorem PL_below {w w' : World} (h : PL w) (hb : Below w.heap.size w w') : PL w' :=
  ⟨pw_cell_below hb h.1, pw_cell_below hb h.2.1, pw_cell_below hb h.2.2.1, pw_cell_below hb h.2.2.2.1, pw_cell_below hb h.2.2.2.2.1, pw_cell_below hb h.2.2.2.2.2.1, pw_cell_below hb h.2.2.2.2.2.2⟩
theorem PL_at {w : World} (h : PL w) (k : Nat) (hk : k < 7) : w.cell? ⟨0, k, none⟩ = some (.int .i64 (placesL.getD k 0)) := by
  obtain ⟨h0, h1, h2, h3, h4, h5, h6⟩ := h
  match k, hk with
  | 0, _ => exact h0
  | 1, _ => exact h1
  | 2, _ => exact h2
  | 3, _ => exact h3
  | 4, _ => exact h4
  | 5, _ => exact h5
  | 6, _ => exact h6
theorem places_bd (k : Nat) (hk : k < 7) : 4 ≤ placesL.getD k 0 ∧ placesL.getD k 0 ≤ 30 := by
  match k, hk with
  | 0, _ => exact ⟨by decide, by decide⟩
  | 1, _ => exact ⟨by decide, by decide⟩
  | 2, _ => exact ⟨by decide, by decide⟩
  | 3, _ => exact ⟨by decide, by decide⟩
  | 4, _ => exact ⟨by decide, by decide⟩
  | 5, _ => exact ⟨by decide, by decide⟩
  | 6, _ => exact ⟨by decide, by decide⟩
def okM (n : Int) : Prop := 0 ≤ n ∧ n ≤ 65535
instance (n : Int) : Decidable (okM n) := inferInstanceAs (Decidable (_ ∧ _))
def layM (l vs : List Int) : Nat → List Int
  | 0 => l
  | k + 1 => lay2 (layM l vs k) (placesL.getD k 0).toNat (vs.getD k 0)
theorem layM_length (l vs : List Int) (h : 32 ≤ l.length) (k : Nat) (hk : k ≤ 7) : (layM l vs k).length = l.length := by
  induction k with
  | zero => rfl
  | succ k ih =>
    have := places_bd k (by omega)
    rw [layM, lay2_length _ _ _ (by rw [ih (by omega)]; omega)]; exact ih (by omega)
def putMaxpR (l0 : List Int) (b0 b1 b2 b3 b4 b5 b6 : Int) : List Int × Int :=
  if l0.length < 32 then ([], 3) else if okM b0 ∧ okM b1 ∧ okM b2 ∧ okM b3 ∧ okM b4 ∧ okM b5 ∧ okM b6 then (layM l0 [b0, b1, b2, b3, b4, b5, b6] 7, 0) else ([], 6)
def head_PutMaxp.f (l0 : List Int) (b0 b1 b2 b3 b4 b5 b6 : Int) : Option (List Int × Int) :=
  if l0.length < 140737488355328 ∧ inI b0 ∧ inI b1 ∧ inI b2 ∧ inI b3 ∧ inI b4 ∧ inI b5 ∧ inI b6 then some (putMaxpR l0 b0 b1 b2 b3 b4 b5 b6) else none
theorem all7 (p : Int → Prop) (b0 b1 b2 b3 b4 b5 b6 : Int) (h : p b0 ∧ p b1 ∧ p b2 ∧ p b3 ∧ p b4 ∧ p b5 ∧ p b6) (k : Nat) (hk : k < 7) : p ([b0, b1, b2, b3, b4, b5, b6].getD k 0) := by
  match k, hk with
  | 0, _ => exact h.1
  | 1, _ => exact h.2.1
  | 2, _ => exact h.2.2.1
  | 3, _ => exact h.2.2.2.1
  | 4, _ => exact h.2.2.2.2.1
  | 5, _ => exact h.2.2.2.2.2.1
  | 6, _ => exact h.2.2.2.2.2.2
set_option maxRecDepth 100000 in
theorem idx7 (b0 b1 b2 b3 b4 b5 b6 : Int) (k : Nat) (hk : k < 7) : ∀ W : World, (Instr.index 75 (.agg #[.int .i64 b0, .int .i64 b1, .int .i64 b2, .int .i64 b3, .int .i64 b4, .int .i64 b5, .int .i64 b6]) (.int .i64 (k : Int))).run Tryd.prog W = .ok (.int .i64 ([b0, b1, b2, b3, b4, b5, b6].getD k 0)) W := by
  match k, hk with
  | 0, _ => exact fun W => by kernel_rfl
  | 1, _ => exact fun W => by kernel_rfl
  | 2, _ => exact fun W => by kernel_rfl
  | 3, _ => exact fun W => by kernel_rfl
  | 4, _ => exact fun W => by kernel_rfl
  | 5, _ => exact fun W => by kernel_rfl
  | 6, _ => exact fun W => by kernel_rfl
/-- the box of a maxp -/
def mbox (b0 b1 b2 b3 b4 b5 b6 : Int) : Obj := .cells #[.int .i64 b0, .int .i64 b1, .int .i64 b2, .int .i64 b3, .int .i64 b4, .int .i64 b5, .int .i64 b6] 24 (0, 0)
theorem cell_m {W : World} {gb : Nat} {b0 b1 b2 b3 b4 b5 b6 : Int} (h : W.heap[gb]? = some (mbox b0 b1 b2 b3 b4 b5 b6)) :
    W.cell? ⟨gb, 0, none⟩ = some (.int .i64 b0) ∧ W.cell? ⟨gb, 1, none⟩ = some (.int .i64 b1) ∧ W.cell? ⟨gb, 2, none⟩ = some (.int .i64 b2) ∧ W.cell? ⟨gb, 3, none⟩ = some (.int .i64 b3) ∧ W.cell? ⟨gb, 4, none⟩ = some (.int .i64 b4) ∧ W.cell? ⟨gb, 5, none⟩ = some (.int .i64 b5) ∧ W.cell? ⟨gb, 6, none⟩ = some (.int .i64 b6) := by
  unfold mbox at h
  exact ⟨(blk_cell h 0).trans rfl, (blk_cell h 1).trans rfl, (blk_cell h 2).trans rfl, (blk_cell h 3).trans rfl, (blk_cell h 4).trans rfl, (blk_cell h 5).trans rfl, (blk_cell h 6).trans rfl⟩
set_option maxHeartbeats 4000000 in
set_option maxRecDepth 100000 in
theorem head_PutMaxp_short (A0 : Option Addr) (c0 : Nat) (l0 : List Int) (b0 b1 b2 b3 b4 b5 b6 : Int) (w : World) (HC : Aside0 (Kd.C (Kd.int .u8) w A0 l0.length l0)) (HL : Aside0 (l0.length ≤ c0)) (h : l0.length < 32) :
    Calls Tryd.prog 14 #[.slice A0 l0.length c0, .agg #[.int .i64 b0, .int .i64 b1, .int .i64 b2, .int .i64 b3, .int .i64 b4, .int .i64 b5, .int .i64 b6]] w fun e w' => ∃ v0_ : Value, e = .returned (.tuple #[v0_, .int .i64 3]) ∧ Kd.R (Kd.int .u8) 5 w' w.heap.size (fun _ => True) v0_ [] ∧ Below w.heap.size w w' := by
  have HA := Aside0.mk (ask_short l0 32 (by omega))
  have HB := Aside0.mk (Below.refl w.heap.size w)
  clear h
  go_enter Tryd.func14, Tryd.ntmps14
  go_wp2_with (go_at_call 40; (with_reducible refine (head_ask.calls _ _ l0 32 3 _ (Kd.C_alloc HC.out _) HL.out HA.out).mono ?_); rintro e w' ⟨rfl, ⟨nd, rfl⟩⟩)
  go_ret2
  exact ⟨_, rfl, Kd.R_nil _ _ _ _ _, pw_below_drewN (below_alloc HB.out _) nd⟩
set_option maxHeartbeats 8000000 in
set_option maxRecDepth 100000 in
theorem head_PutMaxp_ok (A0 : Option Addr) (c0 : Nat) (l0 : List Int) (b0 b1 b2 b3 b4 b5 b6 : Int) (w : World) (HG : Aside0 (PL w)) (HC : Aside0 (Kd.C (Kd.int .u8) w A0 l0.length l0)) (HL : Aside0 (l0.length ≤ c0)) (hmax : l0.length < 140737488355328) (h : ¬ l0.length < 32)
    (HI : Aside0 (inI b0 ∧ inI b1 ∧ inI b2 ∧ inI b3 ∧ inI b4 ∧ inI b5 ∧ inI b6)) (r1 : List Int) (r2 : Int) (HRY : Aside0 (okM b0 ∧ okM b1 ∧ okM b2 ∧ okM b3 ∧ okM b4 ∧ okM b5 ∧ okM b6 → r1 = layM l0 [b0, b1, b2, b3, b4, b5, b6] 7 ∧ r2 = 0)) (HRN : Aside0 (¬ (okM b0 ∧ okM b1 ∧ okM b2 ∧ okM b3 ∧ okM b4 ∧ okM b5 ∧ okM b6) → r1 = [] ∧ r2 = 6)) :
    Calls Tryd.prog 14 #[.slice A0 l0.length c0, .agg #[.int .i64 b0, .int .i64 b1, .int .i64 b2, .int .i64 b3, .int .i64 b4, .int .i64 b5, .int .i64 b6]] w fun e w' => ∃ v0_ : Value, e = .returned (.tuple #[v0_, .int .i64 r2]) ∧ Kd.R (Kd.int .u8) 5 w' w.heap.size (fun _ => True) v0_ r1 ∧ Below w.heap.size w w' := by
  have HA := Aside0.mk (ask_ok l0 32 (by omega))
  have H54 := Aside0.mk h
  have HB := Aside0.mk (Below.refl w.heap.size w)
  clear h
  obtain ⟨m, hm⟩ : ∃ m, l0.length = m := ⟨_, rfl⟩
  have HM := Aside0.mk hm
  have hm54 : 32 ≤ m := by have := H54.out; omega
  clear hm
  go_enter Tryd.func14, Tryd.ntmps14
  go_wp2_with (first
    | ((with_reducible refine gate_dst (N := 3) rfl ?_); refine box_event rfl (N := 3) rfl (cs := #[.int .i64 b0, .int .i64 b1, .int .i64 b2, .int .i64 b3, .int .i64 b4, .int .i64 b5, .int .i64 b6]) (t := 24) ?hr ?_; (case hr => first | (go_simp; done) | (go_simp; rfl)); intro gb hgb w1 hbx hb1; have HBX1 := Aside0.mk (show w1.heap[gb]? = some (mbox b0 b1 b2 b3 b4 b5 b6) from hbx); have HB1 := Aside0.mk hb1; clear hgb hbx hb1)
    | (go_at_call 40; (with_reducible refine (head_ask.calls _ _ l0 32 0 _ (Kd.C_below HC.out HB1.out) HL.out HA.out).mono ?_); rintro e w2 ⟨rfl, ⟨nd, hq⟩⟩; have HBX2 := Aside0.mk (blk_at hq.symm HBX1.out); have HB2 : Aside0 (Below w.heap.size w w2) := ⟨below_at hq.symm HB1.out⟩; clear hq HB1 HBX1)
    | ((with_reducible refine gate_dst (N := 15) rfl ?_); refine Kd.R_lit (Kd.int .u8) _ 5 ?hg (N := 15) ?hd (xs := ([] : List Int)) (inner := []) (ok := fun _ => True) (okp := fun _ => True) ?hr ?hp (fun _ hk => hk) trivial (Below.refl _ _) (Nat.le_refl _) (by simp) ?_; (case hd => rfl); (case hg => rfl); (case hr => first | (go_simp; done) | (go_simp; rfl)); (case hp => exact (Reps.none _ _)); intro v102 w3 ho4 hb hg_ hnew_; have HBX3 := Aside0.mk (blk_grown HBX2.out hg_ (by simp)); have HB3 := Aside0.mk (below_step HB2.out hb); have HO3 := Aside0.mk (Kd.R_lower ho4 (below_size HB2.out)); clear hb ho4 hg_ hnew_ HBX2)
    | ((with_reducible refine gate_builtin (b := .append) (xs := #[.tmp 15, .tmp 16]) rfl ?_); at_builtin; refine Kd.R_append_rows (Kd.int .u8) (w0 := w) w.heap.size rfl (.tmp 15) (.tmp 16) 22 5 (.int .u8 0) 1 rfl Tryd.underlying22 info5 rfl (by decide) (by omega) v102 ([] : List Int) l0 _ _ _ (fun _ => True) (fun _ => False) rfl rfl HO3.out (Kd.C_below HC.out HB3.out) (fun _ _ h => h) (fun _ h => h.elim) (fun _ _ => trivial) HB3.out (below_size HB3.out) (by simp only [List.length_nil]; omega) ?_; intro v105 w5 ho hb hg5 _; rw [List.nil_append] at ho; have HBX5 := Aside0.mk (blk_grown HBX3.out hg5 (Kd.R_ne HO3.out HBX3.out (by decide))); have HB5 := Aside0.mk hb; obtain ⟨hc0, hc1, hc2, hc3, hc4, hc5, hc6⟩ := cell_m HBX5.out; obtain ⟨g, cap, hv, hgb, hgl, cells, hcells⟩ := Kd.R_form ho (by have := H54.out; omega); rw [HM.out] at hv; subst hv; have HO5 := Aside0.mk ho; have HGB := Aside0.mk hgb; clear HO3 ho hb hg5 HBX3 hgb hgl hcells))
  go_loopg [33] 7 (fun kq v33 w' => ∃ (k : Nat), v33 = .int .i64 (k : Int) ∧ k ≤ 7 ∧ Aside0 (7 - k = kq) ∧ Aside0 (∀ j, j < k → okM ([b0, b1, b2, b3, b4, b5, b6].getD j 0)) ∧ Aside0 (Kd.R (Kd.int .u8) 5 w' w.heap.size (fun _ => True) (.slice (some ⟨g, 0, none⟩) m cap) (layM l0 [b0, b1, b2, b3, b4, b5, b6] k)) ∧ Aside0 (Below w.heap.size w w'))
  case atStart => exact ⟨0, rfl, by omega, ⟨rfl⟩, ⟨fun j hj => absurd hj (by omega)⟩, HO5, HB5⟩
  case round =>
    clear hc0 hc1 hc2 hc3 hc4 hc5 hc6
    obtain ⟨k, rfl, hk, HK, HA8, HO8, HB8⟩ := hrel
    by_cases hlt : k < 7
    · obtain ⟨v, hv⟩ : ∃ v, [b0, b1, b2, b3, b4, b5, b6].getD k 0 = v := ⟨_, rfl⟩
      have hix := idx7 b0 b1 b2 b3 b4 b5 b6 k hlt
      rw [hv] at hix
      have HV := Aside0.mk hv
      have HIv := Aside0.mk (show inI v from hv ▸ all7 inI b0 b1 b2 b3 b4 b5 b6 HI.out k hlt)
      clear hv
      obtain ⟨p, hp⟩ : ∃ p, placesL.getD k 0 = p := ⟨_, rfl⟩
      have hpl := PL_at (PL_below HG.out HB8.out) k hlt
      obtain ⟨hp1, hp2⟩ := places_bd k hlt
      rw [hp] at hpl hp1 hp2
      have HP := Aside0.mk hp
      clear hp
      obtain ⟨xs, hxs⟩ : ∃ xs, layM l0 [b0, b1, b2, b3, b4, b5, b6] k = xs := ⟨_, rfl⟩
      have HO9 : Aside0 (Kd.R (Kd.int .u8) 5 wr w.heap.size (fun _ => True) (.slice (some ⟨g, 0, none⟩) m cap) xs) := ⟨by rw [← hxs]; exact HO8.out⟩
      have HXL := Aside0.mk (show xs.length = m by rw [← hxs, layM_length _ _ (by have := H54.out; omega) k (by omega), HM.out])
      have HNX := Aside0.mk (show layM l0 [b0, b1, b2, b3, b4, b5, b6] (k + 1) = lay2 xs p.toNat v by rw [layM, hxs, HV.out, HP.out])
      clear hxs HO8
      by_cases hok : okM v
      · have HOK := Aside0.mk hok
        obtain ⟨hv1, hv2⟩ := hok
        go_wp2_with (go_at_call 41; (with_reducible refine (head_lay_any g cap xs _ HXL.out p.toNat p (by omega) v _ w.heap.size (fun _ => True) (by omega) HIv.out (by omega) HO9.out).mono ?_); rintro e w10 ⟨rfl, ho10, hg10⟩; have HO10 := Aside0.mk ho10; have HB10 := Aside0.mk (HB8.out.grown hg10 (below_size HB8.out) (fun k hk => by injection hk with hk; rw [← hk]; exact HGB.out)); clear ho10 hg10)
        go_roundg (7 - (k + 1))
        case measure => have := HK.out; omega
        case rel => exact ⟨k + 1, by go_num, by omega, ⟨rfl⟩, ⟨fun j hj => by
          rcases Nat.lt_or_ge j k with h | h
          · exact HA8.out j h
          · obtain rfl : j = k := by omega
            rw [HV.out]; exact HOK.out⟩, ⟨by rw [HNX.out]; exact HO10.out⟩, HB10⟩
      · have hbad : v < 0 ∨ 65535 < v := by unfold okM at hok; omega
        have HF := Aside0.mk (show ¬ (okM b0 ∧ okM b1 ∧ okM b2 ∧ okM b3 ∧ okM b4 ∧ okM b5 ∧ okM b6) from fun hc => hok (HV.out ▸ all7 okM b0 b1 b2 b3 b4 b5 b6 hc k hlt))
        clear hok
        rcases hbad with hbad | hbad
        all_goals
          go_wp2
          go_ret2
          obtain ⟨rfl, rfl⟩ := HRN.out HF.out
          exact ⟨_, rfl, Kd.R_nil _ _ _ _ _, HB8.out⟩
    · obtain rfl : k = 7 := by omega
      have HT := Aside0.mk (show okM b0 ∧ okM b1 ∧ okM b2 ∧ okM b3 ∧ okM b4 ∧ okM b5 ∧ okM b6 from ⟨HA8.out 0 (by omega), HA8.out 1 (by omega), HA8.out 2 (by omega), HA8.out 3 (by omega), HA8.out 4 (by omega), HA8.out 5 (by omega), HA8.out 6 (by omega)⟩)
      go_wp2
      go_ret2
      obtain ⟨rfl, rfl⟩ := HRY.out HT.out
      exact ⟨_, rfl, HO8.out, HB8.out⟩
theorem head_PutMaxp.calls (A0 : Option Addr) (c0 : Nat) (l0 : List Int) (b0 b1 b2 b3 b4 b5 b6 : Int) (r1 : List Int) (r2 : Int) (w : World) (hG_ : PL w) (hr0 : Kd.C (Kd.int .u8) w A0 l0.length l0) (hc0 : l0.length ≤ c0) (h : head_PutMaxp.f l0 b0 b1 b2 b3 b4 b5 b6 = some (r1, r2)) :
    Calls Tryd.prog 14 #[.slice A0 l0.length c0, .agg #[.int .i64 b0, .int .i64 b1, .int .i64 b2, .int .i64 b3, .int .i64 b4, .int .i64 b5, .int .i64 b6]] w fun e w' => ∃ v0_ : Value, e = .returned (.tuple #[v0_, .int .i64 r2]) ∧ Kd.R (Kd.int .u8) 5 w' w.heap.size (fun _ => True) v0_ r1 ∧ Below w.heap.size w w' := by
  unfold head_PutMaxp.f at h
  split at h
  case isFalse => cases h
  rename_i hg
  obtain ⟨hmax, hi⟩ := hg
  have h := Option.some.inj h
  unfold putMaxpR at h
  by_cases h1 : l0.length < 32
  · rw [if_pos h1] at h
    obtain ⟨rfl, rfl⟩ := Prod.mk.inj h
    exact head_PutMaxp_short A0 c0 l0 b0 b1 b2 b3 b4 b5 b6 w ⟨hr0⟩ ⟨hc0⟩ h1
  rw [if_neg h1] at h
  refine head_PutMaxp_ok A0 c0 l0 b0 b1 b2 b3 b4 b5 b6 w ⟨hG_⟩ ⟨hr0⟩ ⟨hc0⟩ hmax h1 ⟨hi⟩ r1 r2 ⟨fun hc => ?_⟩ ⟨fun hc => ?_⟩
  · rw [if_pos hc] at h
    obtain ⟨rfl, rfl⟩ := Prod.mk.inj h
    exact ⟨rfl, rfl⟩
  · rw [if_neg hc] at h
    obtain ⟨rfl, rfl⟩ := Prod.mk.inj h
    exact ⟨rfl, rfl⟩


end Go.Proofs.YtcclmaicdmogjaaDoor.P

-- Written by wip/pr.py over the kit's print
namespace Go.Proofs.YtcclmaicdmogjaaDoor.P
open Go.RowKit Go.Proofs.YtcclmaicdmogjaaDoorW.PrintWords Go.Proofs.YtcclmaicdmogjaaDoorW.PrintLast Go.Proofs.YtcclmaicdmogjaaDoorW.PrintMore
attribute [local go_sem] max2_int min2_int max_two min_two max_three min_three max_four min_four   -- for this text's walks alone
set_option linter.unusedVariables false
set_option linter.unusedSimpArgs false

/-! ### calamusref02_Copy: function 13 -/
def calamusref02_Copy.f (l0 : List Int) : Option (List Int) := (some (([] : List Int) : List Int)).bind fun y107 => (if y107.length + l0.length < 140737488355328 then (some (y107 ++ l0)) else (none))
set_option maxHeartbeats 8000000 in
set_option maxRecDepth 100000 in
theorem calamusref02_Copy.calls (A0 : Option Addr) (c0 : Nat) (l0 : List Int) (r : List Int) (w : World) (hr0 : Kd.C (Kd.int .u8) w A0 l0.length l0) (hc0 : l0.length ≤ c0) (h : calamusref02_Copy.f l0 = some r) :
    Calls Tryd.prog 13 #[.slice A0 l0.length c0] w fun e w' => ∃ v0_ : Value, e = .returned (v0_) ∧ Kd.R (Kd.int .u8) 5 w' w.heap.size (fun _ => True) v0_ r ∧ Below w.heap.size w w' := by
  have HR0 := Aside0.mk hr0
  have HC0 := Aside0.mk hc0
  clear hr0 hc0
  have HB := Aside0.mk (Below.refl w.heap.size w)
  have H : ((some (([] : List Int) : List Int)).bind fun y107 => (if y107.length + l0.length < 140737488355328 then (some (y107 ++ l0)) else (none))) = some r := h
  clear h
  obtain ⟨y107, hy107⟩ : ∃ y_ : List Int, y_ = (([] : List Int)) := ⟨_, rfl⟩
  replace H : (if y107.length + l0.length < 140737488355328 then (some (y107 ++ l0)) else (none)) = some r := by first | (rw [hy107]; with_reducible exact H) | (have H2_ := (Option.bind_some _ _).symm.trans H; rw [hy107]; with_reducible exact H2_) | (have H2_ := (Option.bind_some _ _).symm.trans H; with_reducible exact H2_) | with_reducible exact H | (rw [hy107]; exact H) | exact H
  have Ny107 := Aside0.mk hy107
  clear hy107
  by_cases c2 : y107.length + l0.length < 140737488355328
  · rw [if_pos c2] at H
    have LMc2 := Aside0.mk c2
    clear c2
    obtain ⟨y110, hy110⟩ : ∃ y_ : List Int, y_ = (y107 ++ l0) := ⟨_, rfl⟩
    replace H : (some y110) = some r := by first | (rw [hy110]; with_reducible exact H) | (have H2_ := (Option.bind_some _ _).symm.trans H; rw [hy110]; with_reducible exact H2_) | (have H2_ := (Option.bind_some _ _).symm.trans H; with_reducible exact H2_) | with_reducible exact H | (rw [hy110]; exact H) | exact H
    have Ny110 := Aside0.mk hy110
    clear hy110
    obtain rfl := Option.some.inj H
    go_enter Tryd.func13, Tryd.ntmps13
    go_wp2_with (first | ((with_reducible refine gate_dst (N := 3) rfl ?_); refine Kd.R_lit (Kd.int .u8) _ 5 ?hg (N := 3) ?hd (xs := ([] : List Int)) (inner := []) (ok := fun _ => True) (okp := fun _ => True) ?hr ?hp (fun _ hk => hk) trivial (Below.refl _ _) (Nat.le_refl _) (by simp) ?_; (case hd => rfl); (case hg => rfl); (case hr => first | (go_simp; done) | (go_simp; rfl)); (case hp => exact (Reps.none _ _)); intro v108 w3 ho4 hb hg_ hnew_; clear hg_ hnew_; (first | rw [← Ny107.out] at ho4 | (simp only [Int.reduceToNat] at ho4; rw [← Ny107.out] at ho4)); have n0_ := Aside0.mk (Kd.R_lower ho4 (below_size (by repeat (first | (with_reducible first | exact HB.out | apply below_alloc | apply pw_below_drewN | apply below_drew1) | exact HB.out)))); have n1_ := Aside0.mk (below_step (by repeat (first | (with_reducible first | exact HB.out | apply below_alloc | apply pw_below_drewN | apply below_drew1) | exact HB.out)) hb); clear HB; have HO109 := n0_; have HB := n1_; clear n0_ n1_; clear hb ho4) | ((with_reducible refine gate_builtin (b := .append) (xs := #[.tmp 3, .tmp 4]) rfl ?_); at_builtin; refine Kd.R_append_rows (Kd.int .u8) (w0 := w) w.heap.size rfl (.tmp 3) (.tmp 4) 22 5 (.int .u8 0) 1 rfl Tryd.underlying22 info5 rfl (by decide) (by omega) v108 y107 l0 _ _ _ (fun _ => True) (fun _ => False) rfl rfl ?aO ?aR (fun _ _ h => h) (fun _ h => h.elim) ?aF ?aB ?aS ?aL ?_; (case aR => repeat (first | exact (Kd.C_below HR0.out HB.out) | (with_reducible refine Kd.C_alloc ?_ _) | (with_reducible refine Kd.C_drewN ?_ _) | (with_reducible refine Kd.C_drew ?_))); (case aB => exact (by repeat (first | (with_reducible first | exact HB.out | apply below_alloc | apply pw_below_drewN | apply below_drew1) | exact HB.out))); (case aF => exact (fun _ _ => trivial)); (case aO => exact (by (with_reducible repeat (first | apply Kd.R_alloc | apply Kd.R_drewN | apply Kd.R_drew)); exact HO109.out)); (case aS => exact (below_size (by repeat (first | (with_reducible first | exact HB.out | apply below_alloc | apply pw_below_drewN | apply below_drew1) | exact HB.out)))); (case aL => have := LMc2.out; omega); intro v111 w5 ho hb hg hat; rw [← Ny110.out] at ho; have n0_ := Aside0.mk (hb); have n1_ := Aside0.mk (ho); clear HB; clear HO109; have HB := n0_; have HO112 := n1_; clear n0_ n1_; clear ho hb hg hat))
    go_ret
    exact ⟨_, by first | rfl | (simp [errW_none, errW_some] <;> rfl) | (simp [*, errW_none, errW_some] <;> rfl), by (with_reducible repeat (first | apply Kd.R_alloc | apply Kd.R_drewN | apply Kd.R_drew)); exact HO112.out, by repeat (first | (with_reducible first | exact HB.out | apply below_alloc | apply pw_below_drewN | apply below_drew1) | exact HB.out)⟩
  · rw [if_neg c2] at H
    exact absurd H (by simp)

end Go.Proofs.YtcclmaicdmogjaaDoor.P

-- Written by wip/pr.py over the kit's print
namespace Go.Proofs.YtcclmaicdmogjaaDoor.P
open Go.RowKit Go.Proofs.YtcclmaicdmogjaaDoorW.PrintWords Go.Proofs.YtcclmaicdmogjaaDoorW.PrintLast Go.Proofs.YtcclmaicdmogjaaDoorW.PrintMore
attribute [local go_sem] max2_int min2_int max_two min_two max_three min_three max_four min_four   -- for this text's walks alone
set_option linter.unusedVariables false
set_option linter.unusedSimpArgs false

/-! ### calamusref02_There: function 100 -/
def calamusref02_There.f (l0 : List Int) (a1 : Int) (a2 : Int) : Option (Bool) := if a1 ≥ 0 then (if a2 ≥ 0 then (if a1 ≤ (l0.length : Int) then (some (decide (a2 ≤ (wrap64 ((l0.length : Int) - a1))))) else (some false)) else (some false)) else (some false)
set_option maxHeartbeats 8000000 in
set_option maxRecDepth 100000 in
theorem calamusref02_There.calls (A0 : Option Addr) (c0 : Nat) (l0 : List Int) (a1 : Int) (a2 : Int) (r : Bool) (w : World) (hr0 : Kd.C (Kd.int .u8) w A0 l0.length l0) (hc0 : l0.length ≤ c0) (h : calamusref02_There.f l0 a1 a2 = some r) :
    Calls Tryd.prog 100 #[.slice A0 l0.length c0, .int .i64 a1, .int .i64 a2] w fun e w' => e = .returned (.bool r) ∧ Drawn0 w w' := by
  have HR0 := Aside0.mk hr0
  have HC0 := Aside0.mk hc0
  clear hr0 hc0
  have H : (if a1 ≥ 0 then (if a2 ≥ 0 then (if a1 ≤ (l0.length : Int) then (some (decide (a2 ≤ (wrap64 ((l0.length : Int) - a1))))) else (some false)) else (some false)) else (some false)) = some r := h
  clear h
  by_cases c4 : a1 ≥ 0
  · rw [if_pos c4] at H
    have c4b0 : decide (0 ≤ a1) = true := decide_eq_true c4
    clear c4
    by_cases c5 : a2 ≥ 0
    · rw [if_pos c5] at H
      have c5b0 : decide (0 ≤ a2) = true := decide_eq_true c5
      clear c5
      by_cases c6 : a1 ≤ (l0.length : Int)
      · rw [if_pos c6] at H
        have c6b0 : decide (a1 ≤ (l0.length : Int)) = true := decide_eq_true c6
        clear c6
        obtain rfl := Option.some.inj H
        go_enter Tryd.func100, Tryd.ntmps100
        go_wp2
        go_ret
        exact ⟨by first | rfl | (simp; done) | (simp [*]; done), by repeat (first | exact Drawn0.refl _ | apply Drawn0.step)⟩
      · rw [if_neg c6] at H
        have c6b0 : decide (a1 ≤ (l0.length : Int)) = false := decide_eq_false c6
        clear c6
        obtain rfl := Option.some.inj H
        go_enter Tryd.func100, Tryd.ntmps100
        go_wp2
        go_ret
        exact ⟨by first | rfl | (simp; done) | (simp [*]; done), by repeat (first | exact Drawn0.refl _ | apply Drawn0.step)⟩
    · rw [if_neg c5] at H
      have c5b0 : decide (0 ≤ a2) = false := decide_eq_false c5
      clear c5
      obtain rfl := Option.some.inj H
      go_enter Tryd.func100, Tryd.ntmps100
      go_wp2
      go_ret
      exact ⟨by first | rfl | (simp; done) | (simp [*]; done), by repeat (first | exact Drawn0.refl _ | apply Drawn0.step)⟩
  · rw [if_neg c4] at H
    have c4b0 : decide (0 ≤ a1) = false := decide_eq_false c4
    clear c4
    obtain rfl := Option.some.inj H
    go_enter Tryd.func100, Tryd.ntmps100
    go_wp2
    go_ret
    exact ⟨by first | rfl | (simp; done) | (simp [*]; done), by repeat (first | exact Drawn0.refl _ | apply Drawn0.step)⟩

end Go.Proofs.YtcclmaicdmogjaaDoor.P

-- Written by wip/pr.py over the kit's print
namespace Go.Proofs.YtcclmaicdmogjaaDoor.P
open Go.RowKit Go.Proofs.YtcclmaicdmogjaaDoorW.PrintWords Go.Proofs.YtcclmaicdmogjaaDoorW.PrintLast Go.Proofs.YtcclmaicdmogjaaDoorW.PrintMore
attribute [local go_sem] max2_int min2_int max_two min_two max_three min_three max_four min_four   -- for this text's walks alone
set_option linter.unusedVariables false
set_option linter.unusedSimpArgs false

/-! ### calamusref02_Lay: function 74 -/
def calamusref02_Lay.l0 : Nat → Int → List Int → List Int → Int → Int → Option (List Int × Int)
  | 0, _, _, _, _, _ => none
  | k + 1, x1, x2, x8, x19, x20 => if x20 < x19 then (if 0 ≤ x20 then (if x20 < (x2.length : Int) then (if 0 ≤ (wrap64 (x1 + x20)) then (if (wrap64 (x1 + x20)) < (x8.length : Int) then (calamusref02_Lay.l0 k x1 x2 (x8.set ((wrap64 (x1 + x20)) : Int).toNat (rd x2 x20)) x19 (wrap64 (x20 + 1))) else (none)) else (none)) else (none)) else (none)) else (some (x8, 0))
def calamusref02_Lay.f (k : Nat) (l0 : List Int) (a1 : Int) (l2 : List Int) : Option (List Int × Int) := (calamusref02_There.f l0 a1 (l2.length : Int)).bind fun t113 => (if t113 = true then ((calamusref02_Copy.f l0).bind fun t114 => (calamusref02_Lay.l0 k a1 l2 t114 (l2.length : Int) 0)) else (some (([] : List Int), 3)))
theorem calamusref02_Lay.mono_l : ∀ k, (∀ y0 y1 y2 y3 y4, LeO (calamusref02_Lay.l0 k y0 y1 y2 y3 y4) (calamusref02_Lay.l0 (k + 1) y0 y1 y2 y3 y4))
  | 0 => fun _ _ _ _ _ r h => by simp [calamusref02_Lay.l0] at h
  | k + 1 => by
    have ih0 := calamusref02_Lay.mono_l k
    · intro y0 y1 y2 y3 y4
      unfold calamusref02_Lay.l0
      repeat' first
      | (with_reducible exact ih0 _ _ _ _ _)
      | (with_reducible exact LeO.refl _)
      | (with_reducible exact LeO.none _)
      | (with_reducible refine LeO.ite ?_ ?_)
      | (with_reducible refine LeO.bind ?_ (fun _ => ?_))
      | exact ih0 _ _ _ _ _
      | exact LeO.none _
      | refine LeO.ite ?_ ?_
      | refine LeO.bind ?_ (fun _ => ?_)
theorem calamusref02_Lay.mono : ∀ a0 a1 a2 k, LeO (calamusref02_Lay.f k a0 a1 a2) (calamusref02_Lay.f (k + 1) a0 a1 a2) := by
  intro a0 a1 a2 k
  have ih0 := calamusref02_Lay.mono_l k
  unfold calamusref02_Lay.f
  repeat' first
      | (with_reducible exact ih0 _ _ _ _ _)
      | (with_reducible exact LeO.refl _)
      | (with_reducible exact LeO.none _)
      | (with_reducible refine LeO.ite ?_ ?_)
      | (with_reducible refine LeO.bind ?_ (fun _ => ?_))
      | exact ih0 _ _ _ _ _
      | exact LeO.none _
      | refine LeO.ite ?_ ?_
      | refine LeO.bind ?_ (fun _ => ?_)
set_option maxHeartbeats 8000000 in
set_option maxRecDepth 100000 in
theorem calamusref02_Lay.calls (k : Nat) (A0 : Option Addr) (c0 : Nat) (l0 : List Int) (a1 : Int) (A2 : Option Addr) (c2 : Nat) (l2 : List Int) (r1 : List Int) (r2 : Int) (w : World) (hr0 : Kd.C (Kd.int .u8) w A0 l0.length l0) (hc0 : l0.length ≤ c0) (hr2 : Kd.C (Kd.int .u8) w A2 l2.length l2) (hc2 : l2.length ≤ c2) (h : calamusref02_Lay.f k l0 a1 l2 = some (r1, r2)) :
    Calls Tryd.prog 74 #[.slice A0 l0.length c0, .int .i64 a1, .slice A2 l2.length c2] w fun e w' => ∃ v0_ : Value, e = .returned (.tuple #[v0_, .int .i64 r2]) ∧ Kd.R (Kd.int .u8) 5 w' w.heap.size (fun _ => True) v0_ r1 ∧ Below w.heap.size w w' := by
  have HR0 := Aside0.mk hr0
  have HC0 := Aside0.mk hc0
  clear hr0 hc0
  have HR2 := Aside0.mk hr2
  have HC2 := Aside0.mk hc2
  clear hr2 hc2
  have HB := Aside0.mk (Below.refl w.heap.size w)
  have H : ((calamusref02_There.f l0 a1 (l2.length : Int)).bind fun t113 => (if t113 = true then ((calamusref02_Copy.f l0).bind fun t114 => (calamusref02_Lay.l0 k a1 l2 t114 (l2.length : Int) 0)) else (some (([] : List Int), 3)))) = some (r1, r2) := h
  clear h
  replace H := Option.bind_eq_some_iff.mp H
  obtain ⟨t113, A40, H⟩ := H
  replace H : (if t113 = true then ((calamusref02_Copy.f l0).bind fun t114 => (calamusref02_Lay.l0 k a1 l2 t114 (l2.length : Int) 0)) else (some (([] : List Int), 3))) = some (r1, r2) := H
  have A4 := Aside0.mk A40
  clear A40
  by_cases c5 : t113 = true
  · subst c5
    have H1 : ((calamusref02_Copy.f l0).bind fun t114 => (calamusref02_Lay.l0 k a1 l2 t114 (l2.length : Int) 0)) = some (r1, r2) := by rw [if_pos rfl] at H; exact H
    clear H
    have H := H1
    clear H1
    replace H := Option.bind_eq_some_iff.mp H
    obtain ⟨t114, A60, H⟩ := H
    replace H : (calamusref02_Lay.l0 k a1 l2 t114 (l2.length : Int) 0) = some (r1, r2) := H
    have A6 := Aside0.mk A60
    clear A60
    have H' := Aside0.mk H
    clear H
    go_enter Tryd.func74, Tryd.ntmps74
    go_wp2_with (first | ((with_reducible refine gate_callee (f := 100) rfl ?_); refine goesL_ (some 14) rfl rfl Tryd.func100 (by kernel_rfl) rfl #[.slice A0 l0.length c0, .int .i64 a1, .int .i64 (l2.length : Int)] rfl (by (try simp only [List.map_toArray, List.map_cons, List.map_nil]); first | done | rfl | (simp only [List.length_drop, List.length_take]; rfl)) ?_; (with_reducible refine (calamusref02_There.calls _ _ l0 a1 (l2.length : Int) true _ ?side1 ?side2 A4.out).mono ?_); (case side1 => repeat (first | exact HR0.out | (with_reducible refine Kd.C_alloc ?_ _) | (with_reducible refine Kd.C_drewN ?_ _) | (with_reducible refine Kd.C_drew ?_))); (case side2 => exact HC0.out); rintro e w' ⟨rfl, ⟨nd, rfl⟩⟩; refine ⟨_, rfl, ?_⟩) | ((with_reducible refine gate_callee (f := 13) rfl ?_); refine goesL_ (some 17) rfl rfl Tryd.func13 (by kernel_rfl) rfl #[.slice A0 l0.length c0] rfl (by (try simp only [List.map_toArray, List.map_cons, List.map_nil]); first | done | rfl | (simp only [List.length_drop, List.length_take]; rfl)) ?_; (with_reducible refine (calamusref02_Copy.calls _ _ l0 t114 _ ?side1 ?side2 A6.out).mono ?_); (case side1 => repeat (first | exact HR0.out | (with_reducible refine Kd.C_alloc ?_ _) | (with_reducible refine Kd.C_drewN ?_ _) | (with_reducible refine Kd.C_drew ?_))); (case side2 => exact HC0.out); rintro e w7 ⟨v115, rfl, ho0, hb⟩; refine ⟨_, rfl, ?_⟩; have n0_ := Aside0.mk (Kd.R_lower ho0 (below_size (by repeat (first | (with_reducible first | exact HB.out | apply below_alloc | apply pw_below_drewN | apply below_drew1) | exact HB.out)))); have n1_ := Aside0.mk (below_step (by repeat (first | (with_reducible first | exact HB.out | apply below_alloc | apply pw_below_drewN | apply below_drew1) | exact HB.out)) hb); clear HB; have HO116 := n0_; have HB := n1_; clear n0_ n1_; (try clear hb); (try clear hb2); (try clear hk); (try clear hi); (try clear ho0)))
    go_loopg [20] k (fun kq v20 w' => ∃ (x8_1 : List Int) (x20_1 : Int), v20 = .int .i64 x20_1 ∧ Aside0 (calamusref02_Lay.l0 kq a1 l2 x8_1 (l2.length : Int) x20_1 = some (r1, r2)) ∧ Aside0 (kq ≤ k) ∧ Aside0 (Kd.R (Kd.int .u8) 5 w' w.heap.size (fun _ => True) v115 x8_1) ∧ Aside0 (Below w.heap.size w w'))
    case atStart => exact ⟨(t114), (0), (by first | rfl | (simp; done) | (simp [*]; done)), H', ⟨Nat.le_refl _⟩, ⟨by (with_reducible repeat (first | apply Kd.R_alloc | apply Kd.R_drewN | apply Kd.R_drew)); exact HO116.out⟩, ⟨by repeat (first | (with_reducible first | exact HB.out | apply below_alloc | apply pw_below_drewN | apply below_drew1) | exact HB.out)⟩⟩
    case round =>
      clear H'
      try clear c1
      try clear c2
      try clear p2
      try clear c5
      try clear c7
      obtain ⟨x8_1, x20_1, rfl, HA, HK1, HO_8, HB⟩ := hrel
      cases gk with
      | zero => exact absurd HA.out (by simp [calamusref02_Lay.l0])
      | succ k1 =>
        have H := HA.out
        clear HA
        simp only [calamusref02_Lay.l0] at H
        by_cases c8 : x20_1 < (l2.length : Int)
        · rw [if_pos c8] at H
          have c8b0 : decide (x20_1 < (l2.length : Int)) = true := decide_eq_true c8
          clear c8
          by_cases c9 : 0 ≤ x20_1
          · rw [if_pos c9] at H
            have c9b0 : decide (0 ≤ x20_1) = true := decide_eq_true c9
            clear c9
            by_cases c10 : x20_1 < (l2.length : Int)
            · rw [if_pos c10] at H
              have c10b0 : decide (x20_1 < (l2.length : Int)) = true := decide_eq_true c10
              clear c10
              obtain ⟨ji11, hji11⟩ : ∃ j_ : Int, (wrap64 (a1 + x20_1)) = j_ := ⟨_, rfl⟩
              replace H : (if 0 ≤ (ji11) then (if (ji11) < (x8_1.length : Int) then (calamusref02_Lay.l0 k1 a1 l2 (x8_1.set ((ji11) : Int).toNat (rd l2 x20_1)) (l2.length : Int) (wrap64 (x20_1 + 1))) else (none)) else (none)) = some (r1, r2) := by first | (rw [hji11] at H; exact H) | (simp only [hji11] at H ⊢; exact H)
              have hji11w : (IntKind.i64.wrap (a1 + x20_1)) = ji11 := (i64_w _).trans hji11
              by_cases c12 : 0 ≤ (ji11)
              · rw [if_pos c12] at H
                have c12b0 : decide (0 ≤ (ji11)) = true := decide_eq_true c12
                clear c12
                by_cases c13 : (ji11) < (x8_1.length : Int)
                · rw [if_pos c13] at H
                  have c13b0 : decide ((ji11) < (x8_1.length : Int)) = true := decide_eq_true c13
                  clear c13
                  obtain ⟨y118, hy118⟩ : ∃ y_ : List Int, y_ = (x8_1.set ((ji11) : Int).toNat (rd l2 x20_1)) := ⟨_, rfl⟩
                  replace H : (calamusref02_Lay.l0 k1 a1 l2 y118 (l2.length : Int) (wrap64 (x20_1 + 1))) = some (r1, r2) := by first | (rw [hy118]; with_reducible exact H) | (have H2_ := (Option.bind_some _ _).symm.trans H; rw [hy118]; with_reducible exact H2_) | (have H2_ := (Option.bind_some _ _).symm.trans H; with_reducible exact H2_) | with_reducible exact H | (rw [hy118]; exact H) | exact H
                  have Ny118 := Aside0.mk hy118
                  clear hy118
                  have H' := Aside0.mk H
                  clear H
                  have p117 : 0 ≤ (x20_1 : Int) := of_decide_eq_true (by first | (with_reducible assumption) | assumption)
                  have q117 : x20_1 < (l2.length : Int) := of_decide_eq_true (by first | (with_reducible assumption) | assumption)
                  obtain ⟨ad117, e117, hx117_0⟩ := Kd.at_int HR2.out x20_1 p117 q117
                  cases e117
                  replace hx117_0 := (HB.out.cell (World.block_lt_of_cell? w _ hx117_0)).trans hx117_0
                  replace p117 := eq_true p117
                  replace q117 := eq_true q117
                  have p14 : 0 ≤ ((ji11) : Int) := of_decide_eq_true (by first | (with_reducible assumption) | assumption)
                  have q14 : ((ji11) : Int) < ((x8_1.length : Int) : Int) := of_decide_eq_true (by first | (with_reducible assumption) | assumption)
                  obtain ⟨go14, co14, eo14, gb14, gl14, cl14, HG14⟩ := Kd.R_form HO_8.out (by omega)
                  (first | cases eo14 | (injection eo14 with ea_ en_ ec_; (first | subst ea_ | (injection ea_ with ea_; subst ea_)); subst ec_; clear en_))
                  have GB14 := Aside0.mk gb14
                  have GG14 := Aside0.mk HG14
                  clear gb14 gl14 HG14
                  obtain ⟨hx14_0, hf14_0⟩ := Kd.R_celln 0 HO_8.out ((ji11) : Int) p14 q14
                  replace p14 := eq_true p14
                  replace q14 := eq_true q14
                  have HP15 := Kd.R_putg HO_8.out ((ji11) : Int) (rd l2 x20_1)
                  go_wp2_with (first | ((with_reducible refine gate_store (t := 5) (p := 31) rfl ?_); refine store_event (t := 5) (p := 31) (v := ?vo_w16) (w1 := (wr.setCell ⟨go14, ((ji11) : Int).toNat, none⟩ (.int .u8 (rd l2 x20_1)))) ?hg ?ho ?hn ?hr ?_; (case ho => rfl); (case hg => rfl); (case hn => rfl); (case hr => first | (go_simp; done) | (go_simp; rfl)); intro w16 hw; have hg : wr.grownBy w16 (some go14) := (by rw [hw]; exact HP15.2); have hp_ : Kd.R (Kd.int .u8) 5 w16 w.heap.size (fun _ => True) (.slice (some ⟨go14, 0, none⟩) x8_1.length co14) y118 := (by rw [hw, Ny118.out]; exact HP15.1); clear HP15; have n0_ := Aside0.mk (hp_); have n1_ := Aside0.mk ((by rw [hw]; exact below_set (HB.out) GB14.out : Below w.heap.size w w16)); clear HO_8; clear HB; have HO_8 := n0_; have HB := n1_; clear n0_ n1_; clear hg hw hp_))
                  go_roundg k1
                  case measure => have := HK1.out; omega
                  case rel => exact ⟨(y118), (wrap64 (x20_1 + 1)), (by first | rfl | (simp; done) | (simp [*]; done)), H', ⟨by have := HK1.out; omega⟩, ⟨by (with_reducible repeat (first | apply Kd.R_alloc | apply Kd.R_drewN | apply Kd.R_drew)); exact HO_8.out⟩, ⟨by repeat (first | (with_reducible first | exact HB.out | apply below_alloc | apply pw_below_drewN | apply below_drew1) | exact HB.out)⟩⟩
                · rw [if_neg c13] at H
                  exact absurd H (by simp)
              · rw [if_neg c12] at H
                exact absurd H (by simp)
            · rw [if_neg c10] at H
              exact absurd H (by simp)
          · rw [if_neg c9] at H
            exact absurd H (by simp)
        · rw [if_neg c8] at H
          have c8b0 : decide (x20_1 < (l2.length : Int)) = false := decide_eq_false c8
          clear c8
          simp only [Option.some.injEq, Prod.mk.injEq] at H
          obtain ⟨rfl, rfl⟩ := H
          go_wp2
          go_ret2
          exact ⟨_, by first | rfl | (simp [errW_none, errW_some] <;> rfl) | (simp [*, errW_none, errW_some] <;> rfl), by (with_reducible repeat (first | apply Kd.R_alloc | apply Kd.R_drewN | apply Kd.R_drew)); exact HO_8.out, by repeat (first | (with_reducible first | exact HB.out | apply below_alloc | apply pw_below_drewN | apply below_drew1) | exact HB.out)⟩
  · replace c5 := Bool.eq_false_iff.mpr c5
    subst c5
    have H1 : (some (([] : List Int), 3)) = some (r1, r2) := by rw [if_neg (show ¬ (false = true) by decide)] at H; exact H
    clear H
    have H := H1
    clear H1
    simp only [Option.some.injEq, Prod.mk.injEq] at H
    obtain ⟨rfl, rfl⟩ := H
    go_enter Tryd.func74, Tryd.ntmps74
    go_wp2_with (first | ((with_reducible refine gate_callee (f := 100) rfl ?_); refine goesL_ (some 14) rfl rfl Tryd.func100 (by kernel_rfl) rfl #[.slice A0 l0.length c0, .int .i64 a1, .int .i64 (l2.length : Int)] rfl (by (try simp only [List.map_toArray, List.map_cons, List.map_nil]); first | done | rfl | (simp only [List.length_drop, List.length_take]; rfl)) ?_; (with_reducible refine (calamusref02_There.calls _ _ l0 a1 (l2.length : Int) false _ ?side1 ?side2 A4.out).mono ?_); (case side1 => repeat (first | exact HR0.out | (with_reducible refine Kd.C_alloc ?_ _) | (with_reducible refine Kd.C_drewN ?_ _) | (with_reducible refine Kd.C_drew ?_))); (case side2 => exact HC0.out); rintro e w' ⟨rfl, ⟨nd, rfl⟩⟩; refine ⟨_, rfl, ?_⟩))
    go_ret2
    exact ⟨_, by first | rfl | (simp [errW_none, errW_some] <;> rfl) | (simp [*, errW_none, errW_some] <;> rfl), by first | exact Kd.R_nil _ _ _ _ _ | exact Kd.N_nil _ _ _ _ _ | exact Kd.V_nil _ _ _ _ _ | exact Kd.Q_nil _ _ _ _ _ | exact Kd.S_nil _ _ _ _ _, by repeat (first | (with_reducible first | exact HB.out | apply below_alloc | apply pw_below_drewN | apply below_drew1) | exact HB.out)⟩

end Go.Proofs.YtcclmaicdmogjaaDoor.P

-- Written by wip/pr.py over the kit's print
namespace Go.Proofs.YtcclmaicdmogjaaDoor.P
open Go.RowKit Go.Proofs.YtcclmaicdmogjaaDoorW.PrintWords Go.Proofs.YtcclmaicdmogjaaDoorW.PrintLast Go.Proofs.YtcclmaicdmogjaaDoorW.PrintMore
attribute [local go_sem] max2_int min2_int max_two min_two max_three min_three max_four min_four   -- for this text's walks alone
set_option linter.unusedVariables false
set_option linter.unusedSimpArgs false

/-! ### calamusref02_Put: function 75 -/
def calamusref02_Put.l0 : Nat → List Int → Int → Int → Option (List Int)
  | 0, _, _, _ => none
  | k + 1, x6, x7, x8 => if x8 ≥ 0 then (if 0 ≤ x8 then (if x8 < (x6.length : Int) then (calamusref02_Put.l0 k (x6.set (x8 : Int).toNat ((Int.tmod x7 256) % 256)) (IntKind.u64.wrap (Int.tdiv x7 256)) (wrap64 (x8 - 1))) else (none)) else (none)) else (some x6)
def calamusref02_Put.f (k : Nat) (a0 : Int) (a1 : Int) : Option (List Int) := if 0 ≤ (mx 0 (mn a1 8)) then (if (mx 0 (mn a1 8) : Int).toNat ≤ 281474976710656 then (calamusref02_Put.l0 k (List.replicate (mx 0 (mn a1 8) : Int).toNat 0) (IntKind.u64.wrap (a0)) ((mx 0 (mn a1 8)) - 1)) else (none)) else (none)
theorem calamusref02_Put.mono_l : ∀ k, (∀ y0 y1 y2, LeO (calamusref02_Put.l0 k y0 y1 y2) (calamusref02_Put.l0 (k + 1) y0 y1 y2))
  | 0 => fun _ _ _ r h => by simp [calamusref02_Put.l0] at h
  | k + 1 => by
    have ih0 := calamusref02_Put.mono_l k
    · intro y0 y1 y2
      unfold calamusref02_Put.l0
      repeat' first
      | (with_reducible exact ih0 _ _ _)
      | (with_reducible exact LeO.refl _)
      | (with_reducible exact LeO.none _)
      | (with_reducible refine LeO.ite ?_ ?_)
      | (with_reducible refine LeO.bind ?_ (fun _ => ?_))
      | exact ih0 _ _ _
      | exact LeO.none _
      | refine LeO.ite ?_ ?_
      | refine LeO.bind ?_ (fun _ => ?_)
theorem calamusref02_Put.mono : ∀ a0 a1 k, LeO (calamusref02_Put.f k a0 a1) (calamusref02_Put.f (k + 1) a0 a1) := by
  intro a0 a1 k
  have ih0 := calamusref02_Put.mono_l k
  unfold calamusref02_Put.f
  repeat' first
      | (with_reducible exact ih0 _ _ _)
      | (with_reducible exact LeO.refl _)
      | (with_reducible exact LeO.none _)
      | (with_reducible refine LeO.ite ?_ ?_)
      | (with_reducible refine LeO.bind ?_ (fun _ => ?_))
      | exact ih0 _ _ _
      | exact LeO.none _
      | refine LeO.ite ?_ ?_
      | refine LeO.bind ?_ (fun _ => ?_)
set_option maxHeartbeats 8000000 in
set_option maxRecDepth 100000 in
theorem calamusref02_Put.calls (k : Nat) (a0 : Int) (a1 : Int) (r : List Int) (w : World) (h : calamusref02_Put.f k a0 a1 = some r) :
    Calls Tryd.prog 75 #[.int .i64 a0, .int .i64 a1] w fun e w' => ∃ v0_ : Value, e = .returned (v0_) ∧ Kd.R (Kd.int .u8) 5 w' w.heap.size (fun _ => True) v0_ r ∧ Below w.heap.size w w' := by
  have HB := Aside0.mk (Below.refl w.heap.size w)
  have H : (if 0 ≤ (mx 0 (mn a1 8)) then (if (mx 0 (mn a1 8) : Int).toNat ≤ 281474976710656 then (calamusref02_Put.l0 k (List.replicate (mx 0 (mn a1 8) : Int).toNat 0) (IntKind.u64.wrap (a0)) ((mx 0 (mn a1 8)) - 1)) else (none)) else (none)) = some r := h
  clear h
  obtain ⟨ji3, hji3⟩ : ∃ j_ : Int, (mn a1 8) = j_ := ⟨_, rfl⟩
  replace H : (if 0 ≤ (mx 0 (ji3)) then (if (mx 0 (ji3) : Int).toNat ≤ 281474976710656 then (calamusref02_Put.l0 k (List.replicate (mx 0 (ji3) : Int).toNat 0) (IntKind.u64.wrap (a0)) ((mx 0 (ji3)) - 1)) else (none)) else (none)) = some r := by first | (rw [hji3] at H; exact H) | (simp only [hji3] at H ⊢; exact H)
  (try (have hji3h : ji3 ≤ 8 := by (rw [← hji3]; unfold mn; (repeat' split) <;> omega)))
  (try (have hji3g : ji3 ≤ 64 := by omega))
  have hji3_ : (if 8 < a1 then 8 else a1) = ji3 := hji3
  obtain ⟨ji4, hji4⟩ : ∃ j_ : Int, (mx 0 (ji3)) = j_ := ⟨_, rfl⟩
  replace H : (if 0 ≤ (ji4) then (if (ji4 : Int).toNat ≤ 281474976710656 then (calamusref02_Put.l0 k (List.replicate (ji4 : Int).toNat 0) (IntKind.u64.wrap (a0)) ((ji4) - 1)) else (none)) else (none)) = some r := by first | (rw [hji4] at H; exact H) | (simp only [hji4] at H ⊢; exact H)
  have hji4_ : (if 0 < (ji3) then (ji3) else 0) = ji4 := hji4
  by_cases c5 : 0 ≤ (ji4)
  · rw [if_pos c5] at H
    have c5b0 := eq_true c5
    have c5b1 : decide (0 ≤ (ji4)) = true := decide_eq_true c5
    clear c5
    by_cases c6 : (ji4 : Int).toNat ≤ 281474976710656
    · rw [if_pos c6] at H
      have c6b0 := eq_true c6
      have c6b1 : decide ((ji4 : Int).toNat ≤ 281474976710656) = true := decide_eq_true c6
      clear c6
      obtain ⟨y119, hy119⟩ : ∃ y_ : List Int, y_ = (List.replicate (ji4 : Int).toNat 0) := ⟨_, rfl⟩
      replace H : (calamusref02_Put.l0 k y119 (IntKind.u64.wrap (a0)) ((ji4) - 1)) = some r := by first | (rw [hy119]; with_reducible exact H) | (have H2_ := (Option.bind_some _ _).symm.trans H; rw [hy119]; with_reducible exact H2_) | (have H2_ := (Option.bind_some _ _).symm.trans H; with_reducible exact H2_) | with_reducible exact H | (rw [hy119]; exact H) | exact H
      have Ny119 := Aside0.mk hy119
      clear hy119
      have H' := Aside0.mk H
      clear H
      go_enter Tryd.func75, Tryd.ntmps75
      go_wp2_with (first | ((with_reducible refine gate_dst (N := 13) rfl ?_); refine Kd.R_make (Kd.int .u8) _ 5 rfl (N := 13) rfl 22 _ _ rfl ji4 rfl rfl Tryd.underlying22 (.int .u8 0) 1 info5 rfl (by decide) (by omega) 0 (ok := fun _ => True) (okp := fun _ => True) rfl (fun _ hk => hk) trivial (of_decide_eq_true (by first | (with_reducible assumption) | assumption)) (Nat.le_trans (Nat.mul_le_mul_right _ (of_decide_eq_true (by first | (with_reducible assumption) | assumption) : ji4.toNat ≤ 281474976710656)) (by omega)) (Below.refl _ _) (Nat.le_refl _) ?_; intro v120 w7 ho8 hb hg_ hnew_; clear hg_ hnew_; (first | rw [← Ny119.out] at ho8 | (simp only [Int.reduceToNat] at ho8; rw [← Ny119.out] at ho8)); have n0_ := Aside0.mk (Kd.R_lower ho8 (below_size (by repeat (first | (with_reducible first | exact HB.out | apply below_alloc | apply pw_below_drewN | apply below_drew1) | exact HB.out)))); have n1_ := Aside0.mk (below_step (by repeat (first | (with_reducible first | exact HB.out | apply below_alloc | apply pw_below_drewN | apply below_drew1) | exact HB.out)) hb); clear HB; have HO121 := n0_; have HB := n1_; clear n0_ n1_; clear hb ho8))
      go_loopg [7, 8] k (fun kq v7 v8 w' => ∃ (x6_1 : List Int) (x7_1 : Int) (x8_1 : Int), v7 = .int .u64 x7_1 ∧ v8 = .int .i64 x8_1 ∧ Aside0 (calamusref02_Put.l0 kq x6_1 x7_1 x8_1 = some r) ∧ Aside0 (kq ≤ k) ∧ Aside0 (Kd.R (Kd.int .u8) 5 w' w.heap.size (fun _ => True) v120 x6_1) ∧ Aside0 (Below w.heap.size w w'))
      case atStart => exact ⟨(y119), (IntKind.u64.wrap (a0)), ((ji4) - 1), (by first | rfl | (simp; done) | (simp [*]; done)), (by first | rfl | (simp; done) | (simp only [← hji4] <;> (first | rfl | simp)) | (simp [*]; done)), H', ⟨Nat.le_refl _⟩, ⟨by (with_reducible repeat (first | apply Kd.R_alloc | apply Kd.R_drewN | apply Kd.R_drew)); exact HO121.out⟩, ⟨by repeat (first | (with_reducible first | exact HB.out | apply below_alloc | apply pw_below_drewN | apply below_drew1) | exact HB.out)⟩⟩
      case round =>
        clear H'
        try clear p2
        try clear c5
        try clear c5b0
        try clear c5b1
        try clear c6
        try clear c6b0
        try clear c6b1
        try clear c7
        obtain ⟨x6_1, x7_1, x8_1, rfl, rfl, HA, HK1, HO_6, HB⟩ := hrel
        cases gk with
        | zero => exact absurd HA.out (by simp [calamusref02_Put.l0])
        | succ k1 =>
          have H := HA.out
          clear HA
          simp only [calamusref02_Put.l0] at H
          by_cases c9 : x8_1 ≥ 0
          · rw [if_pos c9] at H
            have c9b0 : decide (0 ≤ x8_1) = true := decide_eq_true c9
            clear c9
            by_cases c10 : 0 ≤ x8_1
            · rw [if_pos c10] at H
              have c10b0 : decide (0 ≤ x8_1) = true := decide_eq_true c10
              clear c10
              by_cases c11 : x8_1 < (x6_1.length : Int)
              · rw [if_pos c11] at H
                have c11b0 : decide (x8_1 < (x6_1.length : Int)) = true := decide_eq_true c11
                clear c11
                obtain ⟨y122, hy122⟩ : ∃ y_ : List Int, y_ = (x6_1.set (x8_1 : Int).toNat ((Int.tmod x7_1 256) % 256)) := ⟨_, rfl⟩
                replace H : (calamusref02_Put.l0 k1 y122 (IntKind.u64.wrap (Int.tdiv x7_1 256)) (wrap64 (x8_1 - 1))) = some r := by first | (rw [hy122]; with_reducible exact H) | (have H2_ := (Option.bind_some _ _).symm.trans H; rw [hy122]; with_reducible exact H2_) | (have H2_ := (Option.bind_some _ _).symm.trans H; with_reducible exact H2_) | with_reducible exact H | (rw [hy122]; exact H) | exact H
                have Ny122 := Aside0.mk hy122
                clear hy122
                have H' := Aside0.mk H
                clear H
                have p12 : 0 ≤ (x8_1 : Int) := of_decide_eq_true (by first | (with_reducible assumption) | assumption)
                have q12 : (x8_1 : Int) < ((x6_1.length : Int) : Int) := of_decide_eq_true (by first | (with_reducible assumption) | assumption)
                obtain ⟨go12, co12, eo12, gb12, gl12, cl12, HG12⟩ := Kd.R_form HO_6.out (by omega)
                (first | cases eo12 | (injection eo12 with ea_ en_ ec_; (first | subst ea_ | (injection ea_ with ea_; subst ea_)); subst ec_; clear en_))
                have GB12 := Aside0.mk gb12
                have GG12 := Aside0.mk HG12
                clear gb12 gl12 HG12
                obtain ⟨hx12_0, hf12_0⟩ := Kd.R_celln 0 HO_6.out (x8_1 : Int) p12 q12
                replace p12 := eq_true p12
                replace q12 := eq_true q12
                have HP13 := Kd.R_putg HO_6.out (x8_1 : Int) ((Int.tmod x7_1 256) % 256)
                go_wp2_with (first | ((with_reducible refine gate_store (t := 5) (p := 27) rfl ?_); refine store_event (t := 5) (p := 27) (v := ?vo_w14) (w1 := (wr.setCell ⟨go12, (x8_1 : Int).toNat, none⟩ (.int .u8 ((Int.tmod x7_1 256) % 256)))) ?hg ?ho ?hn ?hr ?_; (case ho => rfl); (case hg => rfl); (case hn => rfl); (case hr => first | (go_simp; done) | (go_simp; rfl)); intro w14 hw; have hg : wr.grownBy w14 (some go12) := (by rw [hw]; exact HP13.2); have hp_ : Kd.R (Kd.int .u8) 5 w14 w.heap.size (fun _ => True) (.slice (some ⟨go12, 0, none⟩) x6_1.length co12) y122 := (by rw [hw, Ny122.out]; exact HP13.1); clear HP13; have n0_ := Aside0.mk (hp_); have n1_ := Aside0.mk ((by rw [hw]; exact below_set (HB.out) GB12.out : Below w.heap.size w w14)); clear HO_6; clear HB; have HO_6 := n0_; have HB := n1_; clear n0_ n1_; clear hg hw hp_))
                go_roundg k1
                case measure => have := HK1.out; omega
                case rel => exact ⟨(y122), (IntKind.u64.wrap (Int.tdiv x7_1 256)), (wrap64 (x8_1 - 1)), (by first | rfl | (simp; done) | (simp [*]; done)), (by first | rfl | (simp; done) | (simp [*]; done)), H', ⟨by have := HK1.out; omega⟩, ⟨by (with_reducible repeat (first | apply Kd.R_alloc | apply Kd.R_drewN | apply Kd.R_drew)); exact HO_6.out⟩, ⟨by repeat (first | (with_reducible first | exact HB.out | apply below_alloc | apply pw_below_drewN | apply below_drew1) | exact HB.out)⟩⟩
              · rw [if_neg c11] at H
                exact absurd H (by simp)
            · rw [if_neg c10] at H
              exact absurd H (by simp)
          · rw [if_neg c9] at H
            have c9b0 : decide (0 ≤ x8_1) = false := decide_eq_false c9
            clear c9
            obtain rfl := Option.some.inj H
            go_wp2
            go_ret
            exact ⟨_, by first | rfl | (simp [errW_none, errW_some] <;> rfl) | (simp only [← hji3, ← hji4]; first | rfl | (simp [errW_none, errW_some] <;> rfl)) | (simp [*, errW_none, errW_some] <;> rfl), by (with_reducible repeat (first | apply Kd.R_alloc | apply Kd.R_drewN | apply Kd.R_drew)); exact HO_6.out, by repeat (first | (with_reducible first | exact HB.out | apply below_alloc | apply pw_below_drewN | apply below_drew1) | exact HB.out)⟩
    · rw [if_neg c6] at H
      exact absurd H (by simp)
  · rw [if_neg c5] at H
    exact absurd H (by simp)

end Go.Proofs.YtcclmaicdmogjaaDoor.P

-- Written by wip/pr.py over the kit's print
namespace Go.Proofs.YtcclmaicdmogjaaDoor.P
open Go.RowKit Go.Proofs.YtcclmaicdmogjaaDoorW.PrintWords Go.Proofs.YtcclmaicdmogjaaDoorW.PrintLast Go.Proofs.YtcclmaicdmogjaaDoorW.PrintMore
attribute [local go_sem] max2_int min2_int max_two min_two max_three min_three max_four min_four   -- for this text's walks alone
set_option linter.unusedVariables false
set_option linter.unusedSimpArgs false

/-! ### calamusref05_lay: function 42 -/
def calamusref05_lay.f (k : Nat) (l0 : List Int) (a1 : Int) (a2 : Int) : Option (List Int) := (calamusref02_Put.f k a2 2).bind fun t123 => ((calamusref02_Lay.f k l0 a1 t123).bind fun bt126 => (some bt126.1))
theorem calamusref05_lay.mono : ∀ a0 a1 a2 k, LeO (calamusref05_lay.f k a0 a1 a2) (calamusref05_lay.f (k + 1) a0 a1 a2) := by
  intro a0 a1 a2 k
  unfold calamusref05_lay.f
  repeat' first
      | (with_reducible exact calamusref02_Lay.mono _ _ _ _)
      | (with_reducible exact calamusref02_Put.mono _ _ _)
      | (with_reducible exact LeO.refl _)
      | (with_reducible exact LeO.none _)
      | (with_reducible refine LeO.ite ?_ ?_)
      | (with_reducible refine LeO.bind ?_ (fun _ => ?_))
      | exact calamusref02_Lay.mono _ _ _ _
      | exact calamusref02_Put.mono _ _ _
      | exact LeO.none _
      | refine LeO.ite ?_ ?_
      | refine LeO.bind ?_ (fun _ => ?_)
set_option maxHeartbeats 8000000 in
set_option maxRecDepth 100000 in
theorem calamusref05_lay.calls (k : Nat) (A0 : Option Addr) (c0 : Nat) (l0 : List Int) (a1 : Int) (a2 : Int) (r : List Int) (w : World) (hr0 : Kd.C (Kd.int .u8) w A0 l0.length l0) (hc0 : l0.length ≤ c0) (h : calamusref05_lay.f k l0 a1 a2 = some r) :
    Calls Tryd.prog 42 #[.slice A0 l0.length c0, .int .i64 a1, .int .i64 a2] w fun e w' => ∃ v0_ : Value, e = .returned (v0_) ∧ Kd.R (Kd.int .u8) 5 w' w.heap.size (fun _ => True) v0_ r ∧ Below w.heap.size w w' := by
  have HR0 := Aside0.mk hr0
  have HC0 := Aside0.mk hc0
  clear hr0 hc0
  have HB := Aside0.mk (Below.refl w.heap.size w)
  have H : ((calamusref02_Put.f k a2 2).bind fun t123 => ((calamusref02_Lay.f k l0 a1 t123).bind fun bt126 => (some bt126.1))) = some r := h
  clear h
  replace H := Option.bind_eq_some_iff.mp H
  obtain ⟨t123, A40, H⟩ := H
  replace H : ((calamusref02_Lay.f k l0 a1 t123).bind fun bt126 => (some bt126.1)) = some r := H
  have A4 := Aside0.mk A40
  clear A40
  replace H := Option.bind_eq_some_iff.mp H
  obtain ⟨⟨t126, t127⟩, A50, H⟩ := H
  replace H : (some t126) = some r := H
  have A5 := Aside0.mk A50
  clear A50
  obtain rfl := Option.some.inj H
  go_enter Tryd.func42, Tryd.ntmps42
  go_wp2_with (first | ((with_reducible refine gate_callee (f := 75) rfl ?_); refine goesL_ (some 13) rfl rfl Tryd.func75 (by kernel_rfl) rfl #[.int .i64 a2, .int .i64 2] rfl (by (try simp only [List.map_toArray, List.map_cons, List.map_nil]); first | done | rfl | (simp only [List.length_drop, List.length_take]; rfl)) ?_; (with_reducible refine (calamusref02_Put.calls k a2 2 t123 _ A4.out).mono ?_); rintro e w6 ⟨v124, rfl, ho0, hb⟩; refine ⟨_, rfl, ?_⟩; have n0_ := Aside0.mk (Kd.R_lower ho0 (below_size (by repeat (first | (with_reducible first | exact HB.out | apply below_alloc | apply pw_below_drewN | apply below_drew1) | exact HB.out)))); have n1_ := Aside0.mk (below_step (by repeat (first | (with_reducible first | exact HB.out | apply below_alloc | apply pw_below_drewN | apply below_drew1) | exact HB.out)) hb); clear HB; have HO125 := n0_; have HB := n1_; clear n0_ n1_; (try clear hb); (try clear hb2); (try clear hk); (try clear hi); (try clear ho0); obtain ⟨Ao7, co7, eo7⟩ := Kd.R_slice HO125.out; subst eo7) | ((with_reducible refine gate_callee (f := 74) rfl ?_); refine goesL_ (some 14) rfl rfl Tryd.func74 (by kernel_rfl) rfl #[.slice A0 l0.length c0, .int .i64 a1, .slice Ao7 t123.length co7] rfl (by (try simp only [List.map_toArray, List.map_cons, List.map_nil]); first | done | rfl | (simp only [List.length_drop, List.length_take]; rfl)) ?_; (with_reducible refine (calamusref02_Lay.calls k _ _ l0 a1 _ _ t123 t126 t127 _ ?side1 ?side2 ?side3 ?side4 A5.out).mono ?_); (case side1 => repeat (first | exact (Kd.C_below HR0.out HB.out) | (with_reducible refine Kd.C_alloc ?_ _) | (with_reducible refine Kd.C_drewN ?_ _) | (with_reducible refine Kd.C_drew ?_))); (case side2 => exact HC0.out); (case side3 => repeat (first | exact (Kd.R_reads' HO125.out).2.2 | (with_reducible refine Kd.C_alloc ?_ _) | (with_reducible refine Kd.C_drewN ?_ _) | (with_reducible refine Kd.C_drew ?_))); (case side4 => exact (Kd.R_reads' HO125.out).2.1); rintro e w8 ⟨v128, rfl, ho0, hb⟩; refine ⟨_, rfl, ?_⟩; have n0_ := Aside0.mk (Kd.R_elder' (by (with_reducible repeat (first | apply Kd.R_alloc | apply Kd.R_drewN | apply Kd.R_drew)); exact HO125.out) (Kd.R_base ho0) hb); have n1_ := Aside0.mk (Kd.R_lower (Kd.R_new' ho0 (Kd.R_lt (by (with_reducible repeat (first | apply Kd.R_alloc | apply Kd.R_drewN | apply Kd.R_drew)); exact HO125.out))) (below_size (by repeat (first | (with_reducible first | exact HB.out | apply below_alloc | apply pw_below_drewN | apply below_drew1) | exact HB.out)))); have n2_ := Aside0.mk (below_step (by repeat (first | (with_reducible first | exact HB.out | apply below_alloc | apply pw_below_drewN | apply below_drew1) | exact HB.out)) hb); clear HO125; clear HB; have HO125 := n0_; have HO129 := n1_; have HB := n2_; clear n0_ n1_ n2_; (try clear hb); (try clear hb2); (try clear hk); (try clear hi); (try clear ho0)))
  go_ret
  exact ⟨_, by first | rfl | (simp [errW_none, errW_some] <;> rfl) | (simp [*, errW_none, errW_some] <;> rfl), by (with_reducible repeat (first | apply Kd.R_alloc | apply Kd.R_drewN | apply Kd.R_drew)); exact Kd.R_mono HO129.out (fun _ hk => trivial), by repeat (first | (with_reducible first | exact HB.out | apply below_alloc | apply pw_below_drewN | apply below_drew1) | exact HB.out)⟩

end Go.Proofs.YtcclmaicdmogjaaDoor.P

-- Written by wip/pr.py over the kit's print
namespace Go.Proofs.YtcclmaicdmogjaaDoor.P
open Go.RowKit Go.Proofs.YtcclmaicdmogjaaDoorW.PrintWords Go.Proofs.YtcclmaicdmogjaaDoorW.PrintLast Go.Proofs.YtcclmaicdmogjaaDoorW.PrintMore
attribute [local go_sem] max2_int min2_int max_two min_two max_three min_three max_four min_four   -- for this text's walks alone
set_option linter.unusedVariables false
set_option linter.unusedSimpArgs false

/-! ### head_PutHead: function 19 (by hand) -/
-- FUNC calamus/head.PutHead
-- ROUNDS no
-- MAKES yes
-- INFO uint8
def okS (n : Int) : Prop := -32768 ≤ n ∧ n ≤ 32767
instance (n : Int) : Decidable (okS n) := inferInstanceAs (Decidable (_ ∧ _))
def layN (l vs : List Int) : Nat → List Int
  | 0 => l
  | k + 1 => lay2 (layN l vs k) (36 + 2 * k) (vs.getD k 0)
theorem layN_length (l vs : List Int) (h : 54 ≤ l.length) (k : Nat) (hk : k ≤ 4) : (layN l vs k).length = l.length := by
  induction k with
  | zero => rfl
  | succ k ih => rw [layN, lay2_length _ _ _ (by rw [ih (by omega)]; omega)]; exact ih (by omega)
def putHeadR (l0 : List Int) (b0 b1 b2 b3 b4 : Int) (b5 : Bool) : List Int × Int :=
  if l0.length < 54 then ([], 3) else if b0 < 16 ∨ b0 > 16384 then ([], 6) else if okS b1 ∧ okS b2 ∧ okS b3 ∧ okS b4 then (lay2 (layN (lay2 l0 18 b0) [b1, b2, b3, b4] 4) 50 (if b5 = true then 1 else 0), 0) else ([], 6)
def head_PutHead.f (l0 : List Int) (b0 b1 b2 b3 b4 : Int) (b5 : Bool) : Option (List Int × Int) :=
  if l0.length < 140737488355328 ∧ inI b0 ∧ inI b1 ∧ inI b2 ∧ inI b3 ∧ inI b4 then some (putHeadR l0 b0 b1 b2 b3 b4 b5) else none
set_option maxRecDepth 100000 in
theorem idx4 (b1 b2 b3 b4 : Int) (k : Nat) (hk : k < 4) : ∀ W : World, (Instr.index 78 (.agg #[.int .i64 b1, .int .i64 b2, .int .i64 b3, .int .i64 b4]) (.int .i64 (k : Int))).run Tryd.prog W = .ok (.int .i64 ([b1, b2, b3, b4].getD k 0)) W := by
  match k, hk with
  | 0, _ => exact fun W => by kernel_rfl
  | 1, _ => exact fun W => by kernel_rfl
  | 2, _ => exact fun W => by kernel_rfl
  | 3, _ => exact fun W => by kernel_rfl
/-- the box of a head -/
def hbox (b0 b1 b2 b3 b4 : Int) (b5 : Bool) : Obj := .cells #[.int .i64 b0, .int .i64 b1, .int .i64 b2, .int .i64 b3, .int .i64 b4, .bool b5] 37 (0, 0)
set_option maxHeartbeats 4000000 in
set_option maxRecDepth 100000 in
theorem head_PutHead_short (A0 : Option Addr) (c0 : Nat) (l0 : List Int) (b0 b1 b2 b3 b4 : Int) (b5 : Bool) (w : World) (HC : Aside0 (Kd.C (Kd.int .u8) w A0 l0.length l0)) (HL : Aside0 (l0.length ≤ c0)) (h : l0.length < 54) :
    Calls Tryd.prog 19 #[.slice A0 l0.length c0, .agg #[.int .i64 b0, .int .i64 b1, .int .i64 b2, .int .i64 b3, .int .i64 b4, .bool b5]] w fun e w' => ∃ v0_ : Value, e = .returned (.tuple #[v0_, .int .i64 3]) ∧ Kd.R (Kd.int .u8) 5 w' w.heap.size (fun _ => True) v0_ [] ∧ Below w.heap.size w w' := by
  have HA := Aside0.mk (ask_short l0 54 (by omega))
  have HB := Aside0.mk (Below.refl w.heap.size w)
  clear h
  go_enter Tryd.func19, Tryd.ntmps19
  go_wp2_with (go_at_call 40; (with_reducible refine (head_ask.calls _ _ l0 54 3 _ (Kd.C_alloc HC.out _) HL.out HA.out).mono ?_); rintro e w' ⟨rfl, ⟨nd, rfl⟩⟩)
  go_ret2
  exact ⟨_, rfl, Kd.R_nil _ _ _ _ _, pw_below_drewN (below_alloc HB.out _) nd⟩
theorem cell_h {W : World} {gb : Nat} {b0 b1 b2 b3 b4 : Int} {b5 : Bool} (h : W.heap[gb]? = some (hbox b0 b1 b2 b3 b4 b5)) :
    W.cell? ⟨gb, 0, none⟩ = some (.int .i64 b0) ∧ W.cell? ⟨gb, 1, none⟩ = some (.int .i64 b1) ∧ W.cell? ⟨gb, 2, none⟩ = some (.int .i64 b2) ∧ W.cell? ⟨gb, 3, none⟩ = some (.int .i64 b3) ∧ W.cell? ⟨gb, 4, none⟩ = some (.int .i64 b4) ∧ W.cell? ⟨gb, 5, none⟩ = some (.bool b5) := by
  unfold hbox at h
  exact ⟨(blk_cell h 0).trans rfl, (blk_cell h 1).trans rfl, (blk_cell h 2).trans rfl, (blk_cell h 3).trans rfl, (blk_cell h 4).trans rfl, (blk_cell h 5).trans rfl⟩
set_option maxHeartbeats 4000000 in
set_option maxRecDepth 100000 in
theorem head_PutHead_em (A0 : Option Addr) (c0 : Nat) (l0 : List Int) (b0 b1 b2 b3 b4 : Int) (b5 : Bool) (w : World) (HC : Aside0 (Kd.C (Kd.int .u8) w A0 l0.length l0)) (HL : Aside0 (l0.length ≤ c0)) (hmax : l0.length < 140737488355328) (h : ¬ l0.length < 54) (hb : b0 < 16 ∨ b0 > 16384) :
    Calls Tryd.prog 19 #[.slice A0 l0.length c0, .agg #[.int .i64 b0, .int .i64 b1, .int .i64 b2, .int .i64 b3, .int .i64 b4, .bool b5]] w fun e w' => ∃ v0_ : Value, e = .returned (.tuple #[v0_, .int .i64 6]) ∧ Kd.R (Kd.int .u8) 5 w' w.heap.size (fun _ => True) v0_ [] ∧ Below w.heap.size w w' := by
  have HA := Aside0.mk (ask_ok l0 54 (by omega))
  have H54 := Aside0.mk h
  have HB := Aside0.mk (Below.refl w.heap.size w)
  clear h
  rcases hb with hb | hb
  all_goals
    first | have hb' : ¬ b0 < 16 := by omega
          | skip
    first | have hb'' : 16384 < b0 := by omega
          | skip
    go_enter Tryd.func19, Tryd.ntmps19
    go_wp2_with (first
      | ((with_reducible refine gate_dst (N := 3) rfl ?_); refine box_event rfl (N := 3) rfl (cs := #[.int .i64 b0, .int .i64 b1, .int .i64 b2, .int .i64 b3, .int .i64 b4, .bool b5]) (t := 37) ?hr ?_; (case hr => first | (go_simp; done) | (go_simp; rfl)); intro gb hgb w1 hbx hb1; have HBX1 := Aside0.mk (show w1.heap[gb]? = some (hbox b0 b1 b2 b3 b4 b5) from hbx); have HB1 := Aside0.mk hb1; clear hgb hbx hb1)
      | (go_at_call 40; (with_reducible refine (head_ask.calls _ _ l0 54 0 _ (Kd.C_below HC.out HB1.out) HL.out HA.out).mono ?_); rintro e w2 ⟨rfl, ⟨nd, hq⟩⟩; have HBX2 := Aside0.mk (blk_at hq.symm HBX1.out); have HB2 : Aside0 (Below w.heap.size w w2) := ⟨below_at hq.symm HB1.out⟩; clear hq HB1 HBX1)
      | ((with_reducible refine gate_dst (N := 16) rfl ?_); refine Kd.R_lit (Kd.int .u8) _ 5 ?hg (N := 16) ?hd (xs := ([] : List Int)) (inner := []) (ok := fun _ => True) (okp := fun _ => True) ?hr ?hp (fun _ hk => hk) trivial (Below.refl _ _) (Nat.le_refl _) (by simp) ?_; (case hd => rfl); (case hg => rfl); (case hr => first | (go_simp; done) | (go_simp; rfl)); (case hp => exact (Reps.none _ _)); intro v102 w3 ho4 hb hg_ hnew_; have HBX3 := Aside0.mk (blk_grown HBX2.out hg_ (by simp)); have HB3 := Aside0.mk (below_step HB2.out hb); have HO3 := Aside0.mk (Kd.R_lower ho4 (below_size HB2.out)); clear hb ho4 hg_ hnew_ HBX2)
      | ((with_reducible refine gate_builtin (b := .append) (xs := #[.tmp 16, .tmp 17]) rfl ?_); at_builtin; refine Kd.R_append_rows (Kd.int .u8) (w0 := w) w.heap.size rfl (.tmp 16) (.tmp 17) 22 5 (.int .u8 0) 1 rfl Tryd.underlying22 info5 rfl (by decide) (by omega) v102 ([] : List Int) l0 _ _ _ (fun _ => True) (fun _ => False) rfl rfl HO3.out (Kd.C_below HC.out HB3.out) (fun _ _ h => h) (fun _ h => h.elim) (fun _ _ => trivial) HB3.out (below_size HB3.out) (by simp only [List.length_nil]; omega) ?_; intro v105 w5 ho hb hg5 _; have HBX5 := Aside0.mk (blk_grown HBX3.out hg5 (Kd.R_ne HO3.out HBX3.out (by decide))); have HB5 := Aside0.mk hb; obtain ⟨hc0, _⟩ := cell_h HBX5.out; clear HO3 ho hb hg5 HBX3))
    go_ret2
    exact ⟨_, rfl, Kd.R_nil _ _ _ _ _, HB5.out⟩
set_option maxHeartbeats 8000000 in
set_option maxRecDepth 100000 in
theorem head_PutHead_ok (A0 : Option Addr) (c0 : Nat) (l0 : List Int) (b0 b1 b2 b3 b4 : Int) (b5 : Bool) (w : World) (HC : Aside0 (Kd.C (Kd.int .u8) w A0 l0.length l0)) (HL : Aside0 (l0.length ≤ c0)) (hmax : l0.length < 140737488355328) (h : ¬ l0.length < 54) (hb : 16 ≤ b0) (hb' : b0 ≤ 16384)
    (HI : Aside0 (inI b0 ∧ inI b1 ∧ inI b2 ∧ inI b3 ∧ inI b4)) (r1 : List Int) (r2 : Int) (HRY : Aside0 (okS b1 ∧ okS b2 ∧ okS b3 ∧ okS b4 → r1 = lay2 (layN (lay2 l0 18 b0) [b1, b2, b3, b4] 4) 50 (if b5 = true then 1 else 0) ∧ r2 = 0)) (HRN : Aside0 (¬ (okS b1 ∧ okS b2 ∧ okS b3 ∧ okS b4) → r1 = [] ∧ r2 = 6)) :
    Calls Tryd.prog 19 #[.slice A0 l0.length c0, .agg #[.int .i64 b0, .int .i64 b1, .int .i64 b2, .int .i64 b3, .int .i64 b4, .bool b5]] w fun e w' => ∃ v0_ : Value, e = .returned (.tuple #[v0_, .int .i64 r2]) ∧ Kd.R (Kd.int .u8) 5 w' w.heap.size (fun _ => True) v0_ r1 ∧ Below w.heap.size w w' := by
  have HA := Aside0.mk (ask_ok l0 54 (by omega))
  have H54 := Aside0.mk h
  have HB := Aside0.mk (Below.refl w.heap.size w)
  obtain ⟨lf, hlf⟩ : ∃ lf, lay2 l0 18 b0 = lf := ⟨_, rfl⟩
  have HLF := Aside0.mk hlf
  have HN := Aside0.mk (show lf.length = l0.length by rw [← hlf, lay2_length _ _ _ (by omega)])
  clear h
  obtain ⟨m, hm⟩ : ∃ m, l0.length = m := ⟨_, rfl⟩
  have HM := Aside0.mk hm
  have hm54 : 54 ≤ m := by have := H54.out; omega
  rw [hlf] at HRY
  clear hlf hm
  go_enter Tryd.func19, Tryd.ntmps19
  go_wp2_with (first
    | ((with_reducible refine gate_dst (N := 3) rfl ?_); refine box_event rfl (N := 3) rfl (cs := #[.int .i64 b0, .int .i64 b1, .int .i64 b2, .int .i64 b3, .int .i64 b4, .bool b5]) (t := 37) ?hr ?_; (case hr => first | (go_simp; done) | (go_simp; rfl)); intro gb hgb w1 hbx hb1; have HBX1 := Aside0.mk (show w1.heap[gb]? = some (hbox b0 b1 b2 b3 b4 b5) from hbx); have HB1 := Aside0.mk hb1; clear hgb hbx hb1)
    | (go_at_call 40; (with_reducible refine (head_ask.calls _ _ l0 54 0 _ (Kd.C_below HC.out HB1.out) HL.out HA.out).mono ?_); rintro e w2 ⟨rfl, ⟨nd, hq⟩⟩; have HBX2 := Aside0.mk (blk_at hq.symm HBX1.out); have HB2 : Aside0 (Below w.heap.size w w2) := ⟨below_at hq.symm HB1.out⟩; clear hq HB1 HBX1)
    | ((with_reducible refine gate_dst (N := 16) rfl ?_); refine Kd.R_lit (Kd.int .u8) _ 5 ?hg (N := 16) ?hd (xs := ([] : List Int)) (inner := []) (ok := fun _ => True) (okp := fun _ => True) ?hr ?hp (fun _ hk => hk) trivial (Below.refl _ _) (Nat.le_refl _) (by simp) ?_; (case hd => rfl); (case hg => rfl); (case hr => first | (go_simp; done) | (go_simp; rfl)); (case hp => exact (Reps.none _ _)); intro v102 w3 ho4 hb hg_ hnew_; have HBX3 := Aside0.mk (blk_grown HBX2.out hg_ (by simp)); have HB3 := Aside0.mk (below_step HB2.out hb); have HO3 := Aside0.mk (Kd.R_lower ho4 (below_size HB2.out)); clear hb ho4 hg_ hnew_ HBX2)
    | ((with_reducible refine gate_builtin (b := .append) (xs := #[.tmp 16, .tmp 17]) rfl ?_); at_builtin; refine Kd.R_append_rows (Kd.int .u8) (w0 := w) w.heap.size rfl (.tmp 16) (.tmp 17) 22 5 (.int .u8 0) 1 rfl Tryd.underlying22 info5 rfl (by decide) (by omega) v102 ([] : List Int) l0 _ _ _ (fun _ => True) (fun _ => False) rfl rfl HO3.out (Kd.C_below HC.out HB3.out) (fun _ _ h => h) (fun _ h => h.elim) (fun _ _ => trivial) HB3.out (below_size HB3.out) (by simp only [List.length_nil]; omega) ?_; intro v105 w5 ho hb hg5 _; rw [List.nil_append] at ho; have HBX5 := Aside0.mk (blk_grown HBX3.out hg5 (Kd.R_ne HO3.out HBX3.out (by decide))); have HB5 := Aside0.mk hb; obtain ⟨hc0, hc1, hc2, hc3, hc4, hc5⟩ := cell_h HBX5.out; obtain ⟨g, cap, hv, hgb, hgl, cells, hcells⟩ := Kd.R_form ho (by have := H54.out; omega); rw [HM.out] at hv; subst hv; have HO5 := Aside0.mk ho; have HGB := Aside0.mk hgb; have HNE := Aside0.mk (show some gb ≠ some g from fun he => blk_ne HBX5.out hcells (by decide) (Option.some.inj he)); clear HO3 ho hb hg5 HBX3 hgb hgl hcells)
    | (go_at_call 41; (with_reducible refine (head_lay_any g cap l0 _ HM.out 18 18 rfl b0 _ w.heap.size (fun _ => True) (by omega) HI.out.1 (by omega) HO5.out).mono ?_); rintro e w7 ⟨rfl, ho7, hg7⟩; have HO7 := Aside0.mk ho7; have HB7 := Aside0.mk (HB5.out.grown hg7 (below_size HB5.out) (fun k hk => by injection hk with hk; rw [← hk]; exact HGB.out)); have HBX7 := Aside0.mk (blk_grown HBX5.out hg7 HNE.out); clear ho7 hg7 hc0 hc1 hc2 hc3 hc4 hc5; obtain ⟨hc0, hc1, hc2, hc3, hc4, hc5⟩ := cell_h HBX7.out))
  go_loopg [40] 4 (fun kq v40 w' => ∃ (k : Nat), v40 = .int .i64 (k : Int) ∧ k ≤ 4 ∧ Aside0 (4 - k = kq) ∧ Aside0 (∀ j, j < k → okS ([b1, b2, b3, b4].getD j 0)) ∧ Aside0 (Kd.R (Kd.int .u8) 5 w' w.heap.size (fun _ => True) (.slice (some ⟨g, 0, none⟩) m cap) (layN lf [b1, b2, b3, b4] k)) ∧ Aside0 (w'.heap[gb]? = some (hbox b0 b1 b2 b3 b4 b5)) ∧ Aside0 (Below w.heap.size w w'))
  case atStart => exact ⟨0, rfl, by omega, ⟨rfl⟩, ⟨fun j hj => absurd hj (by omega)⟩, ⟨by rw [← HLF.out]; exact HO7.out⟩, HBX7, HB7⟩
  case round =>
    clear hc0 hc1 hc2 hc3 hc4 hc5
    obtain ⟨k, rfl, hk, HK, HA8, HO8, HX8, HB8⟩ := hrel
    by_cases hlt : k < 4
    · obtain ⟨v, hv⟩ : ∃ v, [b1, b2, b3, b4].getD k 0 = v := ⟨_, rfl⟩
      have hix := idx4 b1 b2 b3 b4 k hlt
      rw [hv] at hix
      have HV := Aside0.mk hv
      have HIv := Aside0.mk (show inI v by
        obtain ⟨_, i1, i2, i3, i4⟩ := HI.out
        rw [← hv]
        match k, hlt with
        | 0, _ => exact i1
        | 1, _ => exact i2
        | 2, _ => exact i3
        | 3, _ => exact i4)
      clear hv
      obtain ⟨xs, hxs⟩ : ∃ xs, layN lf [b1, b2, b3, b4] k = xs := ⟨_, rfl⟩
      have HO9 : Aside0 (Kd.R (Kd.int .u8) 5 wr w.heap.size (fun _ => True) (.slice (some ⟨g, 0, none⟩) m cap) xs) := ⟨by rw [← hxs]; exact HO8.out⟩
      have HXL := Aside0.mk (show xs.length = m by rw [← hxs, layN_length _ _ (by rw [HN.out]; have := H54.out; omega) k (by omega), HN.out, HM.out])
      have HNX := Aside0.mk (show layN lf [b1, b2, b3, b4] (k + 1) = lay2 xs (36 + 2 * k) v by rw [layN, hxs, HV.out])
      clear hxs HO8
      by_cases hok : okS v
      · have HOK := Aside0.mk hok
        obtain ⟨hv1, hv2⟩ := hok
        go_wp2_with (go_at_call 41; (with_reducible refine (head_lay_any g cap xs _ HXL.out (36 + 2 * k) (36 + 2 * (k : Int)) (by omega) v _ w.heap.size (fun _ => True) (by omega) HIv.out (by omega) HO9.out).mono ?_); rintro e w10 ⟨rfl, ho10, hg10⟩; have HO10 := Aside0.mk ho10; have HB10 := Aside0.mk (HB8.out.grown hg10 (below_size HB8.out) (fun k hk => by injection hk with hk; rw [← hk]; exact HGB.out)); have HBX10 := Aside0.mk (blk_grown HX8.out hg10 HNE.out); clear ho10 hg10)
        go_roundg (4 - (k + 1))
        case measure => have := HK.out; omega
        case rel => exact ⟨k + 1, by go_num, by omega, ⟨rfl⟩, ⟨fun j hj => by
          rcases Nat.lt_or_ge j k with h | h
          · exact HA8.out j h
          · obtain rfl : j = k := by omega
            rw [HV.out]; exact HOK.out⟩, ⟨by rw [HNX.out]; exact HO10.out⟩, HBX10, HB10⟩
      · have hne : (v != wrap64 (IntKind.i16.wrap v)) = true := by
          unfold okS at hok
          have := HIv.out
          unfold inI at this
          rw [bne_iff_ne]
          simp only [IntKind.wrap, IntKind.bits, IntKind.signed, wrap64]
          simp
          split <;> omega
        have hbad : v < -32768 ∨ 32767 < v := by unfold okS at hok; omega
        have HF := Aside0.mk (show ¬ (okS b1 ∧ okS b2 ∧ okS b3 ∧ okS b4) by
          intro hc
          refine hok ?_
          rw [← HV.out]
          match k, hlt with
          | 0, _ => exact hc.1
          | 1, _ => exact hc.2.1
          | 2, _ => exact hc.2.2.1
          | 3, _ => exact hc.2.2.2)
        clear hok
        rcases hbad with hbad | hbad
        all_goals
          go_wp2
          go_ret2
          obtain ⟨rfl, rfl⟩ := HRN.out HF.out
          exact ⟨_, rfl, Kd.R_nil _ _ _ _ _, HB8.out⟩
    · obtain rfl : k = 4 := by omega
      have HT := Aside0.mk (show okS b1 ∧ okS b2 ∧ okS b3 ∧ okS b4 from ⟨HA8.out 0 (by omega), HA8.out 1 (by omega), HA8.out 2 (by omega), HA8.out 3 (by omega)⟩)
      obtain ⟨xs, hxs⟩ : ∃ xs, layN lf [b1, b2, b3, b4] 4 = xs := ⟨_, rfl⟩
      have HO9 : Aside0 (Kd.R (Kd.int .u8) 5 wr w.heap.size (fun _ => True) (.slice (some ⟨g, 0, none⟩) m cap) xs) := ⟨by rw [← hxs]; exact HO8.out⟩
      have HXL := Aside0.mk (show xs.length = m by rw [← hxs, layN_length _ _ (by rw [HN.out]; have := H54.out; omega) 4 (by omega), HN.out, HM.out])
      have HXS := Aside0.mk hxs
      clear hxs HO8
      obtain ⟨hc0, hc1, hc2, hc3, hc4, hc5⟩ := cell_h HX8.out
      cases b5 with
      | true =>
        go_wp2_with (go_at_call 41; (with_reducible refine (head_lay_any g cap xs _ HXL.out 50 50 rfl 1 _ w.heap.size (fun _ => True) (by omega) (by decide) (by omega) HO9.out).mono ?_); rintro e w10 ⟨rfl, ho10, hg10⟩; have HO10 := Aside0.mk ho10; have HB10 := Aside0.mk (HB8.out.grown hg10 (below_size HB8.out) (fun k hk => by injection hk with hk; rw [← hk]; exact HGB.out)); clear ho10 hg10)
        go_ret2
        obtain ⟨rfl, rfl⟩ := HRY.out HT.out
        exact ⟨_, rfl, by rw [HXS.out]; exact HO10.out, HB10.out⟩
      | false =>
        go_wp2_with (go_at_call 41; (with_reducible refine (head_lay_any g cap xs _ HXL.out 50 50 rfl 0 _ w.heap.size (fun _ => True) (by omega) (by decide) (by omega) HO9.out).mono ?_); rintro e w10 ⟨rfl, ho10, hg10⟩; have HO10 := Aside0.mk ho10; have HB10 := Aside0.mk (HB8.out.grown hg10 (below_size HB8.out) (fun k hk => by injection hk with hk; rw [← hk]; exact HGB.out)); clear ho10 hg10)
        go_ret2
        obtain ⟨rfl, rfl⟩ := HRY.out HT.out
        exact ⟨_, rfl, by rw [HXS.out]; exact HO10.out, HB10.out⟩
theorem head_PutHead.calls (A0 : Option Addr) (c0 : Nat) (l0 : List Int) (b0 b1 b2 b3 b4 : Int) (b5 : Bool) (r1 : List Int) (r2 : Int) (w : World) (hr0 : Kd.C (Kd.int .u8) w A0 l0.length l0) (hc0 : l0.length ≤ c0) (h : head_PutHead.f l0 b0 b1 b2 b3 b4 b5 = some (r1, r2)) :
    Calls Tryd.prog 19 #[.slice A0 l0.length c0, .agg #[.int .i64 b0, .int .i64 b1, .int .i64 b2, .int .i64 b3, .int .i64 b4, .bool b5]] w fun e w' => ∃ v0_ : Value, e = .returned (.tuple #[v0_, .int .i64 r2]) ∧ Kd.R (Kd.int .u8) 5 w' w.heap.size (fun _ => True) v0_ r1 ∧ Below w.heap.size w w' := by
  unfold head_PutHead.f at h
  split at h
  case isFalse => cases h
  rename_i hg
  obtain ⟨hmax, hi⟩ := hg
  have h := Option.some.inj h
  unfold putHeadR at h
  by_cases h1 : l0.length < 54
  · rw [if_pos h1] at h
    obtain ⟨rfl, rfl⟩ := Prod.mk.inj h
    exact head_PutHead_short A0 c0 l0 b0 b1 b2 b3 b4 b5 w ⟨hr0⟩ ⟨hc0⟩ h1
  rw [if_neg h1] at h
  by_cases h2 : b0 < 16 ∨ b0 > 16384
  · rw [if_pos h2] at h
    obtain ⟨rfl, rfl⟩ := Prod.mk.inj h
    exact head_PutHead_em A0 c0 l0 b0 b1 b2 b3 b4 b5 w ⟨hr0⟩ ⟨hc0⟩ hmax h1 h2
  rw [if_neg h2] at h
  refine head_PutHead_ok A0 c0 l0 b0 b1 b2 b3 b4 b5 w ⟨hr0⟩ ⟨hc0⟩ hmax h1 (by omega) (by omega) ⟨hi⟩ r1 r2 ⟨fun hc => ?_⟩ ⟨fun hc => ?_⟩
  · rw [if_pos hc] at h
    obtain ⟨rfl, rfl⟩ := Prod.mk.inj h
    exact ⟨rfl, rfl⟩
  · rw [if_neg hc] at h
    obtain ⟨rfl, rfl⟩ := Prod.mk.inj h
    exact ⟨rfl, rfl⟩


end Go.Proofs.YtcclmaicdmogjaaDoor.P

-- Written by wip/pr.py over the kit's print
namespace Go.Proofs.YtcclmaicdmogjaaDoor.P
open Go.RowKit Go.Proofs.YtcclmaicdmogjaaDoorW.PrintWords Go.Proofs.YtcclmaicdmogjaaDoorW.PrintLast Go.Proofs.YtcclmaicdmogjaaDoorW.PrintMore
attribute [local go_sem] max2_int min2_int max_two min_two max_three min_three max_four min_four   -- for this text's walks alone
set_option linter.unusedVariables false
set_option linter.unusedSimpArgs false

/-! ### calamusref05_short: function 99 -/
def calamusref05_short.f (a0 : Int) : Option (Bool) := if a0 ≥ (-32768) then (some (decide (a0 ≤ 32767))) else (some false)
set_option maxHeartbeats 8000000 in
set_option maxRecDepth 100000 in
theorem calamusref05_short.calls (a0 : Int) (r : Bool) (w : World) (h : calamusref05_short.f a0 = some r) :
    Calls Tryd.prog 99 #[.int .i64 a0] w fun e w' => e = .returned (.bool r) ∧ Drawn0 w w' := by
  have H : (if a0 ≥ (-32768) then (some (decide (a0 ≤ 32767))) else (some false)) = some r := h
  clear h
  by_cases c2 : a0 ≥ (-32768)
  · rw [if_pos c2] at H
    have c2b0 : decide ((-32768) ≤ a0) = true := decide_eq_true c2
    clear c2
    obtain rfl := Option.some.inj H
    go_enter Tryd.func99, Tryd.ntmps99
    go_wp2
    go_ret
    exact ⟨by first | rfl | (simp; done) | (simp [*]; done), by repeat (first | exact Drawn0.refl _ | apply Drawn0.step)⟩
  · rw [if_neg c2] at H
    have c2b0 : decide ((-32768) ≤ a0) = false := decide_eq_false c2
    clear c2
    obtain rfl := Option.some.inj H
    go_enter Tryd.func99, Tryd.ntmps99
    go_wp2
    go_ret
    exact ⟨by first | rfl | (simp; done) | (simp [*]; done), by repeat (first | exact Drawn0.refl _ | apply Drawn0.step)⟩

end Go.Proofs.YtcclmaicdmogjaaDoor.P
