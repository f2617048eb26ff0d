/- Part 1 of the proof of the law TabsumPieces: of pieces of whole words and a last one the sum, gone on with piece by piece, is that of all, at every at most 50 pieces of at most 2000 bytes and a last one of at most 5000 (beyond, the law answers true). -/
import Derived.Test.YtcclmaicdmogjaaProg
import Derived.Below
import Derived.Deep.Draws
import Derived.Deep.AppendLies
import Derived.Maps.AppendAt
import Derived.OwnWalk
import Derived.Laws.BytesArg
import Derived.Laws.MakeOwn
import Derived.Laws.OwnMore
import Derived.Deep.OwnRows
import Derived.Tactics
import Derived.Lib.ConvBytes
import Derived.Laws.Slices
import Derived.WalkKit
import Derived.KernelRfl
import Derived.RowKit3
import Derived.Deep.LoopGhost
import Derived.Deep.QuietTactic
import Derived.BigQuiet
import Derived.WideLaws
import Derived.Deep.DeepCutAuto
import Derived.Deep.CutBlock
import Derived.Deep.RegionHeld3
import Derived.Laws.Rows
import Derived.Lib.AppendStr
import Derived.ArgAppend
import Derived.Laws.IdiomCopy
import Derived.OrdersHeld
import Derived.Laws.BitsLemmas
import Derived.RowKit
import Derived.Test.YtcclmaicdmogjaaWWords
import Derived.Test.YtcclmaicdmogjaaWLast
import Derived.Test.YtcclmaicdmogjaaWTab
import Derived.Test.YtcclmaicdmogjaaWFour
import Derived.Test.YtcclmaicdmogjaaWQPut
import Derived.Test.YtcclmaicdmogjaaWApart
import Derived.Test.YtcclmaicdmogjaaWArr
import Derived.Test.YtcclmaicdmogjaaWZeros
import Derived.Test.YtcclmaicdmogjaaWFoot
import Derived.Test.YtcclmaicdmogjaaWKept
import Derived.Test.YtcclmaicdmogjaaWShare
import Derived.Test.YtcclmaicdmogjaaWN
import Derived.Test.YtcclmaicdmogjaaWFootNe
import Derived.Test.YtcclmaicdmogjaaWAt
import Derived.Test.YtcclmaicdmogjaaWEqStruct
import Derived.Test.YtcclmaicdmogjaaWRepsOne
import Derived.Test.YtcclmaicdmogjaaWInv
import Derived.Test.YtcclmaicdmogjaaWInvWords
import Derived.Test.YtcclmaicdmogjaaWGuard
import Derived.Test.YtcclmaicdmogjaaWNEv
import Derived.Test.YtcclmaicdmogjaaWMore
import Derived.Test.YtcclmaicdmogjaaPb
import Derived.Deep.SlicePairs
import Derived.Deep.Slices
import Derived.Lib.SmallJoins
import Derived.Test.YtcclmaicdmogjaaRows
-- Written by wip/pr.py over the kit's print
namespace Go.Proofs.Ytcclmaicdmogjaa.P
open Go.RowKit Go.Proofs.YtcclmaicdmogjaaW.PrintWords Go.Proofs.YtcclmaicdmogjaaW.PrintLast Go.Proofs.YtcclmaicdmogjaaW.PrintMore
attribute [local go_sem] max2_int min2_int max_two min_two max_three min_three max_four min_four   -- for this text's walks alone
set_option linter.unusedVariables false
set_option linter.unusedSimpArgs false



def errW : Option Int → Value
  | none => .nilIface
  | some c => .iface 0 (.int .i64 c)
theorem errW_none : errW none = .nilIface := rfl
theorem errW_some (c : Int) : errW (some c) = .iface 0 (.int .i64 c) := rfl

theorem info3 : (Try.prog.info? 3).map (fun i => (i.zero, i.size, i.bytes)) = some (some (.int .i64 0), 1, 8) := by kernel_rfl
theorem info5 : (Try.prog.info? 5).map (fun i => (i.zero, i.size, i.bytes)) = some (some (.int .u8 0), 1, 1) := by kernel_rfl
theorem info91 : (Try.prog.info? 91).map (fun i => (i.zero, i.size, i.bytes)) = some (some (.agg #[(.string ⟨#[]⟩), (.slice none 0 0)]), 2, 40) := by kernel_rfl
theorem info111 : (Try.prog.info? 111).map (fun i => (i.zero, i.size, i.bytes)) = some (some (.agg #[(.int .i64 0), (.int .i64 0)]), 2, 16) := by kernel_rfl
-- the values' own types
def rd_L2 (xs : List (List Int)) (i : Int) : (List Int) := xs.getD i.toNat ([] : List Int)
theorem at_L2 {w : World} {A : Option Addr} {n : Nat} {xs : List (List Int)} (h : Kd.C (Kd.slice 5 (Kd.int .u8)) w A n xs) (i : Int) (h0 : 0 ≤ i) (h1 : i < n) : ∃ ad A0 c0, A = some ad ∧ w.cell? (ad.add i.toNat) = some (.slice A0 (rd_L2 xs i).length c0) ∧ (rd_L2 xs i).length ≤ c0 ∧ (Kd.int .u8).C w A0 (rd_L2 xs i).length (rd_L2 xs i) := by
  obtain ⟨ad, c, e, _, hK, hc0⟩ := Kd.C_get h ([] : List Int) i h0 h1
  have hc : ∀ j u, c[j]? = some u → w.cell? (ad.add (i.toNat * 1 + j)) = some u := hc0
  obtain ⟨A0, c0, rfl, l0, g0⟩ := hK
  exact ⟨ad, A0, c0, e, by have hq := hc 0 _ rfl; rwa [Nat.mul_one, Nat.add_zero] at hq, l0, g0⟩

def rd_L4 (xs : List (List Int)) (i : Int) : (List Int) := xs.getD i.toNat ([] : List Int)
theorem at_L4 {w : World} {A : Option Addr} {n : Nat} {xs : List (List Int)} (h : Kd.C (Kd.slice 3 (Kd.int .i64)) w A n xs) (i : Int) (h0 : 0 ≤ i) (h1 : i < n) : ∃ ad A0 c0, A = some ad ∧ w.cell? (ad.add i.toNat) = some (.slice A0 (rd_L4 xs i).length c0) ∧ (rd_L4 xs i).length ≤ c0 ∧ (Kd.int .i64).C w A0 (rd_L4 xs i).length (rd_L4 xs i) := by
  obtain ⟨ad, c, e, _, hK, hc0⟩ := Kd.C_get h ([] : List Int) i h0 h1
  have hc : ∀ j u, c[j]? = some u → w.cell? (ad.add (i.toNat * 1 + j)) = some u := hc0
  obtain ⟨A0, c0, rfl, l0, g0⟩ := hK
  exact ⟨ad, A0, c0, e, by have hq := hc 0 _ rfl; rwa [Nat.mul_one, Nat.add_zero] at hq, l0, g0⟩

/-! #### struct type 111 -/
structure S111 where
  f0 : Int
  f1 : Int
def z111 : S111 := ⟨(0 : Int), (0 : Int)⟩
def k111 : Kd S111 := Kd.iso (Kd.pair (Kd.int .i64) (Kd.int .i64)) (fun x : S111 => (x.f0, x.f1))
theorem k111_open {w : World} {x : S111} {cs : List Value} (h : k111.K w x cs) : cs = [.int .i64 x.f0, .int .i64 x.f1] := by
  obtain ⟨_, _, rfl, rfl, rfl⟩ := h
  exact rfl
theorem k111_openM {w : World} {base : Nat} {ok : Nat → Prop} {x : S111} {cs : List Value} (h : k111.M w base ok x cs) : cs = [.int .i64 x.f0, .int .i64 x.f1] := by
  obtain ⟨_, _, rfl, rfl, rfl⟩ := h
  exact rfl
theorem k111_mk (w : World) (x : S111)  : k111.K w x [.int .i64 x.f0, .int .i64 x.f1] := ⟨[.int .i64 x.f0], [.int .i64 x.f1], rfl, rfl, rfl⟩
theorem k111_mkM (w : World) (base : Nat) (ok : Nat → Prop) (x : S111)  : k111.M w base ok x [.int .i64 x.f0, .int .i64 x.f1] := ⟨[.int .i64 x.f0], [.int .i64 x.f1], rfl, rfl, rfl⟩
theorem k111_mkF (W : World) (ok : Nat → Prop) (x : S111) : Kd.FK k111 W ok x [.int .i64 x.f0, .int .i64 x.f1] := fun W2 _ => k111_mk W2 x
def rd_T111 (xs : List S111) (i : Int) : S111 := xs.getD i.toNat z111
theorem at_T111 {w : World} {A : Option Addr} {n : Nat} {xs : List S111} (h : Kd.C k111 w A n xs) (i : Int) (h0 : 0 ≤ i) (h1 : i < n) : ∃ ad , A = some ad ∧ w.cell? (ad.add (i.toNat * 2)) = some (.int .i64 (rd_T111 xs i).f0) ∧ w.cell? ⟨(ad.add (i.toNat * 2)).block, (ad.add (i.toNat * 2)).off + 1, none⟩ = some (.int .i64 (rd_T111 xs i).f1) := by
  obtain ⟨ad, c, e, _, hK, hc0⟩ := Kd.C_get h z111 i h0 h1
  have hc : ∀ j u, c[j]? = some u → w.cell? (ad.add (i.toNat * 2 + j)) = some u := hc0
  obtain rfl := k111_open hK
  exact ⟨ad, e, hc 0 _ rfl, by rw [← add_field _ _ 1 (by omega)]; exact hc 1 _ rfl⟩

def rd_L7 (xs : List (List S111)) (i : Int) : (List S111) := xs.getD i.toNat ([] : List S111)
theorem at_L7 {w : World} {A : Option Addr} {n : Nat} {xs : List (List S111)} (h : Kd.C (Kd.slice 111 k111) w A n xs) (i : Int) (h0 : 0 ≤ i) (h1 : i < n) : ∃ ad A0 c0, A = some ad ∧ w.cell? (ad.add i.toNat) = some (.slice A0 (rd_L7 xs i).length c0) ∧ (rd_L7 xs i).length ≤ c0 ∧ k111.C w A0 (rd_L7 xs i).length (rd_L7 xs i) := by
  obtain ⟨ad, c, e, _, hK, hc0⟩ := Kd.C_get h ([] : List S111) i h0 h1
  have hc : ∀ j u, c[j]? = some u → w.cell? (ad.add (i.toNat * 1 + j)) = some u := hc0
  obtain ⟨A0, c0, rfl, l0, g0⟩ := hK
  exact ⟨ad, A0, c0, e, by have hq := hc 0 _ rfl; rwa [Nat.mul_one, Nat.add_zero] at hq, l0, g0⟩

/-! #### struct type 91 -/
structure S91 where
  f0 : ByteArray
  f1 : (List Int)
def z91 : S91 := ⟨(⟨#[]⟩ : ByteArray), ([] : List Int)⟩
def k91 : Kd S91 := Kd.iso (Kd.pair Kd.string (Kd.slice 5 (Kd.int .u8))) (fun x : S91 => (x.f0, x.f1))
theorem k91_open {w : World} {x : S91} {cs : List Value} (h : k91.K w x cs) : ∃ A1 c1, cs = [.string x.f0, .slice A1 x.f1.length c1] ∧ x.f1.length ≤ c1 ∧ (Kd.int .u8).C w A1 x.f1.length x.f1 := by
  obtain ⟨_, _, rfl, rfl, ⟨A1, c1, rfl, l1, g1⟩⟩ := h
  exact ⟨A1, c1, rfl, l1, g1⟩
theorem k91_openM {w : World} {base : Nat} {ok : Nat → Prop} {x : S91} {cs : List Value} (h : k91.M w base ok x cs) : ∃ v1, cs = [.string x.f0, v1] ∧ (Kd.int .u8).R 5 w base ok v1 x.f1 := by
  obtain ⟨_, _, rfl, rfl, ⟨v1, rfl, g1⟩⟩ := h
  exact ⟨v1, rfl, g1⟩
theorem k91_mk (w : World) (x : S91) {A1 : Option Addr} {c1 : Nat} (l1 : x.f1.length ≤ c1) (g1 : (Kd.int .u8).C w A1 x.f1.length x.f1) : k91.K w x [.string x.f0, .slice A1 x.f1.length c1] := ⟨[.string x.f0], [.slice A1 x.f1.length c1], rfl, rfl, ⟨A1, c1, rfl, l1, g1⟩⟩
theorem k91_mkM (w : World) (base : Nat) (ok : Nat → Prop) (x : S91) {v1 : Value} (g1 : (Kd.int .u8).R 5 w base ok v1 x.f1) : k91.M w base ok x [.string x.f0, v1] := ⟨[.string x.f0], [v1], rfl, rfl, ⟨v1, rfl, g1⟩⟩
theorem k91_openF {W : World} {ok : Nat → Prop} {x : S91} {cs : List Value} (h : Kd.FK k91 W ok x cs) : ∃ A1 c1, cs = [.string x.f0, .slice A1 x.f1.length c1] ∧ x.f1.length ≤ c1 ∧ Kd.F (Kd.int .u8) W ok A1 x.f1.length x.f1 := by
  obtain ⟨A1, c1, rfl, l1, _⟩ := k91_open (Kd.FK_now h)
  exact ⟨A1, c1, rfl, l1, (fun W' hW => by obtain ⟨A1_, c1_, he, l1_, g1_⟩ := k91_open (h W' hW); injection (Option.some.inj (show some (Value.slice A1 x.f1.length c1) = some (Value.slice A1_ x.f1.length c1_) from congrArg (fun l => l[1]?) he)) with ha_ _ _; rw [ha_]; exact g1_)⟩
theorem k91_mkF (W : World) (ok : Nat → Prop) (x : S91) {A1 : Option Addr} {c1 : Nat} (l1 : x.f1.length ≤ c1) (g1 : Kd.F (Kd.int .u8) W ok A1 x.f1.length x.f1) : Kd.FK k91 W ok x [.string x.f0, .slice A1 x.f1.length c1] := fun W2 hW => k91_mk W2 x l1 (g1 W2 hW)
def rd_T91 (xs : List S91) (i : Int) : S91 := xs.getD i.toNat z91
theorem at_T91 {w : World} {A : Option Addr} {n : Nat} {xs : List S91} (h : Kd.C k91 w A n xs) (i : Int) (h0 : 0 ≤ i) (h1 : i < n) : ∃ ad A1 c1, A = some ad ∧ w.cell? (ad.add (i.toNat * 2)) = some (.string (rd_T91 xs i).f0) ∧ w.cell? ⟨(ad.add (i.toNat * 2)).block, (ad.add (i.toNat * 2)).off + 1, none⟩ = some (.slice A1 (rd_T91 xs i).f1.length c1) ∧ (rd_T91 xs i).f1.length ≤ c1 ∧ (Kd.int .u8).C w A1 (rd_T91 xs i).f1.length (rd_T91 xs i).f1 := by
  obtain ⟨ad, c, e, _, hK, hc0⟩ := Kd.C_get h z91 i h0 h1
  have hc : ∀ j u, c[j]? = some u → w.cell? (ad.add (i.toNat * 2 + j)) = some u := hc0
  obtain ⟨A1, c1, rfl, l1, g1⟩ := k91_open hK
  exact ⟨ad, A1, c1, e, hc 0 _ rfl, by rw [← add_field _ _ 1 (by omega)]; exact hc 1 _ rfl, l1, g1⟩

end Go.Proofs.Ytcclmaicdmogjaa.P

-- Written by wip/pr.py over the kit's print
namespace Go.Proofs.Ytcclmaicdmogjaa.P
open Go.RowKit Go.Proofs.YtcclmaicdmogjaaW.PrintWords Go.Proofs.YtcclmaicdmogjaaW.PrintLast Go.Proofs.YtcclmaicdmogjaaW.PrintMore
attribute [local go_sem] max2_int min2_int max_two min_two max_three min_three max_four min_four   -- for this text's walks alone
set_option linter.unusedVariables false
set_option linter.unusedSimpArgs false

/-! ### tabsum_More: function 29 (by hand) -/
-- FUNC calamus/tabsum.More
-- ROUNDS no
-- MAKES no
def tabsum_More.f (a0 : Int) (l1 : List Int) : Option Int := if (0 ≤ a0 ∧ a0 ≤ 4294967295) ∧ isBytes l1 then some ((a0 + tsum l1) % 4294967296) else none
set_option maxHeartbeats 8000000 in
set_option maxRecDepth 100000 in
theorem tabsum_More.calls (a0 : Int) (A1 : Option Addr) (c1 : Nat) (l1 : List Int) (r : Int) (w : World) (hr1 : Kd.C (Kd.int .u8) w A1 l1.length l1) (hc1 : l1.length ≤ c1) (h : tabsum_More.f a0 l1 = some r) :
    Calls Try.prog 29 #[.int .u32 a0, .slice A1 l1.length c1] w fun e w' => e = .returned (.int .u32 r) ∧ Drawn0 w w' := by
  unfold tabsum_More.f at h
  split at h
  case isFalse => cases h
  rename_i hg
  obtain ⟨⟨ha0, ha1⟩, hb⟩ := hg
  have HR := Aside0.mk (Option.some.inj h)
  have HB := Aside0.mk hb
  have HC := Aside0.mk hr1
  have HL := Aside0.mk hc1
  clear h hb hr1 hc1
  go_enter Try.func29, Try.ntmps29
  go_wp2
  go_step3
  go_wp2
  go_step3
  go_wp2
  go_loopg [0, 1] l1.length (fun kq v0 v1 w' => ∃ (s : Int) (A : Option Addr) (c : Nat) (l : List Int), v0 = .int .u32 s ∧ v1 = .slice A l.length c ∧ 0 ≤ s ∧ s ≤ 4294967295 ∧ Aside0 (l.length = kq) ∧ Aside0 (isBytes l) ∧ Aside0 (Kd.C (Kd.int .u8) w' A l.length l) ∧ Aside0 (l.length ≤ c) ∧ Aside0 ((s + tsum l) % 4294967296 = r) ∧ Drawn0 w w')
  case atStart => exact ⟨a0, A1, c1, l1, rfl, rfl, ha0, ha1, ⟨rfl⟩, HB, HC, HL, HR, Drawn0.refl _⟩
  case round =>
    obtain ⟨s, A, c, l, rfl, rfl, hs0, hs1, HN, HB, HC, HL, HR, ⟨m, rfl⟩⟩ := hrel
    have hmax : l.length ≤ 9223372036854775807 := Kd.C_max HC.out
    by_cases hl0 : 0 < l.length
    · go_wp2
      go_loopg [0, 5, 10] 4 (fun kq v0 v5 v10 w' => ∃ (k : Nat), v0 = .int .u32 s ∧ v10 = .int .i64 (k : Int) ∧ v5 = .int .u32 (pre l k) ∧ k ≤ 4 ∧ k ≤ l.length ∧ 0 ≤ pre l k ∧ pre l k ≤ 4294967295 ∧ Aside0 (4 - k = kq) ∧ Aside0 (Kd.C (Kd.int .u8) w' A l.length l) ∧ Drawn0 w w')
      case atStart => exact ⟨0, rfl, rfl, rfl, by omega, by omega, by rw [pre_zero]; omega, by rw [pre_zero]; omega, ⟨rfl⟩, Aside0.mk (by repeat (first | exact HC.out | (with_reducible refine Kd.C_drewN ?_ _) | (with_reducible refine Kd.C_drew ?_))), ⟨m, rfl⟩⟩
      case round =>
        obtain ⟨k, rfl, rfl, rfl, hk4, hkl, hp0, hp1, HK, HC', ⟨m', rfl⟩⟩ := hrel
        clear HC
        by_cases h4 : k < 4
        · by_cases hkl' : k < l.length
          · have hpb : pre l k ≤ 16777215 := by
              have := (pre_bd l HB.out k hkl).2
              have h256 : (256 : Int) ^ k ≤ 256 ^ 3 := by
                have : k = 0 ∨ k = 1 ∨ k = 2 ∨ k = 3 := by omega
                rcases this with rfl | rfl | rfl | rfl <;> decide
              omega
            obtain ⟨ad, y, rfl, hx, HY⟩ := C_at HC'.out k hkl'
            obtain ⟨hy0, hy1⟩ := byte_at HB.out HY
            go_wp2
            go_roundg (4 - (k + 1))
            case measure => have := HK.out; omega
            case rel =>
              have hor := u32_or8 (pre l k * 256) y (by omega) (by omega) (by omega) hy0 (by omega)
              have hsucc := pre_succ l k hkl'
              have hy := HY.out
              refine ⟨k + 1, rfl, by go_num, ?_, by omega, by omega, ?_, ?_, ⟨rfl⟩, HC', ⟨m', rfl⟩⟩
              · rw [hsucc, hy, ← hor]
              · omega
              · omega
          · have HE := Aside0.mk (show k = l.length by omega)
            have hsh : ((8 * (4 - (k : Int))) : Int) ≤ 31 ∧ 0 ≤ 8 * (4 - (k : Int)) := by omega
            go_wp2
            rw [Exit.noGoto_ret]
            go_ret
            exact ⟨ret_int (tsum_end HE.out h4 HR.out), ⟨m', rfl⟩⟩
        · obtain ⟨A', hcut0, hC', hL'⟩ := C_cut (P := Try.prog) (k := .u8) 23 5 Try.underlying23 (info_parts info5).choose_spec.1 (info_parts info5).choose_spec.2.2.1 A c l 4 (by omega) HL.out
          have hcut : ∀ W : World, (Instr.slice 23 (.slice A l.length c) (some (.int .i64 4)) none none).run Try.prog W = .ok (.slice A' (l.drop 4).length (c - 4)) W := hcut0
          clear hcut0
          obtain rfl : k = 4 := by omega
          go_wp2
          go_roundg (l.length - 4)
          case measure => have := HN.out; omega
          case rel =>
            refine ⟨_, A', c - 4, l.drop 4, rfl, by rw [List.length_drop], by omega, by omega, ⟨by rw [List.length_drop]⟩, ⟨HB.out.drop 4⟩, ⟨hC' _ HC'.out⟩, ⟨hL'⟩, ⟨?_⟩, ⟨m', rfl⟩⟩
            rw [← HR.out, tsum_long l (by omega)]
            omega
    · go_wp2
      have hl : l = [] := List.eq_nil_of_length_eq_zero (by omega)
      rw [Exit.noGoto_ret]
      go_ret
      refine ⟨ret_int ?_, ⟨m, rfl⟩⟩
      have := HR.out
      rw [hl] at this
      simp only [tsum] at this
      omega


end Go.Proofs.Ytcclmaicdmogjaa.P

-- Written by wip/pr.py over the kit's print
namespace Go.Proofs.Ytcclmaicdmogjaa.P
open Go.RowKit Go.Proofs.YtcclmaicdmogjaaW.PrintWords Go.Proofs.YtcclmaicdmogjaaW.PrintLast Go.Proofs.YtcclmaicdmogjaaW.PrintMore
attribute [local go_sem] max2_int min2_int max_two min_two max_three min_three max_four min_four   -- for this text's walks alone
set_option linter.unusedVariables false
set_option linter.unusedSimpArgs false

/-! ### tabsum_Sum: function 27 -/
def tabsum_Sum.f (l0 : List Int) : Option (Int) := (tabsum_More.f 0 l0).bind fun t101 => (some t101)
set_option maxHeartbeats 8000000 in
set_option maxRecDepth 100000 in
theorem tabsum_Sum.calls (A0 : Option Addr) (c0 : Nat) (l0 : List Int) (r : Int) (w : World) (hr0 : Kd.C (Kd.int .u8) w A0 l0.length l0) (hc0 : l0.length ≤ c0) (h : tabsum_Sum.f l0 = some r) :
    Calls Try.prog 27 #[.slice A0 l0.length c0] w fun e w' => e = .returned (.int .u32 r) ∧ Drawn0 w w' := by
  have HR0 := Aside0.mk hr0
  have HC0 := Aside0.mk hc0
  clear hr0 hc0
  have H : ((tabsum_More.f 0 l0).bind fun t101 => (some t101)) = some r := h
  clear h
  replace H := Option.bind_eq_some_iff.mp H
  obtain ⟨t101, A20, H⟩ := H
  replace H : (some t101) = some r := H
  have A2 := Aside0.mk A20
  clear A20
  obtain rfl := Option.some.inj H
  go_enter Try.func27, Try.ntmps27
  go_wp2_with (first | ((with_reducible refine gate_callee (f := 29) rfl ?_); refine goesL_ (some 4) rfl rfl Try.func29 (by kernel_rfl) rfl #[.int .u32 0, .slice A0 l0.length c0] rfl (by (try simp only [List.map_toArray, List.map_cons, List.map_nil]); first | done | rfl | (simp only [List.length_drop, List.length_take]; rfl)) ?_; (with_reducible refine (tabsum_More.calls 0 _ _ l0 t101 _ ?side1 ?side2 A2.out).mono ?_); (case side1 => repeat (first | exact HR0.out | (with_reducible refine Kd.C_alloc ?_ _) | (with_reducible refine Kd.C_drewN ?_ _) | (with_reducible refine Kd.C_drew ?_))); (case side2 => exact HC0.out); rintro e w' ⟨rfl, ⟨nd, rfl⟩⟩; refine ⟨_, rfl, ?_⟩))
  go_ret
  exact ⟨by first | rfl | (simp; done) | (simp [*]; done), by repeat (first | exact Drawn0.refl _ | apply Drawn0.step)⟩

end Go.Proofs.Ytcclmaicdmogjaa.P

-- Written by wip/pr.py over the kit's print
namespace Go.Proofs.Ytcclmaicdmogjaa.P
open Go.RowKit Go.Proofs.YtcclmaicdmogjaaW.PrintWords Go.Proofs.YtcclmaicdmogjaaW.PrintLast Go.Proofs.YtcclmaicdmogjaaW.PrintMore
attribute [local go_sem] max2_int min2_int max_two min_two max_three min_three max_four min_four   -- for this text's walks alone
set_option linter.unusedVariables false
set_option linter.unusedSimpArgs false

/-! ### tabsum_Adjust: function 31 -/
def tabsum_Adjust.f (a0 : Int) : Option (Int) := some ((2981146554 - a0) % 4294967296)
set_option maxHeartbeats 8000000 in
set_option maxRecDepth 100000 in
theorem tabsum_Adjust.calls (a0 : Int) (r : Int) (w : World) (h : tabsum_Adjust.f a0 = some r) :
    Calls Try.prog 31 #[.int .u32 a0] w fun e w' => e = .returned (.int .u32 r) ∧ Drawn0 w w' := by
  have H : (some ((2981146554 - a0) % 4294967296)) = some r := h
  clear h
  obtain rfl := Option.some.inj H
  go_enter Try.func31, Try.ntmps31
  go_wp2
  go_ret
  exact ⟨by first | rfl | (simp; done) | (simp [*]; done), by repeat (first | exact Drawn0.refl _ | apply Drawn0.step)⟩

end Go.Proofs.Ytcclmaicdmogjaa.P

-- Written by wip/pr.py over the kit's print
namespace Go.Proofs.Ytcclmaicdmogjaa.P
open Go.RowKit Go.Proofs.YtcclmaicdmogjaaW.PrintWords Go.Proofs.YtcclmaicdmogjaaW.PrintLast Go.Proofs.YtcclmaicdmogjaaW.PrintMore
attribute [local go_sem] max2_int min2_int max_two min_two max_three min_three max_four min_four   -- for this text's walks alone
set_option linter.unusedVariables false
set_option linter.unusedSimpArgs false

/-! ### calamuslaw03_alive: function 25 -/
def calamuslaw03_alive.f  : Option (Bool) := (tabsum_Sum.f (([0, 0, 0, 1, 2] : List Int))).bind fun t105 => (if t105 = 33554433 then ((tabsum_Adjust.f 0).bind fun t106 => (if t106 = 2981146554 then ((tabsum_Adjust.f 2981146554).bind fun t107 => (some (t107 == 0))) else (some false))) else (some false))
set_option maxHeartbeats 8000000 in
set_option maxRecDepth 100000 in
theorem calamuslaw03_alive.calls  (r : Bool) (w : World) (h : calamuslaw03_alive.f  = some r) :
    Calls Try.prog 25 #[] w fun e w' => e = .returned (.bool r) ∧ Below w.heap.size w w' := by
  have HB := Aside0.mk (Below.refl w.heap.size w)
  have H : ((tabsum_Sum.f (([0, 0, 0, 1, 2] : List Int))).bind fun t105 => (if t105 = 33554433 then ((tabsum_Adjust.f 0).bind fun t106 => (if t106 = 2981146554 then ((tabsum_Adjust.f 2981146554).bind fun t107 => (some (t107 == 0))) else (some false))) else (some false))) = some r := h
  clear h
  obtain ⟨y102, hy102⟩ : ∃ y_ : List Int, y_ = (([0, 0, 0, 1, 2] : List Int)) := ⟨_, rfl⟩
  replace H : ((tabsum_Sum.f y102).bind fun t105 => (if t105 = 33554433 then ((tabsum_Adjust.f 0).bind fun t106 => (if t106 = 2981146554 then ((tabsum_Adjust.f 2981146554).bind fun t107 => (some (t107 == 0))) else (some false))) else (some false))) = some r := by first | (rw [hy102]; with_reducible exact H) | (have H2_ := (Option.bind_some _ _).symm.trans H; rw [hy102]; with_reducible exact H2_) | (have H2_ := (Option.bind_some _ _).symm.trans H; with_reducible exact H2_) | with_reducible exact H | (rw [hy102]; exact H) | exact H
  have Ny102 := Aside0.mk hy102
  clear hy102
  replace H := Option.bind_eq_some_iff.mp H
  obtain ⟨t105, A10, H⟩ := H
  replace H : (if t105 = 33554433 then ((tabsum_Adjust.f 0).bind fun t106 => (if t106 = 2981146554 then ((tabsum_Adjust.f 2981146554).bind fun t107 => (some (t107 == 0))) else (some false))) else (some false)) = some r := H
  have A1 := Aside0.mk A10
  clear A10
  by_cases c2 : t105 = 33554433
  · rw [if_pos c2] at H
    have c2b0 : (t105 == 33554433) = true := beq_iff_eq.mpr c2
    have c2b1 : (t105 != 33554433) = false := bne_eq_false_iff_eq.mpr c2
    clear c2
    replace H := Option.bind_eq_some_iff.mp H
    obtain ⟨t106, A30, H⟩ := H
    replace H : (if t106 = 2981146554 then ((tabsum_Adjust.f 2981146554).bind fun t107 => (some (t107 == 0))) else (some false)) = some r := H
    have A3 := Aside0.mk A30
    clear A30
    by_cases c4 : t106 = 2981146554
    · rw [if_pos c4] at H
      have c4b0 : (t106 == 2981146554) = true := beq_iff_eq.mpr c4
      have c4b1 : (t106 != 2981146554) = false := bne_eq_false_iff_eq.mpr c4
      clear c4
      replace H := Option.bind_eq_some_iff.mp H
      obtain ⟨t107, A50, H⟩ := H
      replace H : (some (t107 == 0)) = some r := H
      have A5 := Aside0.mk A50
      clear A50
      obtain rfl := Option.some.inj H
      go_enter Try.func25, Try.ntmps25
      go_wp2_with (first | ((with_reducible refine gate_dst (N := 1) rfl ?_); refine Kd.R_lit (Kd.int .u8) _ 5 ?hg (N := 1) ?hd (xs := ([0, 0, 0, 1, 2] : List Int)) (inner := [.int .u8 0, .int .u8 0, .int .u8 0, .int .u8 1, .int .u8 2]) (ok := fun _ => True) (okp := fun _ => True) ?hr ?hp (fun _ hk => hk) trivial (Below.refl _ _) (Nat.le_refl _) (by simp) ?_; (case hd => rfl); (case hg => rfl); (case hr => first | (go_simp; done) | (go_simp; rfl)); (case hp => exact (Reps.one (show Kd.M (Kd.int .u8) _ _ _ 0 [.int .u8 0] from rfl) (Reps.one (show Kd.M (Kd.int .u8) _ _ _ 0 [.int .u8 0] from rfl) (Reps.one (show Kd.M (Kd.int .u8) _ _ _ 0 [.int .u8 0] from rfl) (Reps.one (show Kd.M (Kd.int .u8) _ _ _ 1 [.int .u8 1] from rfl) (Reps.one (show Kd.M (Kd.int .u8) _ _ _ 2 [.int .u8 2] from rfl) (Reps.none _ _))))))); intro v103 w6 ho7 hb hg_ hnew_; clear hg_ hnew_; (first | rw [← Ny102.out] at ho7 | (simp only [Int.reduceToNat] at ho7; rw [← Ny102.out] at ho7)); have n0_ := Aside0.mk (Kd.R_lower ho7 (below_size (by repeat (first | (with_reducible first | exact HB.out | apply below_alloc | apply pw_below_drewN | apply below_drew1) | exact HB.out)))); have n1_ := Aside0.mk (below_step (by repeat (first | (with_reducible first | exact HB.out | apply below_alloc | apply pw_below_drewN | apply below_drew1) | exact HB.out)) hb); clear HB; have HO104 := n0_; have HB := n1_; clear n0_ n1_; clear hb ho7; obtain ⟨Ao8, co8, eo8⟩ := Kd.R_slice HO104.out; subst eo8) | ((with_reducible refine gate_callee (f := 27) rfl ?_); refine goesL_ (some 2) rfl rfl Try.func27 (by kernel_rfl) rfl #[.slice Ao8 y102.length co8] rfl (by (try simp only [List.map_toArray, List.map_cons, List.map_nil]); first | done | rfl | (simp only [List.length_drop, List.length_take]; rfl)) ?_; (with_reducible refine (tabsum_Sum.calls _ _ y102 t105 _ ?side1 ?side2 A1.out).mono ?_); (case side1 => repeat (first | exact (Kd.R_reads' HO104.out).2.2 | (with_reducible refine Kd.C_alloc ?_ _) | (with_reducible refine Kd.C_drewN ?_ _) | (with_reducible refine Kd.C_drew ?_))); (case side2 => exact (Kd.R_reads' HO104.out).2.1); rintro e w' ⟨rfl, ⟨nd, rfl⟩⟩; refine ⟨_, rfl, ?_⟩) | (go_at_call 31; (with_reducible refine (tabsum_Adjust.calls 0 t106 _ A3.out).mono ?_); rintro e w' ⟨rfl, ⟨nd, rfl⟩⟩) | (go_at_call 31; (with_reducible refine (tabsum_Adjust.calls 2981146554 t107 _ A5.out).mono ?_); rintro e w' ⟨rfl, ⟨nd, rfl⟩⟩))
      go_ret
      exact ⟨by first | rfl | (simp [errW_none, errW_some] <;> rfl) | (simp [*, errW_none, errW_some] <;> rfl), by repeat (first | (with_reducible first | exact HB.out | apply below_alloc | apply pw_below_drewN | apply below_drew1) | exact HB.out)⟩
    · rw [if_neg c4] at H
      have c4b0 : (t106 == 2981146554) = false := beq_eq_false_iff_ne.mpr c4
      have c4b1 : (t106 != 2981146554) = true := bne_iff_ne.mpr c4
      obtain rfl := Option.some.inj H
      go_enter Try.func25, Try.ntmps25
      go_wp2_with (first | ((with_reducible refine gate_dst (N := 1) rfl ?_); refine Kd.R_lit (Kd.int .u8) _ 5 ?hg (N := 1) ?hd (xs := ([0, 0, 0, 1, 2] : List Int)) (inner := [.int .u8 0, .int .u8 0, .int .u8 0, .int .u8 1, .int .u8 2]) (ok := fun _ => True) (okp := fun _ => True) ?hr ?hp (fun _ hk => hk) trivial (Below.refl _ _) (Nat.le_refl _) (by simp) ?_; (case hd => rfl); (case hg => rfl); (case hr => first | (go_simp; done) | (go_simp; rfl)); (case hp => exact (Reps.one (show Kd.M (Kd.int .u8) _ _ _ 0 [.int .u8 0] from rfl) (Reps.one (show Kd.M (Kd.int .u8) _ _ _ 0 [.int .u8 0] from rfl) (Reps.one (show Kd.M (Kd.int .u8) _ _ _ 0 [.int .u8 0] from rfl) (Reps.one (show Kd.M (Kd.int .u8) _ _ _ 1 [.int .u8 1] from rfl) (Reps.one (show Kd.M (Kd.int .u8) _ _ _ 2 [.int .u8 2] from rfl) (Reps.none _ _))))))); intro v103 w9 ho10 hb hg_ hnew_; clear hg_ hnew_; (first | rw [← Ny102.out] at ho10 | (simp only [Int.reduceToNat] at ho10; rw [← Ny102.out] at ho10)); have n0_ := Aside0.mk (Kd.R_lower ho10 (below_size (by repeat (first | (with_reducible first | exact HB.out | apply below_alloc | apply pw_below_drewN | apply below_drew1) | exact HB.out)))); have n1_ := Aside0.mk (below_step (by repeat (first | (with_reducible first | exact HB.out | apply below_alloc | apply pw_below_drewN | apply below_drew1) | exact HB.out)) hb); clear HB; have HO104 := n0_; have HB := n1_; clear n0_ n1_; clear hb ho10; obtain ⟨Ao11, co11, eo11⟩ := Kd.R_slice HO104.out; subst eo11) | ((with_reducible refine gate_callee (f := 27) rfl ?_); refine goesL_ (some 2) rfl rfl Try.func27 (by kernel_rfl) rfl #[.slice Ao11 y102.length co11] rfl (by (try simp only [List.map_toArray, List.map_cons, List.map_nil]); first | done | rfl | (simp only [List.length_drop, List.length_take]; rfl)) ?_; (with_reducible refine (tabsum_Sum.calls _ _ y102 t105 _ ?side1 ?side2 A1.out).mono ?_); (case side1 => repeat (first | exact (Kd.R_reads' HO104.out).2.2 | (with_reducible refine Kd.C_alloc ?_ _) | (with_reducible refine Kd.C_drewN ?_ _) | (with_reducible refine Kd.C_drew ?_))); (case side2 => exact (Kd.R_reads' HO104.out).2.1); rintro e w' ⟨rfl, ⟨nd, rfl⟩⟩; refine ⟨_, rfl, ?_⟩) | (go_at_call 31; (with_reducible refine (tabsum_Adjust.calls 0 t106 _ A3.out).mono ?_); rintro e w' ⟨rfl, ⟨nd, rfl⟩⟩))
      go_ret
      exact ⟨by first | rfl | (simp [errW_none, errW_some] <;> rfl) | (simp [*, errW_none, errW_some] <;> rfl), by repeat (first | (with_reducible first | exact HB.out | apply below_alloc | apply pw_below_drewN | apply below_drew1) | exact HB.out)⟩
  · rw [if_neg c2] at H
    have c2b0 : (t105 == 33554433) = false := beq_eq_false_iff_ne.mpr c2
    have c2b1 : (t105 != 33554433) = true := bne_iff_ne.mpr c2
    obtain rfl := Option.some.inj H
    go_enter Try.func25, Try.ntmps25
    go_wp2_with (first | ((with_reducible refine gate_dst (N := 1) rfl ?_); refine Kd.R_lit (Kd.int .u8) _ 5 ?hg (N := 1) ?hd (xs := ([0, 0, 0, 1, 2] : List Int)) (inner := [.int .u8 0, .int .u8 0, .int .u8 0, .int .u8 1, .int .u8 2]) (ok := fun _ => True) (okp := fun _ => True) ?hr ?hp (fun _ hk => hk) trivial (Below.refl _ _) (Nat.le_refl _) (by simp) ?_; (case hd => rfl); (case hg => rfl); (case hr => first | (go_simp; done) | (go_simp; rfl)); (case hp => exact (Reps.one (show Kd.M (Kd.int .u8) _ _ _ 0 [.int .u8 0] from rfl) (Reps.one (show Kd.M (Kd.int .u8) _ _ _ 0 [.int .u8 0] from rfl) (Reps.one (show Kd.M (Kd.int .u8) _ _ _ 0 [.int .u8 0] from rfl) (Reps.one (show Kd.M (Kd.int .u8) _ _ _ 1 [.int .u8 1] from rfl) (Reps.one (show Kd.M (Kd.int .u8) _ _ _ 2 [.int .u8 2] from rfl) (Reps.none _ _))))))); intro v103 w12 ho13 hb hg_ hnew_; clear hg_ hnew_; (first | rw [← Ny102.out] at ho13 | (simp only [Int.reduceToNat] at ho13; rw [← Ny102.out] at ho13)); have n0_ := Aside0.mk (Kd.R_lower ho13 (below_size (by repeat (first | (with_reducible first | exact HB.out | apply below_alloc | apply pw_below_drewN | apply below_drew1) | exact HB.out)))); have n1_ := Aside0.mk (below_step (by repeat (first | (with_reducible first | exact HB.out | apply below_alloc | apply pw_below_drewN | apply below_drew1) | exact HB.out)) hb); clear HB; have HO104 := n0_; have HB := n1_; clear n0_ n1_; clear hb ho13; obtain ⟨Ao14, co14, eo14⟩ := Kd.R_slice HO104.out; subst eo14) | ((with_reducible refine gate_callee (f := 27) rfl ?_); refine goesL_ (some 2) rfl rfl Try.func27 (by kernel_rfl) rfl #[.slice Ao14 y102.length co14] rfl (by (try simp only [List.map_toArray, List.map_cons, List.map_nil]); first | done | rfl | (simp only [List.length_drop, List.length_take]; rfl)) ?_; (with_reducible refine (tabsum_Sum.calls _ _ y102 t105 _ ?side1 ?side2 A1.out).mono ?_); (case side1 => repeat (first | exact (Kd.R_reads' HO104.out).2.2 | (with_reducible refine Kd.C_alloc ?_ _) | (with_reducible refine Kd.C_drewN ?_ _) | (with_reducible refine Kd.C_drew ?_))); (case side2 => exact (Kd.R_reads' HO104.out).2.1); rintro e w' ⟨rfl, ⟨nd, rfl⟩⟩; refine ⟨_, rfl, ?_⟩))
    go_ret
    exact ⟨by first | rfl | (simp [errW_none, errW_some] <;> rfl) | (simp [*, errW_none, errW_some] <;> rfl), by repeat (first | (with_reducible first | exact HB.out | apply below_alloc | apply pw_below_drewN | apply below_drew1) | exact HB.out)⟩

end Go.Proofs.Ytcclmaicdmogjaa.P

-- Written by wip/pr.py over the kit's print
namespace Go.Proofs.Ytcclmaicdmogjaa.P
open Go.RowKit Go.Proofs.YtcclmaicdmogjaaW.PrintWords Go.Proofs.YtcclmaicdmogjaaW.PrintLast Go.Proofs.YtcclmaicdmogjaaW.PrintMore
attribute [local go_sem] max2_int min2_int max_two min_two max_three min_three max_four min_four   -- for this text's walks alone
set_option linter.unusedVariables false
set_option linter.unusedSimpArgs false

/-! ### calamuslaw03_TabsumPieces: function 4 -/
mutual
def calamuslaw03_TabsumPieces.j0 : Nat → List (List Int) → List Int → Bool → Option (Bool)
  | 0, _, _, _ => none
  | k + 1, x0, x1, x19 => if x19 = true then (some true) else (calamuslaw03_TabsumPieces.l0 k x1 ([] : List Int) 0 x0 (x0.length : Int) 0)
def calamuslaw03_TabsumPieces.l0 : Nat → List Int → List Int → Int → List (List Int) → Int → Int → Option (Bool)
  | 0, _, _, _, _, _, _ => none
  | k + 1, x1, x5, x6, x20, x21, x22 => if x22 < x21 then (if 0 ≤ x22 then (if x22 < (x20.length : Int) then (if ((rd_L2 x20 x22).length : Int) > 2000 then (some true) else (if 0 ≤ (wrap64 ((wrap64 (((rd_L2 x20 x22).length : Int) / 4)) * 4)) then (if (wrap64 ((wrap64 (((rd_L2 x20 x22).length : Int) / 4)) * 4)) ≤ ((rd_L2 x20 x22).length : Int) then (if x5.length + ((rd_L2 x20 x22).take ((wrap64 ((wrap64 (((rd_L2 x20 x22).length : Int) / 4)) * 4)) : Int).toNat).length < 140737488355328 then ((tabsum_More.f x6 ((rd_L2 x20 x22).take ((wrap64 ((wrap64 (((rd_L2 x20 x22).length : Int) / 4)) * 4)) : Int).toNat)).bind fun t133 => (calamuslaw03_TabsumPieces.l0 k x1 (x5 ++ ((rd_L2 x20 x22).take ((wrap64 ((wrap64 (((rd_L2 x20 x22).length : Int) / 4)) * 4)) : Int).toNat)) t133 x20 x21 (wrap64 (x22 + 1)))) else (none)) else (none)) else (none))) else (none)) else (none)) else (if x5.length + x1.length < 140737488355328 then ((tabsum_Sum.f (x5 ++ x1)).bind fun t137 => ((tabsum_More.f x6 x1).bind fun t138 => (some (t137 == t138)))) else (none))
end
def calamuslaw03_TabsumPieces.f (k : Nat) (l0 : List (List Int)) (l1 : List Int) : Option (Bool) := (calamuslaw03_alive.f).bind fun t127 => (if t127 = true then (if (l0.length : Int) > 50 then (calamuslaw03_TabsumPieces.j0 k l0 l1 true) else (calamuslaw03_TabsumPieces.j0 k l0 l1 (decide ((l1.length : Int) > 5000)))) else (some false))
theorem calamuslaw03_TabsumPieces.mono_l : ∀ k, (∀ y0 y1 y2, LeO (calamuslaw03_TabsumPieces.j0 k y0 y1 y2) (calamuslaw03_TabsumPieces.j0 (k + 1) y0 y1 y2)) ∧ (∀ y0 y1 y2 y3 y4 y5, LeO (calamuslaw03_TabsumPieces.l0 k y0 y1 y2 y3 y4 y5) (calamuslaw03_TabsumPieces.l0 (k + 1) y0 y1 y2 y3 y4 y5))
  | 0 => ⟨fun _ _ _ r h => by simp [calamuslaw03_TabsumPieces.j0] at h, fun _ _ _ _ _ _ r h => by simp [calamuslaw03_TabsumPieces.l0] at h⟩
  | k + 1 => by
    obtain ⟨ih0, ih1⟩ := calamuslaw03_TabsumPieces.mono_l k
    refine ⟨?_, ?_⟩
    · intro y0 y1 y2
      unfold calamuslaw03_TabsumPieces.j0
      repeat' first
      | (with_reducible exact ih0 _ _ _)
      | (with_reducible exact ih1 _ _ _ _ _ _)
      | (with_reducible exact LeO.refl _)
      | (with_reducible exact LeO.none _)
      | (with_reducible refine LeO.ite ?_ ?_)
      | (with_reducible refine LeO.bind ?_ (fun _ => ?_))
      | exact ih0 _ _ _
      | exact ih1 _ _ _ _ _ _
      | exact LeO.none _
      | refine LeO.ite ?_ ?_
      | refine LeO.bind ?_ (fun _ => ?_)
    · intro y0 y1 y2 y3 y4 y5
      unfold calamuslaw03_TabsumPieces.l0
      repeat' first
      | (with_reducible exact ih0 _ _ _)
      | (with_reducible exact ih1 _ _ _ _ _ _)
      | (with_reducible exact LeO.refl _)
      | (with_reducible exact LeO.none _)
      | (with_reducible refine LeO.ite ?_ ?_)
      | (with_reducible refine LeO.bind ?_ (fun _ => ?_))
      | exact ih0 _ _ _
      | exact ih1 _ _ _ _ _ _
      | exact LeO.none _
      | refine LeO.ite ?_ ?_
      | refine LeO.bind ?_ (fun _ => ?_)
theorem calamuslaw03_TabsumPieces.mono : ∀ a0 a1 k, LeO (calamuslaw03_TabsumPieces.f k a0 a1) (calamuslaw03_TabsumPieces.f (k + 1) a0 a1) := by
  intro a0 a1 k
  obtain ⟨ih0, ih1⟩ := calamuslaw03_TabsumPieces.mono_l k
  unfold calamuslaw03_TabsumPieces.f
  repeat' first
      | (with_reducible exact ih0 _ _ _)
      | (with_reducible exact ih1 _ _ _ _ _ _)
      | (with_reducible exact LeO.refl _)
      | (with_reducible exact LeO.none _)
      | (with_reducible refine LeO.ite ?_ ?_)
      | (with_reducible refine LeO.bind ?_ (fun _ => ?_))
      | exact ih0 _ _ _
      | exact ih1 _ _ _ _ _ _
      | exact LeO.none _
      | refine LeO.ite ?_ ?_
      | refine LeO.bind ?_ (fun _ => ?_)
set_option maxHeartbeats 8000000 in
set_option maxRecDepth 100000 in
theorem calamuslaw03_TabsumPieces.calls (k : Nat) (A0 : Option Addr) (c0 : Nat) (l0 : List (List Int)) (A1 : Option Addr) (c1 : Nat) (l1 : List Int) (r : Bool) (w : World) (hr0 : Kd.C (Kd.slice 5 (Kd.int .u8)) w A0 l0.length l0) (hc0 : l0.length ≤ c0) (hr1 : Kd.C (Kd.int .u8) w A1 l1.length l1) (hc1 : l1.length ≤ c1) (h : calamuslaw03_TabsumPieces.f k l0 l1 = some r) :
    Calls Try.prog 4 #[.slice A0 l0.length c0, .slice A1 l1.length c1] w fun e w' => e = .returned (.bool r) ∧ Below w.heap.size w w' := by
  have HR0 := Aside0.mk hr0
  have HC0 := Aside0.mk hc0
  clear hr0 hc0
  have HR1 := Aside0.mk hr1
  have HC1 := Aside0.mk hc1
  clear hr1 hc1
  have HB := Aside0.mk (Below.refl w.heap.size w)
  have H : ((calamuslaw03_alive.f).bind fun t127 => (if t127 = true then (if (l0.length : Int) > 50 then (calamuslaw03_TabsumPieces.j0 k l0 l1 true) else (calamuslaw03_TabsumPieces.j0 k l0 l1 (decide ((l1.length : Int) > 5000)))) else (some false))) = some r := h
  clear h
  replace H := Option.bind_eq_some_iff.mp H
  obtain ⟨t127, A30, H⟩ := H
  replace H : (if t127 = true then (if (l0.length : Int) > 50 then (calamuslaw03_TabsumPieces.j0 k l0 l1 true) else (calamuslaw03_TabsumPieces.j0 k l0 l1 (decide ((l1.length : Int) > 5000)))) else (some false)) = some r := H
  have A3 := Aside0.mk A30
  clear A30
  by_cases c4 : t127 = true
  · subst c4
    have H1 : (if (l0.length : Int) > 50 then (calamuslaw03_TabsumPieces.j0 k l0 l1 true) else (calamuslaw03_TabsumPieces.j0 k l0 l1 (decide ((l1.length : Int) > 5000)))) = some r := by rw [if_pos rfl] at H; exact H
    clear H
    have H := H1
    clear H1
    have HC5 := Aside0.mk H
    clear H
    go_enter Try.func4, Try.ntmps4
    go_upto_region 3 with (first | ((with_reducible refine gate_callee (f := 25) rfl ?_); refine goesL_ (some 10) rfl rfl Try.func25 (by kernel_rfl) rfl #[] rfl (by (try simp only [List.map_toArray, List.map_cons, List.map_nil]); first | done | rfl | (simp only [List.length_drop, List.length_take]; rfl)) ?_; (with_reducible refine (calamuslaw03_alive.calls  true _ A3.out).mono ?_); rintro e w6 ⟨rfl, hb⟩; refine ⟨_, rfl, ?_⟩; have n0_ := Aside0.mk (below_step (by repeat (first | (with_reducible first | exact HB.out | apply below_alloc | apply pw_below_drewN | apply below_drew1) | exact HB.out)) hb); clear HB; have HB := n0_; clear n0_; (try clear hb); (try clear hb2); (try clear hk); (try clear hi)))
    (try simp only [Act.put, List.setIfInBounds_toArray, List.set_cons_zero, List.set_cons_succ])
    go_cut [19] (fun v19 wc => ∃ (kq : Nat) (x19_4 : Bool), v19 = .bool x19_4 ∧ Aside0 (calamuslaw03_TabsumPieces.j0 kq l0 l1 x19_4 = some r) ∧ Aside0 (kq ≤ k) ∧ Aside0 (Below w.heap.size w wc))
    case first =>
      have H := HC5.out
      clear HC5
      by_cases c7 : (l0.length : Int) > 50
      · rw [if_pos c7] at H
        have c7b0 : decide (50 < (l0.length : Int)) = true := decide_eq_true c7
        have c7b1 : decide (50 < l0.length) = true := decide_eq_true (by omega)
        clear c7
        (first | rw [c7b0] | (simp only [i64_w, i32_w]; rw [c7b0]) | skip)
        have H' := Aside0.mk H
        clear H
        go_wp2
        go_meet
        case rel => exact ⟨_, (true), (by first | rfl | (simp; done) | (simp [*]; done)), H', ⟨by first | omega | exact Nat.le_refl _⟩, ⟨by repeat (first | (with_reducible first | exact HB.out | apply below_alloc | apply pw_below_drewN | apply below_drew1) | exact HB.out)⟩⟩
      · rw [if_neg c7] at H
        have c7b0 : decide (50 < (l0.length : Int)) = false := decide_eq_false c7
        have c7b1 : decide (50 < l0.length) = false := decide_eq_false (by omega)
        clear c7
        (first | rw [c7b0] | (simp only [i64_w, i32_w]; rw [c7b0]) | skip)
        have H' := Aside0.mk H
        clear H
        go_wp2
        go_meet
        case rel => exact ⟨_, (decide ((l1.length : Int) > 5000)), (by first | rfl | (simp; done) | (simp [*]; done)), H', ⟨by first | omega | exact Nat.le_refl _⟩, ⟨by repeat (first | (with_reducible first | exact HB.out | apply below_alloc | apply pw_below_drewN | apply below_drew1) | exact HB.out)⟩⟩
    case rest =>
      clear HC5
      try clear c1
      try clear c2
      try clear p2
      try clear c4
      try clear c7
      try clear c7b0
      try clear c7b1
      obtain ⟨kq, x19_4, rfl, HA, HJ4, HB⟩ := hcut
      cases kq with
      | zero => exact absurd HA.out (by simp [calamuslaw03_TabsumPieces.j0])
      | succ kj4 =>
        have H := HA.out
        clear HA
        simp only [calamuslaw03_TabsumPieces.j0] at H
        by_cases c8 : x19_4 = true
        · subst c8
          have H1 : (some true) = some r := by rw [if_pos rfl] at H; exact H
          clear H
          have H := H1
          clear H1
          obtain rfl := Option.some.inj H
          go_wp2
          go_ret
          exact ⟨by first | rfl | (simp [errW_none, errW_some] <;> rfl) | (simp [*, errW_none, errW_some] <;> rfl), by repeat (first | (with_reducible first | exact HB.out | apply below_alloc | apply pw_below_drewN | apply below_drew1) | exact HB.out)⟩
        · replace c8 := Bool.eq_false_iff.mpr c8
          subst c8
          have H1 : (calamuslaw03_TabsumPieces.l0 kj4 l1 ([] : List Int) 0 l0 (l0.length : Int) 0) = some r := by rw [if_neg (show ¬ (false = true) by decide)] at H; exact H
          clear H
          have H := H1
          clear H1
          have H' := Aside0.mk H
          clear H
          go_wp2
          go_loopg [5, 6, 22] kj4 (fun kq v5 v6 v22 w' => ∃ (x5_2 : List Int) (x6_2 : Int) (x22_2 : Int), v6 = .int .u32 x6_2 ∧ v22 = .int .i64 x22_2 ∧ Aside0 (calamuslaw03_TabsumPieces.l0 kq l1 x5_2 x6_2 l0 (l0.length : Int) x22_2 = some r) ∧ Aside0 (kq ≤ kj4) ∧ Aside0 (Kd.R (Kd.int .u8) 5 w' w.heap.size (fun _ => True) v5 x5_2) ∧ Aside0 (Below w.heap.size w w'))
          case atStart => exact ⟨(([] : List Int)), (0), (0), (by first | rfl | (simp; done) | (simp [*]; done)), (by first | rfl | (simp; done) | (simp [*]; done)), H', ⟨Nat.le_refl _⟩, ⟨by first | exact Kd.R_nil _ _ _ _ _ | exact Kd.N_nil _ _ _ _ _ | exact Kd.V_nil _ _ _ _ _ | exact Kd.Q_nil _ _ _ _ _ | exact Kd.S_nil _ _ _ _ _⟩, ⟨by repeat (first | (with_reducible first | exact HB.out | apply below_alloc | apply pw_below_drewN | apply below_drew1) | exact HB.out)⟩⟩
          case round =>
            clear H'
            try clear c1
            try clear c2
            try clear p2
            try clear c4
            try clear c7
            try clear c7b0
            try clear c7b1
            try clear c8
            try clear p2
            obtain ⟨x5_2, x6_2, x22_2, rfl, rfl, HA, HK2, HO_5, HB⟩ := hrel
            cases gk with
            | zero => exact absurd HA.out (by simp [calamuslaw03_TabsumPieces.l0])
            | succ k2 =>
              have H := HA.out
              clear HA
              simp only [calamuslaw03_TabsumPieces.l0] at H
              by_cases c9 : x22_2 < (l0.length : Int)
              · rw [if_pos c9] at H
                have c9b0 : decide (x22_2 < (l0.length : Int)) = true := decide_eq_true c9
                clear c9
                by_cases c10 : 0 ≤ x22_2
                · rw [if_pos c10] at H
                  have c10b0 : decide (0 ≤ x22_2) = true := decide_eq_true c10
                  clear c10
                  by_cases c11 : x22_2 < (l0.length : Int)
                  · rw [if_pos c11] at H
                    have c11b0 : decide (x22_2 < (l0.length : Int)) = true := decide_eq_true c11
                    clear c11
                    by_cases c12 : ((rd_L2 l0 x22_2).length : Int) > 2000
                    · rw [if_pos c12] at H
                      have c12b0 : decide (2000 < ((rd_L2 l0 x22_2).length : Int)) = true := decide_eq_true c12
                      have c12b1 : decide (2000 < (rd_L2 l0 x22_2).length) = true := decide_eq_true (by omega)
                      clear c12
                      obtain rfl := Option.some.inj H
                      have p128 : 0 ≤ (x22_2 : Int) := of_decide_eq_true (by first | (with_reducible assumption) | assumption)
                      have q128 : x22_2 < (l0.length : Int) := of_decide_eq_true (by first | (with_reducible assumption) | assumption)
                      obtain ⟨ad128, A128_0, c128_0, e128, hx128_0, hl128_0, hi128_0⟩ := at_L2 HR0.out x22_2 p128 q128
                      cases e128
                      replace hx128_0 := (HB.out.cell (World.block_lt_of_cell? w _ hx128_0)).trans hx128_0
                      have HR128_0 := Aside0.mk hi128_0
                      have HC128_0 := Aside0.mk hl128_0
                      clear hi128_0 hl128_0
                      replace p128 := eq_true p128
                      replace q128 := eq_true q128
                      go_wp2
                      go_ret
                      exact ⟨by first | rfl | (simp [errW_none, errW_some] <;> rfl) | (simp [*, errW_none, errW_some] <;> rfl), by repeat (first | (with_reducible first | exact HB.out | apply below_alloc | apply pw_below_drewN | apply below_drew1) | exact HB.out)⟩
                    · rw [if_neg c12] at H
                      have c12b0 : decide (2000 < ((rd_L2 l0 x22_2).length : Int)) = false := decide_eq_false c12
                      have c12b1 : decide (2000 < (rd_L2 l0 x22_2).length) = false := decide_eq_false (by omega)
                      clear c12
                      obtain ⟨ji13, hji13⟩ : ∃ j_ : Int, (wrap64 ((wrap64 (((rd_L2 l0 x22_2).length : Int) / 4)) * 4)) = j_ := ⟨_, rfl⟩
                      replace H : (if 0 ≤ (ji13) then (if (ji13) ≤ ((rd_L2 l0 x22_2).length : Int) then (if x5_2.length + ((rd_L2 l0 x22_2).take ((ji13) : Int).toNat).length < 140737488355328 then ((tabsum_More.f x6_2 ((rd_L2 l0 x22_2).take ((ji13) : Int).toNat)).bind fun t133 => (calamuslaw03_TabsumPieces.l0 k2 l1 (x5_2 ++ ((rd_L2 l0 x22_2).take ((ji13) : Int).toNat)) t133 l0 (l0.length : Int) (wrap64 (x22_2 + 1)))) else (none)) else (none)) else (none)) = some r := by first | (rw [hji13] at H; exact H) | (simp only [hji13] at H ⊢; exact H)
                      have hji13w : (IntKind.i64.wrap ((wrap64 (((rd_L2 l0 x22_2).length : Int) / 4)) * 4)) = ji13 := (i64_w _).trans hji13
                      by_cases c14 : 0 ≤ (ji13)
                      · rw [if_pos c14] at H
                        have c14b0 := eq_true c14
                        have c14b1 : decide (0 ≤ (ji13)) = true := decide_eq_true c14
                        clear c14
                        by_cases c15 : (ji13) ≤ ((rd_L2 l0 x22_2).length : Int)
                        · rw [if_pos c15] at H
                          have c15b0 := eq_true c15
                          have c15b1 : decide ((ji13) ≤ ((rd_L2 l0 x22_2).length : Int)) = true := decide_eq_true c15
                          clear c15
                          by_cases c16 : x5_2.length + ((rd_L2 l0 x22_2).take ((ji13) : Int).toNat).length < 140737488355328
                          · rw [if_pos c16] at H
                            have LMc16 := Aside0.mk c16
                            clear c16
                            obtain ⟨y130, hy130⟩ : ∃ y_ : List Int, y_ = (x5_2 ++ ((rd_L2 l0 x22_2).take ((ji13) : Int).toNat)) := ⟨_, rfl⟩
                            replace H : ((tabsum_More.f x6_2 ((rd_L2 l0 x22_2).take ((ji13) : Int).toNat)).bind fun t133 => (calamuslaw03_TabsumPieces.l0 k2 l1 y130 t133 l0 (l0.length : Int) (wrap64 (x22_2 + 1)))) = some r := by first | (rw [hy130]; with_reducible exact H) | (have H2_ := (Option.bind_some _ _).symm.trans H; rw [hy130]; with_reducible exact H2_) | (have H2_ := (Option.bind_some _ _).symm.trans H; with_reducible exact H2_) | with_reducible exact H | (rw [hy130]; exact H) | exact H
                            have Ny130 := Aside0.mk hy130
                            clear hy130
                            replace H := Option.bind_eq_some_iff.mp H
                            obtain ⟨t133, A170, H⟩ := H
                            replace H : (calamuslaw03_TabsumPieces.l0 k2 l1 y130 t133 l0 (l0.length : Int) (wrap64 (x22_2 + 1))) = some r := H
                            have A17 := Aside0.mk A170
                            clear A170
                            have H' := Aside0.mk H
                            clear H
                            have p128 : 0 ≤ (x22_2 : Int) := of_decide_eq_true (by first | (with_reducible assumption) | assumption)
                            have q128 : x22_2 < (l0.length : Int) := of_decide_eq_true (by first | (with_reducible assumption) | assumption)
                            obtain ⟨ad128, A128_0, c128_0, e128, hx128_0, hl128_0, hi128_0⟩ := at_L2 HR0.out x22_2 p128 q128
                            cases e128
                            replace hx128_0 := (HB.out.cell (World.block_lt_of_cell? w _ hx128_0)).trans hx128_0
                            have HR128_0 := Aside0.mk hi128_0
                            have HC128_0 := Aside0.mk hl128_0
                            clear hi128_0 hl128_0
                            replace p128 := eq_true p128
                            replace q128 := eq_true q128
                            obtain ⟨i018, hi018, _, hsz18, _⟩ := info_parts info5
                            obtain ⟨hcut18, hA18, hC18⟩ := print_take_of (P := Try.prog) (Value.int .u8) 0 23 5 .i64 Try.underlying23 hi018 hsz18 A128_0 c128_0 (rd_L2 l0 x22_2) (ji13) (of_decide_eq_true (by first | (with_reducible assumption) | assumption)) (of_decide_eq_true (by first | (with_reducible assumption) | assumption)) HC128_0.out
                            have HR129 := Aside0.mk (Kd.C_of_reads (h1 := fun _ => rfl) (hA18 _ (Kd.reads_of_C HR128_0.out)))
                            have HC129 := Aside0.mk hC18
                            clear hA18 hC18 hi018 hsz18
                            go_wp2_with (first | ((with_reducible refine gate_builtin (b := .append) (xs := #[.tmp 35, .tmp 36]) rfl ?_); (try (refine gate_guard (by rfl) ?_; dsimp only)); at_builtin; refine Kd.R_append_rows (Kd.int .u8) (w0 := w) w.heap.size rfl (.tmp 35) (.tmp 36) 23 5 (.int .u8 0) 1 rfl Try.underlying23 info5 rfl (by decide) (by omega) u5 x5_2 ((rd_L2 l0 x22_2).take ((ji13) : Int).toNat) _ _ _ (fun _ => True) (fun _ => False) rfl rfl ?aO ?aR (fun _ _ h => h) (fun _ h => h.elim) ?aF ?aB ?aS ?aL ?_; (case aR => first | (have hln_ : ((rd_L2 l0 x22_2).take ((ji13) : Int).toNat).length = (ji13).toNat := (by rw [List.length_take]; have h_ : ((ji13) : Int) ≤ ((rd_L2 l0 x22_2).length : Int) := of_decide_eq_true (by first | (with_reducible assumption) | assumption); omega); have hc_ := (Kd.C_below HR129.out HB.out); rw [hln_] at hc_; exact hc_) | (rw [← show ((rd_L2 l0 x22_2).take ((ji13) : Int).toNat).length = (ji13).toNat from (by rw [List.length_take]; have h_ : ((ji13) : Int) ≤ ((rd_L2 l0 x22_2).length : Int) := of_decide_eq_true (by first | (with_reducible assumption) | assumption); omega)]; repeat (first | exact (Kd.C_below HR129.out HB.out) | (with_reducible refine Kd.C_alloc ?_ _) | (with_reducible refine Kd.C_drewN ?_ _) | (with_reducible refine Kd.C_drew ?_))) | (repeat (first | exact (Kd.C_below HR129.out HB.out) | (with_reducible refine Kd.C_alloc ?_ _) | (with_reducible refine Kd.C_drewN ?_ _) | (with_reducible refine Kd.C_drew ?_)))); (case aB => exact (by repeat (first | (with_reducible first | exact HB.out | apply below_alloc | apply pw_below_drewN | apply below_drew1) | exact HB.out))); (case aF => exact (fun _ _ => trivial)); (case aO => exact (by (with_reducible repeat (first | apply Kd.R_alloc | apply Kd.R_drewN | apply Kd.R_drew)); exact HO_5.out)); (case aS => exact (below_size (by repeat (first | (with_reducible first | exact HB.out | apply below_alloc | apply pw_below_drewN | apply below_drew1) | exact HB.out)))); (case aL => have := LMc16.out; have hlx_ := (show ((rd_L2 l0 x22_2).take ((ji13) : Int).toNat).length = (ji13).toNat from (by rw [List.length_take]; have h_ : ((ji13) : Int) ≤ ((rd_L2 l0 x22_2).length : Int) := of_decide_eq_true (by first | (with_reducible assumption) | assumption); omega)); omega); intro v131 w19 ho hb hg hat; rw [← Ny130.out] at ho; have n0_ := Aside0.mk (hb); have n1_ := Aside0.mk (ho); clear HB; clear HO_5; have HB := n0_; have HO132 := n1_; clear n0_ n1_; clear ho hb hg hat) | ((with_reducible refine gate_callee (f := 29) rfl ?_); refine goesL_ (some 40) rfl rfl Try.func29 (by kernel_rfl) rfl #[.int .u32 x6_2, .slice A128_0 ((rd_L2 l0 x22_2).take ((ji13) : Int).toNat).length c128_0] rfl (by (try simp only [List.map_toArray, List.map_cons, List.map_nil]); first | done | (rw [show ((rd_L2 l0 x22_2).take ((ji13) : Int).toNat).length = (ji13).toNat from (by rw [List.length_take]; have h_ : ((ji13) : Int) ≤ ((rd_L2 l0 x22_2).length : Int) := of_decide_eq_true (by first | (with_reducible assumption) | assumption); omega)] <;> rfl) | (simp only [hji13]; rfl) | rfl | (simp only [List.length_drop, List.length_take]; rfl)) ?_; (with_reducible refine (tabsum_More.calls x6_2 _ _ ((rd_L2 l0 x22_2).take ((ji13) : Int).toNat) t133 _ ?side1 ?side2 A17.out).mono ?_); (case side1 => repeat (first | exact (Kd.C_below HR129.out HB.out) | (with_reducible refine Kd.C_alloc ?_ _) | (with_reducible refine Kd.C_drewN ?_ _) | (with_reducible refine Kd.C_drew ?_))); (case side2 => exact HC129.out); rintro e w' ⟨rfl, ⟨nd, rfl⟩⟩; refine ⟨_, rfl, ?_⟩))
                            go_roundg k2
                            case measure => have := HJ4.out; have := HK2.out; omega
                            case rel => exact ⟨(y130), (t133), (wrap64 (x22_2 + 1)), (by first | rfl | (simp; done) | (simp [*]; done)), (by first | rfl | (simp; done) | (simp [*]; done)), H', ⟨by have := HJ4.out; have := HK2.out; omega⟩, ⟨by (with_reducible repeat (first | apply Kd.R_alloc | apply Kd.R_drewN | apply Kd.R_drew)); exact HO132.out⟩, ⟨by repeat (first | (with_reducible first | exact HB.out | apply below_alloc | apply pw_below_drewN | apply below_drew1) | exact HB.out)⟩⟩
                          · rw [if_neg c16] at H
                            exact absurd H (by simp)
                        · rw [if_neg c15] at H
                          exact absurd H (by simp)
                      · rw [if_neg c14] at H
                        exact absurd H (by simp)
                  · rw [if_neg c11] at H
                    exact absurd H (by simp)
                · rw [if_neg c10] at H
                  exact absurd H (by simp)
              · rw [if_neg c9] at H
                have c9b0 : decide (x22_2 < (l0.length : Int)) = false := decide_eq_false c9
                clear c9
                by_cases c20 : x5_2.length + l1.length < 140737488355328
                · rw [if_pos c20] at H
                  have LMc20 := Aside0.mk c20
                  clear c20
                  obtain ⟨y134, hy134⟩ : ∃ y_ : List Int, y_ = (x5_2 ++ l1) := ⟨_, rfl⟩
                  replace H : ((tabsum_Sum.f y134).bind fun t137 => ((tabsum_More.f x6_2 l1).bind fun t138 => (some (t137 == t138)))) = some r := by first | (rw [hy134]; with_reducible exact H) | (have H2_ := (Option.bind_some _ _).symm.trans H; rw [hy134]; with_reducible exact H2_) | (have H2_ := (Option.bind_some _ _).symm.trans H; with_reducible exact H2_) | with_reducible exact H | (rw [hy134]; exact H) | exact H
                  have Ny134 := Aside0.mk hy134
                  clear hy134
                  replace H := Option.bind_eq_some_iff.mp H
                  obtain ⟨t137, A210, H⟩ := H
                  replace H : ((tabsum_More.f x6_2 l1).bind fun t138 => (some (t137 == t138))) = some r := H
                  have A21 := Aside0.mk A210
                  clear A210
                  replace H := Option.bind_eq_some_iff.mp H
                  obtain ⟨t138, A220, H⟩ := H
                  replace H : (some (t137 == t138)) = some r := H
                  have A22 := Aside0.mk A220
                  clear A220
                  obtain rfl := Option.some.inj H
                  go_wp2_with (first | ((with_reducible refine gate_builtin (b := .append) (xs := #[.tmp 42, .tmp 43]) rfl ?_); (try (refine gate_guard (by rfl) ?_; dsimp only)); at_builtin; refine Kd.R_append_rows (Kd.int .u8) (w0 := w) w.heap.size rfl (.tmp 42) (.tmp 43) 23 5 (.int .u8 0) 1 rfl Try.underlying23 info5 rfl (by decide) (by omega) u5 x5_2 l1 _ _ _ (fun _ => True) (fun _ => False) rfl rfl ?aO ?aR (fun _ _ h => h) (fun _ h => h.elim) ?aF ?aB ?aS ?aL ?_; (case aR => repeat (first | exact (Kd.C_below HR1.out HB.out) | (with_reducible refine Kd.C_alloc ?_ _) | (with_reducible refine Kd.C_drewN ?_ _) | (with_reducible refine Kd.C_drew ?_))); (case aB => exact (by repeat (first | (with_reducible first | exact HB.out | apply below_alloc | apply pw_below_drewN | apply below_drew1) | exact HB.out))); (case aF => exact (fun _ _ => trivial)); (case aO => exact (by (with_reducible repeat (first | apply Kd.R_alloc | apply Kd.R_drewN | apply Kd.R_drew)); exact HO_5.out)); (case aS => exact (below_size (by repeat (first | (with_reducible first | exact HB.out | apply below_alloc | apply pw_below_drewN | apply below_drew1) | exact HB.out)))); (case aL => have := LMc20.out; omega); intro v135 w23 ho hb hg hat; rw [← Ny134.out] at ho; have n0_ := Aside0.mk (hb); have n1_ := Aside0.mk (ho); clear HB; clear HO_5; have HB := n0_; have HO136 := n1_; clear n0_ n1_; clear ho hb hg hat; obtain ⟨Ao24, co24, eo24⟩ := Kd.R_slice HO136.out; subst eo24) | ((with_reducible refine gate_callee (f := 27) rfl ?_); refine goesL_ (some 45) rfl rfl Try.func27 (by kernel_rfl) rfl #[.slice Ao24 y134.length co24] rfl (by (try simp only [List.map_toArray, List.map_cons, List.map_nil]); first | done | rfl | (simp only [List.length_drop, List.length_take]; rfl)) ?_; (with_reducible refine (tabsum_Sum.calls _ _ y134 t137 _ ?side1 ?side2 A21.out).mono ?_); (case side1 => repeat (first | exact (Kd.R_reads' HO136.out).2.2 | (with_reducible refine Kd.C_alloc ?_ _) | (with_reducible refine Kd.C_drewN ?_ _) | (with_reducible refine Kd.C_drew ?_))); (case side2 => exact (Kd.R_reads' HO136.out).2.1); rintro e w' ⟨rfl, ⟨nd, rfl⟩⟩; refine ⟨_, rfl, ?_⟩) | ((with_reducible refine gate_callee (f := 29) rfl ?_); refine goesL_ (some 48) rfl rfl Try.func29 (by kernel_rfl) rfl #[.int .u32 x6_2, .slice A1 l1.length c1] rfl (by (try simp only [List.map_toArray, List.map_cons, List.map_nil]); first | done | rfl | (simp only [List.length_drop, List.length_take]; rfl)) ?_; (with_reducible refine (tabsum_More.calls x6_2 _ _ l1 t138 _ ?side1 ?side2 A22.out).mono ?_); (case side1 => repeat (first | exact (Kd.C_below HR1.out (by repeat (first | (with_reducible first | exact HB.out | apply below_alloc | apply pw_below_drewN | apply below_drew1) | exact HB.out))) | (with_reducible refine Kd.C_alloc ?_ _) | (with_reducible refine Kd.C_drewN ?_ _) | (with_reducible refine Kd.C_drew ?_))); (case side2 => exact HC1.out); rintro e w' ⟨rfl, ⟨nd, rfl⟩⟩; refine ⟨_, rfl, ?_⟩))
                  go_ret
                  exact ⟨by first | rfl | (simp [errW_none, errW_some] <;> rfl) | (simp [*, errW_none, errW_some] <;> rfl), by repeat (first | (with_reducible first | exact HB.out | apply below_alloc | apply pw_below_drewN | apply below_drew1) | exact HB.out)⟩
                · rw [if_neg c20] at H
                  exact absurd H (by simp)
  · replace c4 := Bool.eq_false_iff.mpr c4
    subst c4
    have H1 : (some false) = some r := by rw [if_neg (show ¬ (false = true) by decide)] at H; exact H
    clear H
    have H := H1
    clear H1
    obtain rfl := Option.some.inj H
    go_enter Try.func4, Try.ntmps4
    go_wp2_with (first | ((with_reducible refine gate_callee (f := 25) rfl ?_); refine goesL_ (some 10) rfl rfl Try.func25 (by kernel_rfl) rfl #[] rfl (by (try simp only [List.map_toArray, List.map_cons, List.map_nil]); first | done | rfl | (simp only [List.length_drop, List.length_take]; rfl)) ?_; (with_reducible refine (calamuslaw03_alive.calls  false _ A3.out).mono ?_); rintro e w25 ⟨rfl, hb⟩; refine ⟨_, rfl, ?_⟩; have n0_ := Aside0.mk (below_step (by repeat (first | (with_reducible first | exact HB.out | apply below_alloc | apply pw_below_drewN | apply below_drew1) | exact HB.out)) hb); clear HB; have HB := n0_; clear n0_; (try clear hb); (try clear hb2); (try clear hk); (try clear hi)))
    go_ret
    exact ⟨by first | rfl | (simp [errW_none, errW_some] <;> rfl) | (simp [*, errW_none, errW_some] <;> rfl), by repeat (first | (with_reducible first | exact HB.out | apply below_alloc | apply pw_below_drewN | apply below_drew1) | exact HB.out)⟩

end Go.Proofs.Ytcclmaicdmogjaa.P

-- Written by wip/pr.py over the kit's print
namespace Go.Proofs.Ytcclmaicdmogjaa.P
open Go.RowKit Go.Proofs.YtcclmaicdmogjaaW.PrintWords Go.Proofs.YtcclmaicdmogjaaW.PrintLast Go.Proofs.YtcclmaicdmogjaaW.PrintMore
attribute [local go_sem] max2_int min2_int max_two min_two max_three min_three max_four min_four   -- for this text's walks alone
set_option linter.unusedVariables false
set_option linter.unusedSimpArgs false

/-! ### calamusref03_Sum: function 28 -/
mutual
def calamusref03_Sum.l0 : Nat → List Int → Int → Int → Int → Option (Int)
  | 0, _, _, _, _ => none
  | k + 1, x0, x3, x8, x9 => if x9 < x8 then (if 0 ≤ x9 then (if x9 < (x0.length : Int) then (calamusref03_Sum.l1 k x0 x3 (IntKind.u64.wrap (rd x0 x9)) (Int.tmod x9 4) x8 x9) else (none)) else (none)) else (some ((x3) % 4294967296))
def calamusref03_Sum.l1 : Nat → List Int → Int → Int → Int → Int → Int → Option (Int)
  | 0, _, _, _, _, _, _ => none
  | k + 1, x0, x3, x5, x6, x8, x9 => if x6 < 3 then (calamusref03_Sum.l1 k x0 x3 (IntKind.u64.wrap (x5 * 256)) (wrap64 (x6 + 1)) x8 x9) else (calamusref03_Sum.l0 k x0 (Int.tmod (IntKind.u64.wrap (x3 + x5)) 4294967296) x8 (wrap64 (x9 + 1)))
end
def calamusref03_Sum.f (k : Nat) (l0 : List Int) : Option (Int) := calamusref03_Sum.l0 k l0 0 (l0.length : Int) 0
theorem calamusref03_Sum.mono_l : ∀ k, (∀ y0 y1 y2 y3, LeO (calamusref03_Sum.l0 k y0 y1 y2 y3) (calamusref03_Sum.l0 (k + 1) y0 y1 y2 y3)) ∧ (∀ y0 y1 y2 y3 y4 y5, LeO (calamusref03_Sum.l1 k y0 y1 y2 y3 y4 y5) (calamusref03_Sum.l1 (k + 1) y0 y1 y2 y3 y4 y5))
  | 0 => ⟨fun _ _ _ _ r h => by simp [calamusref03_Sum.l0] at h, fun _ _ _ _ _ _ r h => by simp [calamusref03_Sum.l1] at h⟩
  | k + 1 => by
    obtain ⟨ih0, ih1⟩ := calamusref03_Sum.mono_l k
    refine ⟨?_, ?_⟩
    · intro y0 y1 y2 y3
      unfold calamusref03_Sum.l0
      repeat' first
      | (with_reducible exact ih0 _ _ _ _)
      | (with_reducible exact ih1 _ _ _ _ _ _)
      | (with_reducible exact LeO.refl _)
      | (with_reducible exact LeO.none _)
      | (with_reducible refine LeO.ite ?_ ?_)
      | (with_reducible refine LeO.bind ?_ (fun _ => ?_))
      | exact ih0 _ _ _ _
      | exact ih1 _ _ _ _ _ _
      | exact LeO.none _
      | refine LeO.ite ?_ ?_
      | refine LeO.bind ?_ (fun _ => ?_)
    · intro y0 y1 y2 y3 y4 y5
      unfold calamusref03_Sum.l1
      repeat' first
      | (with_reducible exact ih0 _ _ _ _)
      | (with_reducible exact ih1 _ _ _ _ _ _)
      | (with_reducible exact LeO.refl _)
      | (with_reducible exact LeO.none _)
      | (with_reducible refine LeO.ite ?_ ?_)
      | (with_reducible refine LeO.bind ?_ (fun _ => ?_))
      | exact ih0 _ _ _ _
      | exact ih1 _ _ _ _ _ _
      | exact LeO.none _
      | refine LeO.ite ?_ ?_
      | refine LeO.bind ?_ (fun _ => ?_)
theorem calamusref03_Sum.mono : ∀ a0 k, LeO (calamusref03_Sum.f k a0) (calamusref03_Sum.f (k + 1) a0) := by
  intro a0 k
  obtain ⟨ih0, ih1⟩ := calamusref03_Sum.mono_l k
  unfold calamusref03_Sum.f
  repeat' first
      | (with_reducible exact ih0 _ _ _ _)
      | (with_reducible exact ih1 _ _ _ _ _ _)
      | (with_reducible exact LeO.refl _)
      | (with_reducible exact LeO.none _)
      | (with_reducible refine LeO.ite ?_ ?_)
      | (with_reducible refine LeO.bind ?_ (fun _ => ?_))
      | exact ih0 _ _ _ _
      | exact ih1 _ _ _ _ _ _
      | exact LeO.none _
      | refine LeO.ite ?_ ?_
      | refine LeO.bind ?_ (fun _ => ?_)
set_option maxHeartbeats 8000000 in
set_option maxRecDepth 100000 in
theorem calamusref03_Sum.calls (k : Nat) (A0 : Option Addr) (c0 : Nat) (l0 : List Int) (r : Int) (w : World) (hr0 : Kd.C (Kd.int .u8) w A0 l0.length l0) (hc0 : l0.length ≤ c0) (h : calamusref03_Sum.f k l0 = some r) :
    Calls Try.prog 28 #[.slice A0 l0.length c0] w fun e w' => e = .returned (.int .u32 r) ∧ Drawn0 w w' := by
  have HR0 := Aside0.mk hr0
  have HC0 := Aside0.mk hc0
  clear hr0 hc0
  have H : (calamusref03_Sum.l0 k l0 0 (l0.length : Int) 0) = some r := h
  clear h
  have H' := Aside0.mk H
  clear H
  go_enter Try.func28, Try.ntmps28
  go_wp2
  go_loopg [3, 9] k (fun kq v3 v9 w' => ∃ (x3_1 : Int) (x9_1 : Int), v3 = .int .u64 x3_1 ∧ v9 = .int .i64 x9_1 ∧ Aside0 (calamusref03_Sum.l0 kq l0 x3_1 (l0.length : Int) x9_1 = some r) ∧ Aside0 (kq ≤ k) ∧ Drawn0 w w')
  case atStart => exact ⟨(0), (0), (by first | rfl | (simp; done) | (simp [*]; done)), (by first | rfl | (simp; done) | (simp [*]; done)), H', ⟨Nat.le_refl _⟩, by repeat (first | exact Drawn0.refl _ | apply Drawn0.step)⟩
  case round =>
    clear H'
    obtain ⟨x3_1, x9_1, rfl, rfl, HA, HK1, ⟨m1, rfl⟩⟩ := hrel
    cases gk with
    | zero => exact absurd HA.out (by simp [calamusref03_Sum.l0])
    | succ k1 =>
      have H := HA.out
      clear HA
      simp only [calamusref03_Sum.l0] at H
      by_cases c2 : x9_1 < (l0.length : Int)
      · rw [if_pos c2] at H
        have c2b0 : decide (x9_1 < (l0.length : Int)) = true := decide_eq_true c2
        clear c2
        by_cases c3 : 0 ≤ x9_1
        · rw [if_pos c3] at H
          have c3b0 : decide (0 ≤ x9_1) = true := decide_eq_true c3
          clear c3
          by_cases c4 : x9_1 < (l0.length : Int)
          · rw [if_pos c4] at H
            have c4b0 : decide (x9_1 < (l0.length : Int)) = true := decide_eq_true c4
            clear c4
            have H' := Aside0.mk H
            clear H
            have p114 : 0 ≤ (x9_1 : Int) := of_decide_eq_true (by first | (with_reducible assumption) | assumption)
            have q114 : x9_1 < (l0.length : Int) := of_decide_eq_true (by first | (with_reducible assumption) | assumption)
            obtain ⟨ad114, e114, hx114_0⟩ := Kd.at_int HR0.out x9_1 p114 q114
            cases e114
            replace p114 := eq_true p114
            replace q114 := eq_true q114
            go_wp2
            go_loopg [5, 6] k1 (fun kq v5 v6 w' => ∃ (x5_2 : Int) (x6_2 : Int), v5 = .int .u64 x5_2 ∧ v6 = .int .i64 x6_2 ∧ Aside0 (calamusref03_Sum.l1 kq l0 x3_1 x5_2 x6_2 (l0.length : Int) x9_1 = some r) ∧ Aside0 (kq ≤ k1) ∧ Drawn0 w w')
            case atStart => exact ⟨(IntKind.u64.wrap (rd l0 x9_1)), (Int.tmod x9_1 4), (by first | rfl | (simp; done) | (simp [*]; done)), (by first | rfl | (simp; done) | (simp [*]; done)), H', ⟨Nat.le_refl _⟩, by repeat (first | exact Drawn0.refl _ | apply Drawn0.step)⟩
            case round =>
              clear H'
              try clear p1
              try clear q1
              try clear hx1
              try clear c2
              try clear c2b0
              try clear p2
              try clear c3
              try clear c3b0
              try clear c4
              try clear c4b0
              try clear hx114_0
              try clear p114
              try clear q114
              obtain ⟨x5_2, x6_2, rfl, rfl, HA, HK2, ⟨m2, rfl⟩⟩ := hrel
              cases gk with
              | zero => exact absurd HA.out (by simp [calamusref03_Sum.l1])
              | succ k2 =>
                have H := HA.out
                clear HA
                simp only [calamusref03_Sum.l1] at H
                by_cases c5 : x6_2 < 3
                · rw [if_pos c5] at H
                  have c5b0 : decide (x6_2 < 3) = true := decide_eq_true c5
                  clear c5
                  have H' := Aside0.mk H
                  clear H
                  go_wp2
                  go_roundg k2
                  case measure => have := HK1.out; have := HK2.out; omega
                  case rel => exact ⟨(IntKind.u64.wrap (x5_2 * 256)), (wrap64 (x6_2 + 1)), (by first | rfl | (simp; done) | (simp [*]; done)), (by first | rfl | (simp; done) | (simp [*]; done)), H', ⟨by have := HK1.out; have := HK2.out; omega⟩, by repeat (first | exact Drawn0.refl _ | apply Drawn0.step)⟩
                · rw [if_neg c5] at H
                  have c5b0 : decide (x6_2 < 3) = false := decide_eq_false c5
                  clear c5
                  have H' := Aside0.mk H
                  clear H
                  go_wp2
                  go_roundg k2
                  case measure => have := HK1.out; have := HK2.out; omega
                  case rel => exact ⟨(Int.tmod (IntKind.u64.wrap (x3_1 + x5_2)) 4294967296), (wrap64 (x9_1 + 1)), (by first | rfl | (simp; done) | (simp [*]; done)), (by first | rfl | (simp; done) | (simp [*]; done)), H', ⟨by have := HK1.out; have := HK2.out; omega⟩, by repeat (first | exact Drawn0.refl _ | apply Drawn0.step)⟩
          · rw [if_neg c4] at H
            exact absurd H (by simp)
        · rw [if_neg c3] at H
          exact absurd H (by simp)
      · rw [if_neg c2] at H
        have c2b0 : decide (x9_1 < (l0.length : Int)) = false := decide_eq_false c2
        clear c2
        obtain rfl := Option.some.inj H
        go_wp2
        go_ret
        exact ⟨by first | rfl | (simp; done) | (simp [*]; done), by repeat (first | exact Drawn0.refl _ | apply Drawn0.step)⟩

end Go.Proofs.Ytcclmaicdmogjaa.P

-- Written by wip/pr.py over the kit's print
namespace Go.Proofs.Ytcclmaicdmogjaa.P
open Go.RowKit Go.Proofs.YtcclmaicdmogjaaW.PrintWords Go.Proofs.YtcclmaicdmogjaaW.PrintLast Go.Proofs.YtcclmaicdmogjaaW.PrintMore
attribute [local go_sem] max2_int min2_int max_two min_two max_three min_three max_four min_four   -- for this text's walks alone
set_option linter.unusedVariables false
set_option linter.unusedSimpArgs false

/-! ### calamusref03_More: function 30 -/
def calamusref03_More.f (k : Nat) (a0 : Int) (l1 : List Int) : Option (Int) := (calamusref03_Sum.f k l1).bind fun t115 => (some ((Int.tmod (IntKind.u64.wrap ((IntKind.u64.wrap (a0)) + (IntKind.u64.wrap (t115)))) 4294967296) % 4294967296))
theorem calamusref03_More.mono : ∀ a0 a1 k, LeO (calamusref03_More.f k a0 a1) (calamusref03_More.f (k + 1) a0 a1) := by
  intro a0 a1 k
  unfold calamusref03_More.f
  repeat' first
      | (with_reducible exact calamusref03_Sum.mono _ _)
      | (with_reducible exact LeO.refl _)
      | (with_reducible exact LeO.none _)
      | (with_reducible refine LeO.ite ?_ ?_)
      | (with_reducible refine LeO.bind ?_ (fun _ => ?_))
      | exact calamusref03_Sum.mono _ _
      | exact LeO.none _
      | refine LeO.ite ?_ ?_
      | refine LeO.bind ?_ (fun _ => ?_)
set_option maxHeartbeats 8000000 in
set_option maxRecDepth 100000 in
theorem calamusref03_More.calls (k : Nat) (a0 : Int) (A1 : Option Addr) (c1 : Nat) (l1 : List Int) (r : Int) (w : World) (hr1 : Kd.C (Kd.int .u8) w A1 l1.length l1) (hc1 : l1.length ≤ c1) (h : calamusref03_More.f k a0 l1 = some r) :
    Calls Try.prog 30 #[.int .u32 a0, .slice A1 l1.length c1] w fun e w' => e = .returned (.int .u32 r) ∧ Drawn0 w w' := by
  have HR1 := Aside0.mk hr1
  have HC1 := Aside0.mk hc1
  clear hr1 hc1
  have H : ((calamusref03_Sum.f k l1).bind fun t115 => (some ((Int.tmod (IntKind.u64.wrap ((IntKind.u64.wrap (a0)) + (IntKind.u64.wrap (t115)))) 4294967296) % 4294967296))) = some r := h
  clear h
  replace H := Option.bind_eq_some_iff.mp H
  obtain ⟨t115, A30, H⟩ := H
  replace H : (some ((Int.tmod (IntKind.u64.wrap ((IntKind.u64.wrap (a0)) + (IntKind.u64.wrap (t115)))) 4294967296) % 4294967296)) = some r := H
  have A3 := Aside0.mk A30
  clear A30
  obtain rfl := Option.some.inj H
  go_enter Try.func30, Try.ntmps30
  go_wp2_with (first | ((with_reducible refine gate_callee (f := 28) rfl ?_); refine goesL_ (some 8) rfl rfl Try.func28 (by kernel_rfl) rfl #[.slice A1 l1.length c1] rfl (by (try simp only [List.map_toArray, List.map_cons, List.map_nil]); first | done | rfl | (simp only [List.length_drop, List.length_take]; rfl)) ?_; (with_reducible refine (calamusref03_Sum.calls k _ _ l1 t115 _ ?side1 ?side2 A3.out).mono ?_); (case side1 => repeat (first | exact HR1.out | (with_reducible refine Kd.C_alloc ?_ _) | (with_reducible refine Kd.C_drewN ?_ _) | (with_reducible refine Kd.C_drew ?_))); (case side2 => exact HC1.out); rintro e w' ⟨rfl, ⟨nd, rfl⟩⟩; refine ⟨_, rfl, ?_⟩))
  go_ret
  exact ⟨by first | rfl | (simp; done) | (simp [*]; done), by repeat (first | exact Drawn0.refl _ | apply Drawn0.step)⟩

end Go.Proofs.Ytcclmaicdmogjaa.P

-- Written by wip/pr.py over the kit's print
namespace Go.Proofs.Ytcclmaicdmogjaa.P
open Go.RowKit Go.Proofs.YtcclmaicdmogjaaW.PrintWords Go.Proofs.YtcclmaicdmogjaaW.PrintLast Go.Proofs.YtcclmaicdmogjaaW.PrintMore
attribute [local go_sem] max2_int min2_int max_two min_two max_three min_three max_four min_four   -- for this text's walks alone
set_option linter.unusedVariables false
set_option linter.unusedSimpArgs false

/-! ### calamusref03_Adjust: function 32 -/
def calamusref03_Adjust.f (a0 : Int) : Option (Int) := some ((Int.tmod (IntKind.u64.wrap (7276113850 - (IntKind.u64.wrap (a0)))) 4294967296) % 4294967296)
set_option maxHeartbeats 8000000 in
set_option maxRecDepth 100000 in
theorem calamusref03_Adjust.calls (a0 : Int) (r : Int) (w : World) (h : calamusref03_Adjust.f a0 = some r) :
    Calls Try.prog 32 #[.int .u32 a0] w fun e w' => e = .returned (.int .u32 r) ∧ Drawn0 w w' := by
  have H : (some ((Int.tmod (IntKind.u64.wrap (7276113850 - (IntKind.u64.wrap (a0)))) 4294967296) % 4294967296)) = some r := h
  clear h
  obtain rfl := Option.some.inj H
  go_enter Try.func32, Try.ntmps32
  go_wp2
  go_ret
  exact ⟨by first | rfl | (simp; done) | (simp [*]; done), by repeat (first | exact Drawn0.refl _ | apply Drawn0.step)⟩

end Go.Proofs.Ytcclmaicdmogjaa.P

-- Written by wip/pr.py over the kit's print
namespace Go.Proofs.Ytcclmaicdmogjaa.P
open Go.RowKit Go.Proofs.YtcclmaicdmogjaaW.PrintWords Go.Proofs.YtcclmaicdmogjaaW.PrintLast Go.Proofs.YtcclmaicdmogjaaW.PrintMore
attribute [local go_sem] max2_int min2_int max_two min_two max_three min_three max_four min_four   -- for this text's walks alone
set_option linter.unusedVariables false
set_option linter.unusedSimpArgs false

/-! ### calamusref02_Copy: function 26 -/
def calamusref02_Copy.f (l0 : List Int) : Option (List Int) := (some (([] : List Int) : List Int)).bind fun y108 => (if y108.length + l0.length < 140737488355328 then (some (y108 ++ l0)) else (none))
set_option maxHeartbeats 8000000 in
set_option maxRecDepth 100000 in
theorem calamusref02_Copy.calls (A0 : Option Addr) (c0 : Nat) (l0 : List Int) (r : List Int) (w : World) (hr0 : Kd.C (Kd.int .u8) w A0 l0.length l0) (hc0 : l0.length ≤ c0) (h : calamusref02_Copy.f l0 = some r) :
    Calls Try.prog 26 #[.slice A0 l0.length c0] w fun e w' => ∃ v0_ : Value, e = .returned (v0_) ∧ Kd.R (Kd.int .u8) 5 w' w.heap.size (fun _ => True) v0_ r ∧ Below w.heap.size w w' := by
  have HR0 := Aside0.mk hr0
  have HC0 := Aside0.mk hc0
  clear hr0 hc0
  have HB := Aside0.mk (Below.refl w.heap.size w)
  have H : ((some (([] : List Int) : List Int)).bind fun y108 => (if y108.length + l0.length < 140737488355328 then (some (y108 ++ l0)) else (none))) = some r := h
  clear h
  obtain ⟨y108, hy108⟩ : ∃ y_ : List Int, y_ = (([] : List Int)) := ⟨_, rfl⟩
  replace H : (if y108.length + l0.length < 140737488355328 then (some (y108 ++ l0)) else (none)) = some r := by first | (rw [hy108]; with_reducible exact H) | (have H2_ := (Option.bind_some _ _).symm.trans H; rw [hy108]; with_reducible exact H2_) | (have H2_ := (Option.bind_some _ _).symm.trans H; with_reducible exact H2_) | with_reducible exact H | (rw [hy108]; exact H) | exact H
  have Ny108 := Aside0.mk hy108
  clear hy108
  by_cases c2 : y108.length + l0.length < 140737488355328
  · rw [if_pos c2] at H
    have LMc2 := Aside0.mk c2
    clear c2
    obtain ⟨y111, hy111⟩ : ∃ y_ : List Int, y_ = (y108 ++ l0) := ⟨_, rfl⟩
    replace H : (some y111) = some r := by first | (rw [hy111]; with_reducible exact H) | (have H2_ := (Option.bind_some _ _).symm.trans H; rw [hy111]; with_reducible exact H2_) | (have H2_ := (Option.bind_some _ _).symm.trans H; with_reducible exact H2_) | with_reducible exact H | (rw [hy111]; exact H) | exact H
    have Ny111 := Aside0.mk hy111
    clear hy111
    obtain rfl := Option.some.inj H
    go_enter Try.func26, Try.ntmps26
    go_wp2_with (first | ((with_reducible refine gate_dst (N := 3) rfl ?_); refine Kd.R_lit (Kd.int .u8) _ 5 ?hg (N := 3) ?hd (xs := ([] : List Int)) (inner := []) (ok := fun _ => True) (okp := fun _ => True) ?hr ?hp (fun _ hk => hk) trivial (Below.refl _ _) (Nat.le_refl _) (by simp) ?_; (case hd => rfl); (case hg => rfl); (case hr => first | (go_simp; done) | (go_simp; rfl)); (case hp => exact (Reps.none _ _)); intro v109 w3 ho4 hb hg_ hnew_; clear hg_ hnew_; (first | rw [← Ny108.out] at ho4 | (simp only [Int.reduceToNat] at ho4; rw [← Ny108.out] at ho4)); have n0_ := Aside0.mk (Kd.R_lower ho4 (below_size (by repeat (first | (with_reducible first | exact HB.out | apply below_alloc | apply pw_below_drewN | apply below_drew1) | exact HB.out)))); have n1_ := Aside0.mk (below_step (by repeat (first | (with_reducible first | exact HB.out | apply below_alloc | apply pw_below_drewN | apply below_drew1) | exact HB.out)) hb); clear HB; have HO110 := n0_; have HB := n1_; clear n0_ n1_; clear hb ho4) | ((with_reducible refine gate_builtin (b := .append) (xs := #[.tmp 3, .tmp 4]) rfl ?_); at_builtin; refine Kd.R_append_rows (Kd.int .u8) (w0 := w) w.heap.size rfl (.tmp 3) (.tmp 4) 23 5 (.int .u8 0) 1 rfl Try.underlying23 info5 rfl (by decide) (by omega) v109 y108 l0 _ _ _ (fun _ => True) (fun _ => False) rfl rfl ?aO ?aR (fun _ _ h => h) (fun _ h => h.elim) ?aF ?aB ?aS ?aL ?_; (case aR => repeat (first | exact (Kd.C_below HR0.out HB.out) | (with_reducible refine Kd.C_alloc ?_ _) | (with_reducible refine Kd.C_drewN ?_ _) | (with_reducible refine Kd.C_drew ?_))); (case aB => exact (by repeat (first | (with_reducible first | exact HB.out | apply below_alloc | apply pw_below_drewN | apply below_drew1) | exact HB.out))); (case aF => exact (fun _ _ => trivial)); (case aO => exact (by (with_reducible repeat (first | apply Kd.R_alloc | apply Kd.R_drewN | apply Kd.R_drew)); exact HO110.out)); (case aS => exact (below_size (by repeat (first | (with_reducible first | exact HB.out | apply below_alloc | apply pw_below_drewN | apply below_drew1) | exact HB.out)))); (case aL => have := LMc2.out; omega); intro v112 w5 ho hb hg hat; rw [← Ny111.out] at ho; have n0_ := Aside0.mk (hb); have n1_ := Aside0.mk (ho); clear HB; clear HO110; have HB := n0_; have HO113 := n1_; clear n0_ n1_; clear ho hb hg hat))
    go_ret
    exact ⟨_, by first | rfl | (simp [errW_none, errW_some] <;> rfl) | (simp [*, errW_none, errW_some] <;> rfl), by (with_reducible repeat (first | apply Kd.R_alloc | apply Kd.R_drewN | apply Kd.R_drew)); exact HO113.out, by repeat (first | (with_reducible first | exact HB.out | apply below_alloc | apply pw_below_drewN | apply below_drew1) | exact HB.out)⟩
  · rw [if_neg c2] at H
    exact absurd H (by simp)

end Go.Proofs.Ytcclmaicdmogjaa.P

-- Written by wip/pr.py over the kit's print
namespace Go.Proofs.Ytcclmaicdmogjaa.P
open Go.RowKit Go.Proofs.YtcclmaicdmogjaaW.PrintWords Go.Proofs.YtcclmaicdmogjaaW.PrintLast Go.Proofs.YtcclmaicdmogjaaW.PrintMore
attribute [local go_sem] max2_int min2_int max_two min_two max_three min_three max_four min_four   -- for this text's walks alone
set_option linter.unusedVariables false
set_option linter.unusedSimpArgs false

/-! ### calamusref02_Same: function 33 -/
def calamusref02_Same.f (l0 : List Int) (l1 : List Int) : Option (Bool) := some ((strOfNums l0).toList == (strOfNums l1).toList)
set_option maxHeartbeats 8000000 in
set_option maxRecDepth 100000 in
theorem calamusref02_Same.calls (A0 : Option Addr) (c0 : Nat) (l0 : List Int) (A1 : Option Addr) (c1 : Nat) (l1 : List Int) (r : Bool) (w : World) (hr0 : Kd.C (Kd.int .u8) w A0 l0.length l0) (hc0 : l0.length ≤ c0) (hr1 : Kd.C (Kd.int .u8) w A1 l1.length l1) (hc1 : l1.length ≤ c1) (h : calamusref02_Same.f l0 l1 = some r) :
    Calls Try.prog 33 #[.slice A0 l0.length c0, .slice A1 l1.length c1] w fun e w' => e = .returned (.bool r) ∧ Drawn0 w w' := by
  have HR0 := Aside0.mk hr0
  have HC0 := Aside0.mk hc0
  clear hr0 hc0
  have HR1 := Aside0.mk hr1
  have HC1 := Aside0.mk hc1
  clear hr1 hc1
  have H : (some ((strOfNums l0).toList == (strOfNums l1).toList)) = some r := h
  clear h
  obtain rfl := Option.some.inj H
  have hcv3 := Kd.C_string (P := Try.prog) (A := A0) (c := c0) Try.underlying23 Try.underlying5 Try.underlying9 HR0.out
  have hcv4 := Kd.C_string (P := Try.prog) (A := A1) (c := c1) Try.underlying23 Try.underlying5 Try.underlying9 HR1.out
  go_enter Try.func33, Try.ntmps33
  go_wp2
  go_ret
  exact ⟨by first | rfl | (simp; done) | (simp [*]; done), by repeat (first | exact Drawn0.refl _ | apply Drawn0.step)⟩

end Go.Proofs.Ytcclmaicdmogjaa.P

namespace Go.Proofs.Ytcclmaicdmogjaa.P
open Go.RowKit Go.Proofs.YtcclmaicdmogjaaW.PrintWords Go.Proofs.YtcclmaicdmogjaaW.PrintLast Go.Proofs.YtcclmaicdmogjaaW.PrintMore
set_option linter.unusedVariables false
set_option linter.unusedSimpArgs false

-- USES calamusref02_Copy calamusref02_Same
theorem copy_eq (l : List Int) (h : l.length < 140737488355328) : calamusref02_Copy.f l = some l := by
  unfold calamusref02_Copy.f; simp [h]
theorem same_refl (l : List Int) : calamusref02_Same.f l l = some true := by
  unfold calamusref02_Same.f; simp
theorem bytes_of_wf {l : List Int} (h : ∀ x ∈ l, (Lit.int .u8 x).wf = true) : isBytes l := fun x hx => by
  have := h x hx
  simp [Lit.wf, IntKind.min, IntKind.max, IntKind.bits, IntKind.signed] at this
  omega
theorem isBytes_zeros (n : Nat) : isBytes (List.replicate n 0) := fun x hx => by rw [List.mem_replicate] at hx; omega
theorem isBytes_set {l : List Int} (h : isBytes l) (i : Nat) (v : Int) (hv : 0 ≤ v ∧ v ≤ 255) : isBytes (l.set i v) := fun x hx => by
  rcases List.mem_or_eq_of_mem_set hx with h' | h'
  · exact h x h'
  · omega
theorem wf_u8_out {n : Int} (h : (Lit.int .u8 n).wf = true) : 0 ≤ n ∧ n ≤ 255 := by
  simp [Lit.wf, IntKind.min, IntKind.max, IntKind.bits, IntKind.signed] at h; omega
theorem wf_u16_out {n : Int} (h : (Lit.int .u16 n).wf = true) : 0 ≤ n ∧ n ≤ 65535 := by
  simp [Lit.wf, IntKind.min, IntKind.max, IntKind.bits, IntKind.signed] at h; omega
theorem wf_u32_out {n : Int} (h : (Lit.int .u32 n).wf = true) : 0 ≤ n ∧ n ≤ 4294967295 := by
  simp [Lit.wf, IntKind.min, IntKind.max, IntKind.bits, IntKind.signed] at h; omega
theorem wf_i32_out {n : Int} (h : (Lit.int .i32 n).wf = true) : -2147483648 ≤ n ∧ n ≤ 2147483647 := by
  simp [Lit.wf, IntKind.min, IntKind.max, IntKind.bits, IntKind.signed] at h; omega
theorem wf_i64_out {n : Int} (h : (Lit.int .i64 n).wf = true) : -9223372036854775808 ≤ n ∧ n ≤ 9223372036854775807 := by
  simp [Lit.wf, IntKind.min, IntKind.max, IntKind.bits, IntKind.signed] at h; omega

end Go.Proofs.Ytcclmaicdmogjaa.P

namespace Go.Proofs.Ytcclmaicdmogjaa.P
open Go.RowKit Go.Proofs.YtcclmaicdmogjaaW.PrintWords Go.Proofs.YtcclmaicdmogjaaW.PrintLast Go.Proofs.YtcclmaicdmogjaaW.PrintMore
set_option linter.unusedVariables false
set_option linter.unusedSimpArgs false

-- USES calamusref03_Sum calamusref03_More calamusref03_Adjust tabsum_More tabsum_Sum tabsum_Adjust calamuslaw03_alive
-- NEEDS gen
/-- The sum, byte by byte: each byte counts as much as its place in its word. -/
def ws : List Int → Nat → Int
  | [], _ => 0
  | a :: r, p => a * 256 ^ (3 - p % 4) + ws r (p + 1)
theorem ws_four (l : List Int) : ∀ p, ws l (p + 4) = ws l p := by
  induction l with
  | nil => intro p; rfl
  | cons a r ih => intro p; simp only [ws]; rw [show p + 4 + 1 = (p + 1) + 4 by omega, ih, show (p + 4) % 4 = p % 4 by omega]
theorem tsum_ws (n : Nat) : ∀ l : List Int, l.length ≤ n → tsum l = ws l 0 := by
  induction n using Nat.strongRecOn with
  | _ n ih =>
    intro l hl
    match l, hl with
    | [], _ => rfl
    | [a], _ => simp [tsum, ws]
    | [a, b], _ => simp [tsum, ws]
    | [a, b, c], _ => simp [tsum, ws]; omega
    | a :: b :: c :: d :: r, hl =>
      simp only [List.length] at hl
      have := ih (n - 4) (by omega) r (by omega)
      simp only [tsum, ws]
      rw [this, ← ws_four r 0]
      simp
      omega
theorem ws_bd (l : List Int) (h : isBytes l) : ∀ p, 0 ≤ ws l p := by
  induction l with
  | nil => intro p; simp [ws]
  | cons a r ih =>
    intro p
    have h1 := h a (by simp)
    have h2 := ih (fun x hx => h x (by simp [hx])) (p + 1)
    have h3 : (0 : Int) ≤ 256 ^ (3 - p % 4) := Int.pow_nonneg (by decide)
    have := Int.mul_nonneg h1.1 h3
    simp only [ws]; omega
theorem tsum_nonneg (l : List Int) (h : isBytes l) : 0 ≤ tsum l := by rw [tsum_ws l.length l (Nat.le_refl _)]; exact ws_bd l h 0
theorem refsum_inner (x0 : List Int) (s : Int) (len : Int) (i : Int) (d : Nat) : ∀ (k : Nat) (m : Int) (q : Int), 0 ≤ q → (q : Int) + d = 3 → 0 ≤ m → m * 256 ^ d ≤ 4294967295 → d < k →
    calamusref03_Sum.l1 k x0 s m q len i = calamusref03_Sum.l0 (k - d - 1) x0 (Int.tmod (IntKind.u64.wrap (s + m * 256 ^ d)) 4294967296) len (wrap64 (i + 1)) := by
  induction d with
  | zero =>
    intro k m q hq hd hm hb hk
    obtain ⟨k, rfl⟩ : ∃ j, k = j + 1 := ⟨k - 1, by omega⟩
    simp only [calamusref03_Sum.l1]
    rw [if_neg (by omega)]
    simp
  | succ d ih =>
    intro k m q hq hd hm hb hk
    obtain ⟨k, rfl⟩ : ∃ j, k = j + 1 := ⟨k - 1, by omega⟩
    simp only [calamusref03_Sum.l1]
    have h1 : m * 256 * 256 ^ d ≤ 4294967295 := by rw [Int.pow_succ] at hb; rw [Int.mul_assoc, Int.mul_comm 256]; exact hb
    have h256 : (1 : Int) ≤ 256 ^ d := Int.pow_pos (by decide)
    have h2 : m * 256 ≤ 4294967295 := by
      have : m * 256 * 1 ≤ m * 256 * 256 ^ d := Int.mul_le_mul_of_nonneg_left h256 (by omega)
      omega
    rw [if_pos (by omega), IntWalk.u64_in (m * 256) ⟨by omega, by omega⟩, IntWalk.wrap64_in (q + 1) ⟨by omega, by omega⟩, ih k (m * 256) (q + 1) (by omega) (by omega) (by omega) h1 (by omega)]
    rw [show k - d - 1 = k + 1 - (d + 1) - 1 by omega, Int.pow_succ, Int.mul_assoc, Int.mul_comm 256]
theorem refsum_loop (x0 : List Int) (hb : isBytes x0) (hlen : x0.length ≤ 9223372036854775806) (d : Nat) : ∀ (k n : Nat) (s : Int), n + d = x0.length → 0 ≤ s → s ≤ 4294967295 → 6 * d < k →
    calamusref03_Sum.l0 k x0 s (x0.length : Int) (n : Int) = some ((s + ws (x0.drop n) n) % 4294967296) := by
  induction d with
  | zero =>
    intro k n s hn hs0 hs1 hk
    obtain ⟨k, rfl⟩ : ∃ j, k = j + 1 := ⟨k - 1, by omega⟩
    simp only [calamusref03_Sum.l0]
    rw [if_neg (by omega), List.drop_eq_nil_of_le (by omega)]
    simp [ws]
  | succ d ih =>
    intro k n s hn hs0 hs1 hk
    obtain ⟨k, rfl⟩ : ∃ j, k = j + 1 := ⟨k - 1, by omega⟩
    simp only [calamusref03_Sum.l0]
    have hlt : n < x0.length := by omega
    rw [if_pos (by omega), if_pos (by omega), if_pos (by omega)]
    have hg := hb.get n
    have hrd : rd x0 (n : Int) = x0.getD n 0 := by simp [rd]
    have htm : Int.tmod (n : Int) 4 = ((n % 4 : Nat) : Int) := rfl
    have hp : (256 : Int) ^ (3 - n % 4) ≤ 16777216 := by
      have : n % 4 = 0 ∨ n % 4 = 1 ∨ n % 4 = 2 ∨ n % 4 = 3 := by omega
      rcases this with h | h | h | h <;> rw [h] <;> decide
    have hp0 : (0 : Int) ≤ 256 ^ (3 - n % 4) := Int.pow_nonneg (by decide)
    have hmul : x0.getD n 0 * 256 ^ (3 - n % 4) ≤ 255 * 16777216 := Int.mul_le_mul hg.2 hp hp0 (by decide)
    have hmul0 : 0 ≤ x0.getD n 0 * 256 ^ (3 - n % 4) := Int.mul_nonneg hg.1 hp0
    rw [hrd, htm, IntWalk.u64_in _ ⟨by omega, by omega⟩, refsum_inner x0 s _ _ (3 - n % 4) k _ _ (by omega) (by omega) hg.1 (by omega) (by omega)]
    rw [IntWalk.u64_in _ ⟨by omega, by omega⟩, Int.tmod_eq_emod_of_nonneg (by omega), IntWalk.wrap64_in _ ⟨by omega, by omega⟩]
    rw [show (n : Int) + 1 = ((n + 1 : Nat) : Int) by omega, ih _ (n + 1) _ (by omega) (by omega) (by omega) (by omega)]
    rw [List.drop_eq_getElem_cons hlt]
    simp only [ws]
    rw [show x0[n] = x0.getD n 0 by simp [List.getD_eq_getElem?_getD, List.getElem?_eq_getElem hlt]]
    congr 1
    omega
theorem refsum_eq (l : List Int) (hb : isBytes l) (hlen : l.length ≤ 9223372036854775806) (k : Nat) (hk : 6 * l.length < k) : calamusref03_Sum.f k l = some (tsum l % 4294967296) := by
  unfold calamusref03_Sum.f
  have := refsum_loop l hb hlen l.length k 0 0 (by omega) (by omega) (by omega) hk
  rw [show ((0 : Nat) : Int) = 0 from rfl] at this
  rw [this, tsum_ws l.length l (Nat.le_refl _)]
  simp
theorem more_eq (s : Int) (l : List Int) (hs : 0 ≤ s ∧ s ≤ 4294967295) (hb : isBytes l) : tabsum_More.f s l = some ((s + tsum l) % 4294967296) := by
  unfold tabsum_More.f; rw [if_pos ⟨hs, hb⟩]
theorem sum_eq (l : List Int) (hb : isBytes l) : tabsum_Sum.f l = some (tsum l % 4294967296) := by
  unfold tabsum_Sum.f; rw [more_eq 0 l (by decide) hb]; simp
theorem refmore_eq (s : Int) (l : List Int) (hs : 0 ≤ s ∧ s ≤ 4294967295) (hb : isBytes l) (hlen : l.length ≤ 9223372036854775806) (k : Nat) (hk : 6 * l.length < k) : calamusref03_More.f k s l = some ((s + tsum l) % 4294967296) := by
  unfold calamusref03_More.f
  rw [refsum_eq l hb hlen k hk]
  simp only [Option.bind_some]
  have h0 : 0 ≤ tsum l % 4294967296 := by omega
  have h1 : tsum l % 4294967296 < 4294967296 := by omega
  rw [IntWalk.u64_in s ⟨by omega, by omega⟩, IntWalk.u64_in (tsum l % 4294967296) ⟨by omega, by omega⟩, IntWalk.u64_in _ ⟨by omega, by omega⟩, Int.tmod_eq_emod_of_nonneg (by omega)]
  congr 1; omega
theorem refadjust_eq (s : Int) (hs : 0 ≤ s ∧ s ≤ 4294967295) : calamusref03_Adjust.f s = some ((2981146554 - s) % 4294967296) := by
  unfold calamusref03_Adjust.f
  rw [IntWalk.u64_in s ⟨by omega, by omega⟩, IntWalk.u64_in _ ⟨by omega, by omega⟩, Int.tmod_eq_emod_of_nonneg (by omega)]
  congr 1; omega
theorem alive03 : calamuslaw03_alive.f = some true := by decide +kernel
theorem ws_append (l m : List Int) : ∀ p, ws (l ++ m) p = ws l p + ws m (p + l.length) := by
  induction l with
  | nil => intro p; simp [ws]
  | cons a r ih => intro p; simp only [List.cons_append, ws, ih, List.length_cons]; rw [show p + 1 + r.length = p + (r.length + 1) by omega]; omega
theorem ws_zeros (n : Nat) : ∀ p, ws (List.replicate n 0) p = 0 := by
  induction n with
  | zero => intro p; rfl
  | succ n ih => intro p; simp only [List.replicate_succ, ws, ih]; omega
theorem ws_add4 (l : List Int) (p n : Nat) : ws l (p + 4 * n) = ws l p := by
  induction n with
  | zero => rfl
  | succ n ih => rw [show p + 4 * (n + 1) = p + 4 * n + 4 by omega, ws_four, ih]
theorem ws_set (l : List Int) : ∀ (i p : Nat) (v : Int), i < l.length → ws (l.set i v) p = ws l p + (v - l.getD i 0) * 256 ^ (3 - (p + i) % 4) := by
  induction l with
  | nil => intro i p v h; simp at h
  | cons a r ih =>
    intro i p v h
    cases i with
    | zero => simp only [List.set_cons_zero, ws, List.getD_cons_zero, Nat.add_zero, Int.sub_mul]; omega
    | succ i =>
      simp only [List.set_cons_succ, ws, List.getD_cons_succ]
      rw [ih i (p + 1) v (by simpa using h), show p + 1 + i = p + (i + 1) by omega]
      omega
theorem tsum_eq_ws (l : List Int) : tsum l = ws l 0 := tsum_ws l.length l (Nat.le_refl _)
theorem tsum_append (l m : List Int) (h : l.length % 4 = 0) : tsum (l ++ m) = tsum l + tsum m := by
  rw [tsum_eq_ws, tsum_eq_ws l, tsum_eq_ws m, ws_append]
  obtain ⟨n, hn⟩ : ∃ n, l.length = 4 * n := ⟨l.length / 4, by omega⟩
  rw [hn, ws_add4]
theorem tsum_pads (l : List Int) (n : Nat) : tsum (l ++ List.replicate n 0) = tsum l := by
  rw [tsum_eq_ws, tsum_eq_ws l, ws_append, ws_zeros]; omega
theorem tsum_set (l : List Int) (i : Nat) (v : Int) (h : i < l.length) : tsum (l.set i v) = tsum l + (v - l.getD i 0) * 256 ^ (3 - i % 4) := by
  rw [tsum_eq_ws, tsum_eq_ws l, ws_set l i 0 v h, Nat.zero_add]

end Go.Proofs.Ytcclmaicdmogjaa.P

namespace Go.Proofs.Ytcclmaicdmogjaa.P
open Go.RowKit Go.Proofs.YtcclmaicdmogjaaW.PrintWords Go.Proofs.YtcclmaicdmogjaaW.PrintLast Go.Proofs.YtcclmaicdmogjaaW.PrintMore
set_option linter.unusedVariables false
set_option linter.unusedSimpArgs false

-- USES calamuslaw03_TabsumPieces
-- NEEDS tab
theorem pieces_loop (l : List (List Int)) (last : List Int) (hl : l.length ≤ 50) (hb : ∀ y ∈ l, isBytes y) (hlast : isBytes last) (hll : last.length ≤ 5000) (d : Nat) : ∀ (i k : Nat) (acc : List Int), i + d = l.length → d < k → acc.length ≤ 2000 * i → acc.length % 4 = 0 → isBytes acc →
    calamuslaw03_TabsumPieces.l0 k last acc (tsum acc % 4294967296) l (l.length : Int) (i : Int) = some true := by
  induction d with
  | zero =>
    intro i k acc hi hk ha h4 hacc
    obtain ⟨k, rfl⟩ : ∃ m, k = m + 1 := ⟨k - 1, by omega⟩
    rw [calamuslaw03_TabsumPieces.l0, if_neg (by omega), if_pos (by omega), sum_eq _ (hacc.app hlast), Option.bind_some, more_eq _ last ⟨by omega, by omega⟩ hlast, Option.bind_some, tsum_append _ _ h4]
    congr 1
    rw [beq_iff_eq]
    omega
  | succ d ih =>
    intro i k acc hi hk ha h4 hacc
    obtain ⟨k, rfl⟩ : ∃ m, k = m + 1 := ⟨k - 1, by omega⟩
    have hil : i < l.length := by omega
    obtain ⟨y, hy⟩ : ∃ y, rd_L2 l (i : Int) = y := ⟨_, rfl⟩
    have hyb : isBytes y := by
      rw [← hy]
      unfold rd_L2
      rw [show ((i : Nat) : Int).toNat = i from rfl, List.getD_eq_getElem?_getD, List.getElem?_eq_getElem hil]
      exact hb _ (List.getElem_mem hil)
    rw [calamuslaw03_TabsumPieces.l0, if_pos (by omega), if_pos (by omega), if_pos (by omega), hy]
    by_cases h2 : (y.length : Int) > 2000
    · rw [if_pos h2]
    obtain ⟨q, hq⟩ : ∃ q, y.length / 4 = q := ⟨_, rfl⟩
    have hn : wrap64 (wrap64 ((y.length : Int) / 4) * 4) = ((4 * q : Nat) : Int) := by
      rw [IntWalk.wrap64_in ((y.length : Int) / 4) ⟨by omega, by omega⟩, IntWalk.wrap64_in ((y.length : Int) / 4 * 4) ⟨by omega, by omega⟩]; omega
    rw [if_neg h2, hn, if_pos (by omega), if_pos (by omega), show ((4 * q : Nat) : Int).toNat = 4 * q from rfl]
    have hlen : (y.take (4 * q)).length = 4 * q := by rw [List.length_take]; omega
    have htb := hyb.take (4 * q)
    generalize y.take (4 * q) = t at *
    rw [if_pos (by omega), more_eq _ t ⟨by omega, by omega⟩ htb, Option.bind_some, IntWalk.wrap64_in ((i : Int) + 1) ⟨by omega, by omega⟩]
    have := ih (i + 1) k (acc ++ t) (by omega) (by omega) (by rw [List.length_append]; omega) (by rw [List.length_append]; omega) (hacc.app htb)
    rw [tsum_append _ _ h4] at this
    rw [show (tsum acc % 4294967296 + tsum t) % 4294967296 = (tsum acc + tsum t) % 4294967296 by omega]
    exact this
theorem pieces_all (l : List (List Int)) (last : List Int) (hb : ∀ y ∈ l, isBytes y) (hlast : isBytes last) : calamuslaw03_TabsumPieces.f 60 l last = some true := by
  unfold calamuslaw03_TabsumPieces.f
  rw [alive03, Option.bind_some, if_pos (Eq.refl _)]
  have hj : ∀ c : Bool, calamuslaw03_TabsumPieces.j0 60 l last c = calamuslaw03_TabsumPieces.j0 (59 + 1) l last c := fun _ => rfl
  by_cases h1 : (l.length : Int) > 50
  · rw [if_pos h1, hj, calamuslaw03_TabsumPieces.j0, if_pos (Eq.refl _)]
  rw [if_neg h1]
  by_cases h2 : (last.length : Int) > 5000
  · rw [decide_eq_true h2, hj, calamuslaw03_TabsumPieces.j0, if_pos (Eq.refl _)]
  rw [decide_eq_false h2, hj, calamuslaw03_TabsumPieces.j0, if_neg (by decide)]
  exact pieces_loop l last (by omega) hb hlast (by omega) l.length 0 59 [] (by omega) (by omega) (by simp) (by simp) (fun x hx => by simp at hx)

end Go.Proofs.Ytcclmaicdmogjaa.P

namespace Go.Proofs.Ytcclmaicdmogjaa.P
open Go.RowKit Go.Proofs.YtcclmaicdmogjaaW.PrintWords Go.Proofs.YtcclmaicdmogjaaW.PrintLast Go.Proofs.YtcclmaicdmogjaaW.PrintMore
set_option linter.unusedVariables false
set_option linter.unusedSimpArgs false

-- ALSO Derived.Deep.SlicePairs Derived.Deep.Slices Derived.Lib.SmallJoins Derived.Test.YtcclmaicdmogjaaRows
open Go.Deep Go.ChangeShapes Go.WideShapes
section
variable {H : Type} {enc : TypeId × Value → H} {W : World} {α : Type}
/-- What the cells of a type hold: something that the kind reads, good, and at most as great as the datum. -/
def Op (enc : TypeId × Value → H) (W : World) (t : TypeId) (k : Kd α) (okp : α → Prop) (sz : α → Nat) : Prop :=
  ∀ (fuel : Nat) (cs : List Value) (d : DataW H) (p : List MemPlace), DataW.trod enc Try.prog W 0 (fun _ => true) true fuel t cs = some (d, p) → ∃ y, k.K W y cs ∧ okp y ∧ sz y ≤ Rows.uptoBulk d
def szL (sz : α → Nat) : List α → Nat
  | [] => 1
  | y :: r => sz y + szL sz r
theorem szL_le (sz : α → Nat) (h : ∀ y, 1 ≤ sz y) (ys : List α) : ys.length + 1 ≤ szL sz ys := by
  induction ys with
  | nil => simp [szL]
  | cons y r ih => have := h y; simp only [szL, List.length_cons]; omega
theorem op_int {t : TypeId} {kd : IntKind} (ht : Try.prog.underlying t = some (.int kd)) : Op enc W t (Kd.int kd) (fun x => (Lit.int kd x).wf = true) (fun _ => 1) := by
  intro fuel cs d p h
  obtain ⟨n, rfl, hx, hw⟩ := DataW.trod_int ht h
  obtain ⟨rfl, _⟩ := Prod.mk.inj hx
  exact ⟨n, rfl, hw, by simp [Rows.uptoBulk]⟩
theorem op_bool {t : TypeId} (ht : Try.prog.underlying t = some .bool) : Op enc W t Kd.bool (fun _ => True) (fun _ => 1) := by
  intro fuel cs d p h
  obtain ⟨n, rfl, hx⟩ := DataW.trod_bool ht h
  obtain ⟨rfl, _⟩ := Prod.mk.inj hx
  exact ⟨n, rfl, trivial, by simp [Rows.uptoBulk]⟩
theorem op_string {t : TypeId} (ht : Try.prog.underlying t = some .string) : Op enc W t Kd.string (fun s => s.size ≤ maxLen) (fun s => s.size + 1) := by
  intro fuel cs d p h
  obtain ⟨s, rfl, hx, hw⟩ := DataW.trod_string ht h
  obtain ⟨rfl, _⟩ := Prod.mk.inj hx
  refine ⟨s, rfl, hw, ?_⟩
  simp only [Rows.uptoBulk, Array.length_toList]
  exact Nat.le_refl _
theorem slice_form {t e : TypeId} {k : Kd α} {okp : α → Prop} {sz : α → Nat} (ht : Try.prog.underlying t = some (.slice e)) (hc : Try.prog.cellsOf e = k.sz) (ho : Op enc W e k okp sz)
    {fuel : Nat} {cs : List Value} {d : DataW H} {p : List MemPlace} (h : DataW.trod enc Try.prog W 0 (fun _ => true) true fuel t cs = some (d, p)) :
    ∃ (A : Option Addr) (c : Nat) (ys : List α), cs = [.slice A ys.length c] ∧ ys.length ≤ c ∧ k.C W A ys.length ys ∧ (∀ y ∈ ys, okp y) ∧ szL sz ys ≤ Rows.uptoBulk d ∧ (ys = [] ∨ ∃ elems spare, d = .slice elems spare ∧ elems.length = ys.length) := by
  rcases open_slice ht h with ⟨rfl, hx⟩ | ⟨a, len, cap, m, n, D, Pl, rfl, hb, hl, hm, hmm, hx, hall⟩
  · obtain ⟨rfl, _⟩ := Prod.mk.inj hx
    exact ⟨none, 0, [], rfl, Nat.le_refl _, ⟨rfl, by simp, fun h => absurd h (by simp)⟩, fun y hy => by simp at hy, by simp [szL, Rows.uptoBulk], .inl rfl⟩
  · obtain ⟨rfl, _⟩ := Prod.mk.inj hx
    have hlm : len ≤ m := by rw [hmm]; split <;> omega
    have each : ∀ i, i < len → ∃ y : α, (∃ cs', (cs'.length = k.sz ∧ ∀ j, j < k.sz → W.cell? ((a.add (i * k.sz)).add j) = cs'[j]?) ∧ k.K W y cs') ∧ okp y ∧ sz y ≤ Rows.uptoBulk (D i) := fun i hi => by
      obtain ⟨cs', h1, h2⟩ := hall i (by omega)
      rw [hc] at h1
      obtain ⟨_, h3, h4⟩ := World.cells?_some h1
      obtain ⟨y, g1, g2, g3⟩ := ho n cs' (D i) (Pl i) h2
      exact ⟨y, ⟨cs', ⟨h3, h4⟩, g1⟩, g2, g3⟩
    rcases Nat.eq_zero_or_pos len with h0 | hpos
    · subst h0
      exact ⟨some a, cap, [], rfl, Nat.zero_le _, ⟨rfl, by simp, fun h => absurd h (by simp)⟩, fun y hy => by simp at hy, by simp only [szL, Rows.uptoBulk]; omega, .inl rfl⟩
    · have : Nonempty α := ⟨(each 0 hpos).choose⟩
      have := Classical.inhabited_of_nonempty this
      obtain ⟨f, hf⟩ := choose_lt each
      have hlen : ((List.range len).map f).length = len := by simp
      refine ⟨some a, cap, (List.range len).map f, by rw [hlen], by rw [hlen]; exact hl, ⟨rfl, ?_, fun _ => ⟨a, rfl, fun j q hj => ?_⟩⟩, fun y hy => ?_, ?_, .inr ⟨_, _, rfl, by simp⟩⟩
      · rw [hlen]; unfold maxLen at hm; omega
      · have hjl : j < len := by
          have := (List.getElem?_eq_some_iff.1 hj).1
          simpa using this
        rw [List.getElem?_map, List.getElem?_range hjl] at hj
        obtain rfl := Option.some.inj hj
        obtain ⟨⟨cs', ⟨h3, h4⟩, h5⟩, _⟩ := hf j hjl
        refine ⟨cs', h3, h5, fun i u hu => ?_⟩
        have hi : i < k.sz := by rw [← h3]; exact (List.getElem?_eq_some_iff.1 hu).1
        rw [← hu, ← h4 i hi, Deep.add_add]
      · obtain ⟨i, hi, rfl⟩ := List.mem_map.1 hy
        exact (hf i (List.mem_range.1 hi)).2.1
      · have : ∀ l : List Nat, (∀ i ∈ l, i < len) → szL sz (l.map f) ≤ Rows.uptoBulkAll (l.map D) + 1 := by
          intro l
          induction l with
          | nil => intro _; simp [szL, Rows.uptoBulkAll]
          | cons i r ih =>
            intro h
            have h1 := (hf i (h i (by simp))).2.2
            have h2 := ih (fun j hj => h j (by simp [hj]))
            simp only [List.map_cons, szL, Rows.uptoBulkAll]
            omega
        have := this (List.range len) (fun i hi => List.mem_range.1 hi)
        simp only [Rows.uptoBulk]
        omega
theorem op_slice {t e : TypeId} {k : Kd α} {okp : α → Prop} {sz : α → Nat} (ht : Try.prog.underlying t = some (.slice e)) (hc : Try.prog.cellsOf e = k.sz) (ho : Op enc W e k okp sz) :
    Op enc W t (Kd.slice e k) (fun ys => ∀ y ∈ ys, okp y) (szL sz) := by
  intro fuel cs d p h
  obtain ⟨A, c, ys, rfl, h1, h2, h3, h4, _⟩ := slice_form ht hc ho h
  exact ⟨ys, ⟨A, c, rfl, h1, h2⟩, h3, h4⟩
set_option maxRecDepth 100000 in
/-- An argument that is a slice. -/
theorem arg_slice {t e : TypeId} {k : Kd α} {okp : α → Prop} {sz : α → Nat} (ht : Try.prog.underlying t = some (.slice e)) (hc : Try.prog.cellsOf e = k.sz) (ho : Op enc W e k okp sz) {base : Nat}
    {v : Value} {d : DataW H} {p : List MemPlace} (hv : Value.okWide Try.prog W .any base t v) (h : DataW.Trod enc Try.prog W 0 (fun _ => true) true t v d p) :
    ∃ (A : Option Addr) (c : Nat) (ys : List α), v = .slice A ys.length c ∧ ys.length ≤ c ∧ k.C W A ys.length ys ∧ (∀ y ∈ ys, okp y) ∧ szL sz ys ≤ Rows.uptoBulk d ∧ (ys = [] ∨ ∃ elems spare, d = .slice elems spare ∧ elems.length = ys.length) := by
  obtain ⟨a, len, cap, rfl⟩ := okWide_slice ht hv
  obtain ⟨fuel, hf⟩ := h
  obtain ⟨A, c, ys, hcs, r⟩ := slice_form ht hc ho hf
  simp [Value.cells] at hcs
  obtain ⟨rfl, rfl, rfl⟩ := hcs
  exact ⟨_, _, ys, rfl, r⟩
set_option maxRecDepth 100000 in
theorem arg_int {t : TypeId} {kd : IntKind} (ht : Try.prog.underlying t = some (.int kd)) {base : Nat} {v : Value} {d : DataW H} {p : List MemPlace} (hv : Value.okWide Try.prog W .any base t v) (h : DataW.Trod enc Try.prog W 0 (fun _ => true) true t v d p) :
    ∃ a, v = .int kd a ∧ (Lit.int kd a).wf = true := by
  obtain ⟨a, h1, _, _, h2⟩ := open_int ht hv h
  exact ⟨a, h1, h2⟩
set_option maxRecDepth 100000 in
theorem arg_bool {t : TypeId} (ht : Try.prog.underlying t = some .bool) {base : Nat} {v : Value} {d : DataW H} {p : List MemPlace} (hv : Value.okWide Try.prog W .any base t v) (h : DataW.Trod enc Try.prog W 0 (fun _ => true) true t v d p) :
    ∃ b, v = .bool b := by
  obtain ⟨b, h1⟩ := okWide_bool ht hv
  exact ⟨b, h1⟩
theorem one_le (d : DataW H) : 1 ≤ Rows.uptoBulk d := by
  cases d with
  | lit l => cases l <;> simp [Rows.uptoBulk]
  | nil => simp [Rows.uptoBulk]
  | ptr d => simp [Rows.uptoBulk]
  | slice elems spare => simp [Rows.uptoBulk]
  | agg parts => simp [Rows.uptoBulk]
  | iface t d => simp [Rows.uptoBulk]
  | map entries => simp [Rows.uptoBulk]
  | held h => simp [Rows.uptoBulk]
theorem bulk_bound {l : List (DataW H)} (hk : Rows.uptoSmall H l = true) : Rows.uptoBulkAll l ≤ 1048576 := of_decide_eq_true hk
theorem trod_lt_ {t : TypeId} {v : Value} {d : DataW H} {p : List MemPlace} (h : DataW.Trod enc Try.prog W 0 (fun _ => true) true t v d p) : ∀ x ∈ p, x.block < W.heap.size := by
  obtain ⟨m, hm⟩ := h; exact DataW.trod_lt m _ _ _ hm
end

end Go.Proofs.Ytcclmaicdmogjaa.P
