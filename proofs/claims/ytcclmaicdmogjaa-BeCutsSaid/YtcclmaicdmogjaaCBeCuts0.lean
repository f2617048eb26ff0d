/- Part 1 of the proof of the law BeCuts: what be.Cut, be.Lay and be.Pad answer is the document's at any bytes and numbers, in new memory: what is written into the answers does not change the arguments. -/
import Derived.Test.YtcclmaicdmogjaaProg
import Derived.Below
import Derived.Deep.Draws
import Derived.Deep.AppendLies
import Derived.Maps.AppendAt
import Derived.OwnWalk
import Derived.Laws.BytesArg
import Derived.Laws.MakeOwn
import Derived.Laws.OwnMore
import Derived.Deep.OwnRows
import Derived.Tactics
import Derived.Lib.ConvBytes
import Derived.Laws.Slices
import Derived.WalkKit
import Derived.KernelRfl
import Derived.RowKit3
import Derived.Deep.LoopGhost
import Derived.Deep.QuietTactic
import Derived.BigQuiet
import Derived.WideLaws
import Derived.Deep.DeepCutAuto
import Derived.Deep.CutBlock
import Derived.Deep.RegionHeld3
import Derived.Laws.Rows
import Derived.Lib.AppendStr
import Derived.ArgAppend
import Derived.Laws.IdiomCopy
import Derived.OrdersHeld
import Derived.Laws.BitsLemmas
import Derived.RowKit
import Derived.Test.YtcclmaicdmogjaaWWords
import Derived.Test.YtcclmaicdmogjaaWLast
import Derived.Test.YtcclmaicdmogjaaWTab
import Derived.Test.YtcclmaicdmogjaaWFour
import Derived.Test.YtcclmaicdmogjaaWQPut
import Derived.Test.YtcclmaicdmogjaaWApart
import Derived.Test.YtcclmaicdmogjaaWArr
import Derived.Test.YtcclmaicdmogjaaWZeros
import Derived.Test.YtcclmaicdmogjaaWFoot
import Derived.Test.YtcclmaicdmogjaaWKept
import Derived.Test.YtcclmaicdmogjaaWShare
import Derived.Test.YtcclmaicdmogjaaWN
import Derived.Test.YtcclmaicdmogjaaWFootNe
import Derived.Test.YtcclmaicdmogjaaWAt
import Derived.Test.YtcclmaicdmogjaaWEqStruct
import Derived.Test.YtcclmaicdmogjaaWRepsOne
import Derived.Test.YtcclmaicdmogjaaWInv
import Derived.Test.YtcclmaicdmogjaaWInvWords
import Derived.Test.YtcclmaicdmogjaaWGuard
import Derived.Test.YtcclmaicdmogjaaWNEv
import Derived.Test.YtcclmaicdmogjaaWMore
import Derived.Test.YtcclmaicdmogjaaPb
-- Written by wip/pr.py over the kit's print
namespace Go.Proofs.Ytcclmaicdmogjaa.P
open Go.RowKit Go.Proofs.YtcclmaicdmogjaaW.PrintWords Go.Proofs.YtcclmaicdmogjaaW.PrintLast Go.Proofs.YtcclmaicdmogjaaW.PrintMore
attribute [local go_sem] max2_int min2_int max_two min_two max_three min_three max_four min_four   -- for this text's walks alone
set_option linter.unusedVariables false
set_option linter.unusedSimpArgs false



def errW : Option Int → Value
  | none => .nilIface
  | some c => .iface 0 (.int .i64 c)
theorem errW_none : errW none = .nilIface := rfl
theorem errW_some (c : Int) : errW (some c) = .iface 0 (.int .i64 c) := rfl

theorem info3 : (Try.prog.info? 3).map (fun i => (i.zero, i.size, i.bytes)) = some (some (.int .i64 0), 1, 8) := by kernel_rfl
theorem info5 : (Try.prog.info? 5).map (fun i => (i.zero, i.size, i.bytes)) = some (some (.int .u8 0), 1, 1) := by kernel_rfl
theorem info91 : (Try.prog.info? 91).map (fun i => (i.zero, i.size, i.bytes)) = some (some (.agg #[(.string ⟨#[]⟩), (.slice none 0 0)]), 2, 40) := by kernel_rfl
theorem info111 : (Try.prog.info? 111).map (fun i => (i.zero, i.size, i.bytes)) = some (some (.agg #[(.int .i64 0), (.int .i64 0)]), 2, 16) := by kernel_rfl
-- the values' own types
def rd_L2 (xs : List (List Int)) (i : Int) : (List Int) := xs.getD i.toNat ([] : List Int)
theorem at_L2 {w : World} {A : Option Addr} {n : Nat} {xs : List (List Int)} (h : Kd.C (Kd.slice 5 (Kd.int .u8)) w A n xs) (i : Int) (h0 : 0 ≤ i) (h1 : i < n) : ∃ ad A0 c0, A = some ad ∧ w.cell? (ad.add i.toNat) = some (.slice A0 (rd_L2 xs i).length c0) ∧ (rd_L2 xs i).length ≤ c0 ∧ (Kd.int .u8).C w A0 (rd_L2 xs i).length (rd_L2 xs i) := by
  obtain ⟨ad, c, e, _, hK, hc0⟩ := Kd.C_get h ([] : List Int) i h0 h1
  have hc : ∀ j u, c[j]? = some u → w.cell? (ad.add (i.toNat * 1 + j)) = some u := hc0
  obtain ⟨A0, c0, rfl, l0, g0⟩ := hK
  exact ⟨ad, A0, c0, e, by have hq := hc 0 _ rfl; rwa [Nat.mul_one, Nat.add_zero] at hq, l0, g0⟩

def rd_L4 (xs : List (List Int)) (i : Int) : (List Int) := xs.getD i.toNat ([] : List Int)
theorem at_L4 {w : World} {A : Option Addr} {n : Nat} {xs : List (List Int)} (h : Kd.C (Kd.slice 3 (Kd.int .i64)) w A n xs) (i : Int) (h0 : 0 ≤ i) (h1 : i < n) : ∃ ad A0 c0, A = some ad ∧ w.cell? (ad.add i.toNat) = some (.slice A0 (rd_L4 xs i).length c0) ∧ (rd_L4 xs i).length ≤ c0 ∧ (Kd.int .i64).C w A0 (rd_L4 xs i).length (rd_L4 xs i) := by
  obtain ⟨ad, c, e, _, hK, hc0⟩ := Kd.C_get h ([] : List Int) i h0 h1
  have hc : ∀ j u, c[j]? = some u → w.cell? (ad.add (i.toNat * 1 + j)) = some u := hc0
  obtain ⟨A0, c0, rfl, l0, g0⟩ := hK
  exact ⟨ad, A0, c0, e, by have hq := hc 0 _ rfl; rwa [Nat.mul_one, Nat.add_zero] at hq, l0, g0⟩

/-! #### struct type 111 -/
structure S111 where
  f0 : Int
  f1 : Int
def z111 : S111 := ⟨(0 : Int), (0 : Int)⟩
def k111 : Kd S111 := Kd.iso (Kd.pair (Kd.int .i64) (Kd.int .i64)) (fun x : S111 => (x.f0, x.f1))
theorem k111_open {w : World} {x : S111} {cs : List Value} (h : k111.K w x cs) : cs = [.int .i64 x.f0, .int .i64 x.f1] := by
  obtain ⟨_, _, rfl, rfl, rfl⟩ := h
  exact rfl
theorem k111_openM {w : World} {base : Nat} {ok : Nat → Prop} {x : S111} {cs : List Value} (h : k111.M w base ok x cs) : cs = [.int .i64 x.f0, .int .i64 x.f1] := by
  obtain ⟨_, _, rfl, rfl, rfl⟩ := h
  exact rfl
theorem k111_mk (w : World) (x : S111)  : k111.K w x [.int .i64 x.f0, .int .i64 x.f1] := ⟨[.int .i64 x.f0], [.int .i64 x.f1], rfl, rfl, rfl⟩
theorem k111_mkM (w : World) (base : Nat) (ok : Nat → Prop) (x : S111)  : k111.M w base ok x [.int .i64 x.f0, .int .i64 x.f1] := ⟨[.int .i64 x.f0], [.int .i64 x.f1], rfl, rfl, rfl⟩
theorem k111_mkF (W : World) (ok : Nat → Prop) (x : S111) : Kd.FK k111 W ok x [.int .i64 x.f0, .int .i64 x.f1] := fun W2 _ => k111_mk W2 x
def rd_T111 (xs : List S111) (i : Int) : S111 := xs.getD i.toNat z111
theorem at_T111 {w : World} {A : Option Addr} {n : Nat} {xs : List S111} (h : Kd.C k111 w A n xs) (i : Int) (h0 : 0 ≤ i) (h1 : i < n) : ∃ ad , A = some ad ∧ w.cell? (ad.add (i.toNat * 2)) = some (.int .i64 (rd_T111 xs i).f0) ∧ w.cell? ⟨(ad.add (i.toNat * 2)).block, (ad.add (i.toNat * 2)).off + 1, none⟩ = some (.int .i64 (rd_T111 xs i).f1) := by
  obtain ⟨ad, c, e, _, hK, hc0⟩ := Kd.C_get h z111 i h0 h1
  have hc : ∀ j u, c[j]? = some u → w.cell? (ad.add (i.toNat * 2 + j)) = some u := hc0
  obtain rfl := k111_open hK
  exact ⟨ad, e, hc 0 _ rfl, by rw [← add_field _ _ 1 (by omega)]; exact hc 1 _ rfl⟩

def rd_L7 (xs : List (List S111)) (i : Int) : (List S111) := xs.getD i.toNat ([] : List S111)
theorem at_L7 {w : World} {A : Option Addr} {n : Nat} {xs : List (List S111)} (h : Kd.C (Kd.slice 111 k111) w A n xs) (i : Int) (h0 : 0 ≤ i) (h1 : i < n) : ∃ ad A0 c0, A = some ad ∧ w.cell? (ad.add i.toNat) = some (.slice A0 (rd_L7 xs i).length c0) ∧ (rd_L7 xs i).length ≤ c0 ∧ k111.C w A0 (rd_L7 xs i).length (rd_L7 xs i) := by
  obtain ⟨ad, c, e, _, hK, hc0⟩ := Kd.C_get h ([] : List S111) i h0 h1
  have hc : ∀ j u, c[j]? = some u → w.cell? (ad.add (i.toNat * 1 + j)) = some u := hc0
  obtain ⟨A0, c0, rfl, l0, g0⟩ := hK
  exact ⟨ad, A0, c0, e, by have hq := hc 0 _ rfl; rwa [Nat.mul_one, Nat.add_zero] at hq, l0, g0⟩

/-! #### struct type 91 -/
structure S91 where
  f0 : ByteArray
  f1 : (List Int)
def z91 : S91 := ⟨(⟨#[]⟩ : ByteArray), ([] : List Int)⟩
def k91 : Kd S91 := Kd.iso (Kd.pair Kd.string (Kd.slice 5 (Kd.int .u8))) (fun x : S91 => (x.f0, x.f1))
theorem k91_open {w : World} {x : S91} {cs : List Value} (h : k91.K w x cs) : ∃ A1 c1, cs = [.string x.f0, .slice A1 x.f1.length c1] ∧ x.f1.length ≤ c1 ∧ (Kd.int .u8).C w A1 x.f1.length x.f1 := by
  obtain ⟨_, _, rfl, rfl, ⟨A1, c1, rfl, l1, g1⟩⟩ := h
  exact ⟨A1, c1, rfl, l1, g1⟩
theorem k91_openM {w : World} {base : Nat} {ok : Nat → Prop} {x : S91} {cs : List Value} (h : k91.M w base ok x cs) : ∃ v1, cs = [.string x.f0, v1] ∧ (Kd.int .u8).R 5 w base ok v1 x.f1 := by
  obtain ⟨_, _, rfl, rfl, ⟨v1, rfl, g1⟩⟩ := h
  exact ⟨v1, rfl, g1⟩
theorem k91_mk (w : World) (x : S91) {A1 : Option Addr} {c1 : Nat} (l1 : x.f1.length ≤ c1) (g1 : (Kd.int .u8).C w A1 x.f1.length x.f1) : k91.K w x [.string x.f0, .slice A1 x.f1.length c1] := ⟨[.string x.f0], [.slice A1 x.f1.length c1], rfl, rfl, ⟨A1, c1, rfl, l1, g1⟩⟩
theorem k91_mkM (w : World) (base : Nat) (ok : Nat → Prop) (x : S91) {v1 : Value} (g1 : (Kd.int .u8).R 5 w base ok v1 x.f1) : k91.M w base ok x [.string x.f0, v1] := ⟨[.string x.f0], [v1], rfl, rfl, ⟨v1, rfl, g1⟩⟩
theorem k91_openF {W : World} {ok : Nat → Prop} {x : S91} {cs : List Value} (h : Kd.FK k91 W ok x cs) : ∃ A1 c1, cs = [.string x.f0, .slice A1 x.f1.length c1] ∧ x.f1.length ≤ c1 ∧ Kd.F (Kd.int .u8) W ok A1 x.f1.length x.f1 := by
  obtain ⟨A1, c1, rfl, l1, _⟩ := k91_open (Kd.FK_now h)
  exact ⟨A1, c1, rfl, l1, (fun W' hW => by obtain ⟨A1_, c1_, he, l1_, g1_⟩ := k91_open (h W' hW); injection (Option.some.inj (show some (Value.slice A1 x.f1.length c1) = some (Value.slice A1_ x.f1.length c1_) from congrArg (fun l => l[1]?) he)) with ha_ _ _; rw [ha_]; exact g1_)⟩
theorem k91_mkF (W : World) (ok : Nat → Prop) (x : S91) {A1 : Option Addr} {c1 : Nat} (l1 : x.f1.length ≤ c1) (g1 : Kd.F (Kd.int .u8) W ok A1 x.f1.length x.f1) : Kd.FK k91 W ok x [.string x.f0, .slice A1 x.f1.length c1] := fun W2 hW => k91_mk W2 x l1 (g1 W2 hW)
def rd_T91 (xs : List S91) (i : Int) : S91 := xs.getD i.toNat z91
theorem at_T91 {w : World} {A : Option Addr} {n : Nat} {xs : List S91} (h : Kd.C k91 w A n xs) (i : Int) (h0 : 0 ≤ i) (h1 : i < n) : ∃ ad A1 c1, A = some ad ∧ w.cell? (ad.add (i.toNat * 2)) = some (.string (rd_T91 xs i).f0) ∧ w.cell? ⟨(ad.add (i.toNat * 2)).block, (ad.add (i.toNat * 2)).off + 1, none⟩ = some (.slice A1 (rd_T91 xs i).f1.length c1) ∧ (rd_T91 xs i).f1.length ≤ c1 ∧ (Kd.int .u8).C w A1 (rd_T91 xs i).f1.length (rd_T91 xs i).f1 := by
  obtain ⟨ad, c, e, _, hK, hc0⟩ := Kd.C_get h z91 i h0 h1
  have hc : ∀ j u, c[j]? = some u → w.cell? (ad.add (i.toNat * 2 + j)) = some u := hc0
  obtain ⟨A1, c1, rfl, l1, g1⟩ := k91_open hK
  exact ⟨ad, A1, c1, e, hc 0 _ rfl, by rw [← add_field _ _ 1 (by omega)]; exact hc 1 _ rfl, l1, g1⟩

end Go.Proofs.Ytcclmaicdmogjaa.P

-- Written by wip/pr.py over the kit's print
namespace Go.Proofs.Ytcclmaicdmogjaa.P
open Go.RowKit Go.Proofs.YtcclmaicdmogjaaW.PrintWords Go.Proofs.YtcclmaicdmogjaaW.PrintLast Go.Proofs.YtcclmaicdmogjaaW.PrintMore
attribute [local go_sem] max2_int min2_int max_two min_two max_three min_three max_four min_four   -- for this text's walks alone
set_option linter.unusedVariables false
set_option linter.unusedSimpArgs false

/-! ### calamusref02_Copy: function 26 -/
def calamusref02_Copy.f (l0 : List Int) : Option (List Int) := (some (([] : List Int) : List Int)).bind fun y108 => (if y108.length + l0.length < 140737488355328 then (some (y108 ++ l0)) else (none))
set_option maxHeartbeats 8000000 in
set_option maxRecDepth 100000 in
theorem calamusref02_Copy.calls (A0 : Option Addr) (c0 : Nat) (l0 : List Int) (r : List Int) (w : World) (hr0 : Kd.C (Kd.int .u8) w A0 l0.length l0) (hc0 : l0.length ≤ c0) (h : calamusref02_Copy.f l0 = some r) :
    Calls Try.prog 26 #[.slice A0 l0.length c0] w fun e w' => ∃ v0_ : Value, e = .returned (v0_) ∧ Kd.R (Kd.int .u8) 5 w' w.heap.size (fun _ => True) v0_ r ∧ Below w.heap.size w w' := by
  have HR0 := Aside0.mk hr0
  have HC0 := Aside0.mk hc0
  clear hr0 hc0
  have HB := Aside0.mk (Below.refl w.heap.size w)
  have H : ((some (([] : List Int) : List Int)).bind fun y108 => (if y108.length + l0.length < 140737488355328 then (some (y108 ++ l0)) else (none))) = some r := h
  clear h
  obtain ⟨y108, hy108⟩ : ∃ y_ : List Int, y_ = (([] : List Int)) := ⟨_, rfl⟩
  replace H : (if y108.length + l0.length < 140737488355328 then (some (y108 ++ l0)) else (none)) = some r := by first | (rw [hy108]; with_reducible exact H) | (have H2_ := (Option.bind_some _ _).symm.trans H; rw [hy108]; with_reducible exact H2_) | (have H2_ := (Option.bind_some _ _).symm.trans H; with_reducible exact H2_) | with_reducible exact H | (rw [hy108]; exact H) | exact H
  have Ny108 := Aside0.mk hy108
  clear hy108
  by_cases c2 : y108.length + l0.length < 140737488355328
  · rw [if_pos c2] at H
    have LMc2 := Aside0.mk c2
    clear c2
    obtain ⟨y111, hy111⟩ : ∃ y_ : List Int, y_ = (y108 ++ l0) := ⟨_, rfl⟩
    replace H : (some y111) = some r := by first | (rw [hy111]; with_reducible exact H) | (have H2_ := (Option.bind_some _ _).symm.trans H; rw [hy111]; with_reducible exact H2_) | (have H2_ := (Option.bind_some _ _).symm.trans H; with_reducible exact H2_) | with_reducible exact H | (rw [hy111]; exact H) | exact H
    have Ny111 := Aside0.mk hy111
    clear hy111
    obtain rfl := Option.some.inj H
    go_enter Try.func26, Try.ntmps26
    go_wp2_with (first | ((with_reducible refine gate_dst (N := 3) rfl ?_); refine Kd.R_lit (Kd.int .u8) _ 5 ?hg (N := 3) ?hd (xs := ([] : List Int)) (inner := []) (ok := fun _ => True) (okp := fun _ => True) ?hr ?hp (fun _ hk => hk) trivial (Below.refl _ _) (Nat.le_refl _) (by simp) ?_; (case hd => rfl); (case hg => rfl); (case hr => first | (go_simp; done) | (go_simp; rfl)); (case hp => exact (Reps.none _ _)); intro v109 w3 ho4 hb hg_ hnew_; clear hg_ hnew_; (first | rw [← Ny108.out] at ho4 | (simp only [Int.reduceToNat] at ho4; rw [← Ny108.out] at ho4)); have n0_ := Aside0.mk (Kd.R_lower ho4 (below_size (by repeat (first | (with_reducible first | exact HB.out | apply below_alloc | apply pw_below_drewN | apply below_drew1) | exact HB.out)))); have n1_ := Aside0.mk (below_step (by repeat (first | (with_reducible first | exact HB.out | apply below_alloc | apply pw_below_drewN | apply below_drew1) | exact HB.out)) hb); clear HB; have HO110 := n0_; have HB := n1_; clear n0_ n1_; clear hb ho4) | ((with_reducible refine gate_builtin (b := .append) (xs := #[.tmp 3, .tmp 4]) rfl ?_); at_builtin; refine Kd.R_append_rows (Kd.int .u8) (w0 := w) w.heap.size rfl (.tmp 3) (.tmp 4) 23 5 (.int .u8 0) 1 rfl Try.underlying23 info5 rfl (by decide) (by omega) v109 y108 l0 _ _ _ (fun _ => True) (fun _ => False) rfl rfl ?aO ?aR (fun _ _ h => h) (fun _ h => h.elim) ?aF ?aB ?aS ?aL ?_; (case aR => repeat (first | exact (Kd.C_below HR0.out HB.out) | (with_reducible refine Kd.C_alloc ?_ _) | (with_reducible refine Kd.C_drewN ?_ _) | (with_reducible refine Kd.C_drew ?_))); (case aB => exact (by repeat (first | (with_reducible first | exact HB.out | apply below_alloc | apply pw_below_drewN | apply below_drew1) | exact HB.out))); (case aF => exact (fun _ _ => trivial)); (case aO => exact (by (with_reducible repeat (first | apply Kd.R_alloc | apply Kd.R_drewN | apply Kd.R_drew)); exact HO110.out)); (case aS => exact (below_size (by repeat (first | (with_reducible first | exact HB.out | apply below_alloc | apply pw_below_drewN | apply below_drew1) | exact HB.out)))); (case aL => have := LMc2.out; omega); intro v112 w5 ho hb hg hat; rw [← Ny111.out] at ho; have n0_ := Aside0.mk (hb); have n1_ := Aside0.mk (ho); clear HB; clear HO110; have HB := n0_; have HO113 := n1_; clear n0_ n1_; clear ho hb hg hat))
    go_ret
    exact ⟨_, by first | rfl | (simp [errW_none, errW_some] <;> rfl) | (simp [*, errW_none, errW_some] <;> rfl), by (with_reducible repeat (first | apply Kd.R_alloc | apply Kd.R_drewN | apply Kd.R_drew)); exact HO113.out, by repeat (first | (with_reducible first | exact HB.out | apply below_alloc | apply pw_below_drewN | apply below_drew1) | exact HB.out)⟩
  · rw [if_neg c2] at H
    exact absurd H (by simp)

end Go.Proofs.Ytcclmaicdmogjaa.P

-- Written by wip/pr.py over the kit's print
namespace Go.Proofs.Ytcclmaicdmogjaa.P
open Go.RowKit Go.Proofs.YtcclmaicdmogjaaW.PrintWords Go.Proofs.YtcclmaicdmogjaaW.PrintLast Go.Proofs.YtcclmaicdmogjaaW.PrintMore
attribute [local go_sem] max2_int min2_int max_two min_two max_three min_three max_four min_four   -- for this text's walks alone
set_option linter.unusedVariables false
set_option linter.unusedSimpArgs false

/-! ### calamusref02_Same: function 33 -/
def calamusref02_Same.f (l0 : List Int) (l1 : List Int) : Option (Bool) := some ((strOfNums l0).toList == (strOfNums l1).toList)
set_option maxHeartbeats 8000000 in
set_option maxRecDepth 100000 in
theorem calamusref02_Same.calls (A0 : Option Addr) (c0 : Nat) (l0 : List Int) (A1 : Option Addr) (c1 : Nat) (l1 : List Int) (r : Bool) (w : World) (hr0 : Kd.C (Kd.int .u8) w A0 l0.length l0) (hc0 : l0.length ≤ c0) (hr1 : Kd.C (Kd.int .u8) w A1 l1.length l1) (hc1 : l1.length ≤ c1) (h : calamusref02_Same.f l0 l1 = some r) :
    Calls Try.prog 33 #[.slice A0 l0.length c0, .slice A1 l1.length c1] w fun e w' => e = .returned (.bool r) ∧ Drawn0 w w' := by
  have HR0 := Aside0.mk hr0
  have HC0 := Aside0.mk hc0
  clear hr0 hc0
  have HR1 := Aside0.mk hr1
  have HC1 := Aside0.mk hc1
  clear hr1 hc1
  have H : (some ((strOfNums l0).toList == (strOfNums l1).toList)) = some r := h
  clear h
  obtain rfl := Option.some.inj H
  have hcv3 := Kd.C_string (P := Try.prog) (A := A0) (c := c0) Try.underlying23 Try.underlying5 Try.underlying9 HR0.out
  have hcv4 := Kd.C_string (P := Try.prog) (A := A1) (c := c1) Try.underlying23 Try.underlying5 Try.underlying9 HR1.out
  go_enter Try.func33, Try.ntmps33
  go_wp2
  go_ret
  exact ⟨by first | rfl | (simp; done) | (simp [*]; done), by repeat (first | exact Drawn0.refl _ | apply Drawn0.step)⟩

end Go.Proofs.Ytcclmaicdmogjaa.P

-- Written by wip/pr.py over the kit's print
namespace Go.Proofs.Ytcclmaicdmogjaa.P
open Go.RowKit Go.Proofs.YtcclmaicdmogjaaW.PrintWords Go.Proofs.YtcclmaicdmogjaaW.PrintLast Go.Proofs.YtcclmaicdmogjaaW.PrintMore
attribute [local go_sem] max2_int min2_int max_two min_two max_three min_three max_four min_four   -- for this text's walks alone
set_option linter.unusedVariables false
set_option linter.unusedSimpArgs false

/-! ### be_Pad: function 45 (by hand) -/
-- FUNC calamus/be.Pad
-- ROUNDS no
-- MAKES yes
-- INFO uint8
/-- A number of noughts, bounded to 1 .. 16, up to which is padded. -/
def padTo (a : Int) : Int := max 1 (min a 16)
def padN (n : Nat) (a : Int) : Nat := (((n : Int) + padTo a - 1) / padTo a * padTo a).toNat
def be_Pad.f (l0 : List Int) (a1 : Int) : Option (List Int) := if l0.length ≤ 140737488355328 ∧ inI a1 then some (l0 ++ List.replicate (padN l0.length a1 - l0.length) 0) else none
theorem pad_le (n : Nat) (t : Int) (h1 : 1 ≤ t) (h2 : t ≤ 16) : (n : Int) ≤ ((n : Int) + t - 1) / t * t ∧ ((n : Int) + t - 1) / t * t ≤ n + 15 := by
  have h := Int.emod_add_mul_ediv ((n : Int) + t - 1) t
  have h3 := Int.emod_nonneg ((n : Int) + t - 1) (show t ≠ 0 by omega)
  have h4 := Int.emod_lt_of_pos ((n : Int) + t - 1) (show 0 < t by omega)
  rw [Int.mul_comm t] at h
  omega
set_option maxHeartbeats 8000000 in
set_option maxRecDepth 100000 in
theorem be_Pad.calls (A0 : Option Addr) (c0 : Nat) (l0 : List Int) (a1 : Int) (r : List Int) (w : World) (hr0 : Kd.C (Kd.int .u8) w A0 l0.length l0) (hc0 : l0.length ≤ c0) (h : be_Pad.f l0 a1 = some r) :
    Calls Try.prog 45 #[.slice A0 l0.length c0, .int .i64 a1] w fun e w' => ∃ v0_ : Value, e = .returned (v0_) ∧ Kd.R (Kd.int .u8) 5 w' w.heap.size (fun _ => True) v0_ r ∧ Below w.heap.size w w' := by
  unfold be_Pad.f at h
  split at h
  case isFalse => cases h
  rename_i hg
  obtain ⟨hmax, hi1, hi2⟩ := hg
  have HR := Aside0.mk (Option.some.inj h)
  have HC := Aside0.mk hr0
  have HL := Aside0.mk hc0
  clear h hr0 hc0
  have HB := Aside0.mk (Below.refl w.heap.size w)
  obtain ⟨j, hj⟩ : ∃ j : Int, (if 16 < a1 then 16 else a1) = j := ⟨_, rfl⟩
  obtain ⟨t, ht⟩ : ∃ t : Int, (if 1 < j then j else 1) = t := ⟨_, rfl⟩
  have HT := Aside0.mk (show padTo a1 = t by unfold padTo; rw [← hj] at ht; revert ht; (repeat' split) <;> omega)
  have ht1 : 1 ≤ t := by rw [← hj] at ht; revert ht; (repeat' split) <;> omega
  have ht2 : t ≤ 16 := by rw [← hj] at ht; revert ht; (repeat' split) <;> omega
  obtain ⟨hle, hge⟩ := pad_le l0.length t ht1 ht2
  obtain ⟨q, hq⟩ : ∃ q : Int, ((l0.length : Int) + t - 1) / t = q := ⟨_, rfl⟩
  rw [hq] at hle hge
  obtain ⟨W, hW⟩ : ∃ W : Nat, q * t = (W : Int) := ⟨(q * t).toNat, by omega⟩
  rw [hW] at hle hge
  have HW := Aside0.mk (show padN l0.length a1 = W by unfold padN; rw [HT.out, hq, hW]; rfl)
  have hq0 : 0 ≤ q ∧ q ≤ 140737488355344 := by
    have : q ≤ q * t ∨ q < 0 := by
      rcases (show q < 0 ∨ 0 ≤ q by omega) with h | h
      · exact .inr h
      · refine .inl ?_
        have := Int.mul_le_mul_of_nonneg_left ht1 h
        omega
    have : 0 ≤ q := by rw [← hq]; exact Int.ediv_nonneg (by omega) (by omega)
    omega
  obtain ⟨hq1, hq2⟩ := hq0
  go_enter Try.func45, Try.ntmps45
  go_wp2_with (first | ((with_reducible refine gate_dst (N := 18) rfl ?_); refine Kd.R_make (Kd.int .u8) _ 5 rfl (N := 18) rfl 23 _ _ rfl (W : Int) rfl rfl Try.underlying23 (.int .u8 0) 1 info5 rfl (by decide) (by omega) 0 (ok := fun _ => True) (okp := fun _ => True) rfl (fun _ hk => hk) trivial (by omega) (by omega) (Below.refl _ _) (Nat.le_refl _) ?_; intro v188 w7 ho8 hb hg_ hnew_; clear hg_ hnew_; have HO := Aside0.mk (Kd.R_lower ho8 (below_size HB.out)); have HC2 := Aside0.mk (Kd.C_below HC.out hb); have HB2 := Aside0.mk (below_step HB.out hb); clear HB HC hb ho8) | ((with_reducible refine gate_builtin (b := .copy) (xs := #[.tmp 19, .tmp 20]) rfl ?_); refine Kd.R_copy (0 : Int) w.heap.size rfl (.tmp 19) (.tmp 20) 23 23 5 rfl Try.underlying23 (by kernel_rfl) v188 (List.replicate W 0) l0 A0 l0.length c0 (fun _ => True) rfl rfl HO.out HC2.out HB2.out (below_size HB2.out) ?_; intro w9 ho9 hb9 _; have HO9 := Aside0.mk ho9; have HB9 := Aside0.mk hb9; clear ho9 hb9 HO HB2))
  go_ret
  refine ⟨_, rfl, ?_, HB9.out⟩
  have h9 := HO9.out
  rw [← HR.out, HW.out]
  rw [List.length_replicate, Nat.min_eq_left (by omega), List.take_length, List.drop_replicate] at h9
  exact h9


end Go.Proofs.Ytcclmaicdmogjaa.P

-- Written by wip/pr.py over the kit's print
namespace Go.Proofs.Ytcclmaicdmogjaa.P
open Go.RowKit Go.Proofs.YtcclmaicdmogjaaW.PrintWords Go.Proofs.YtcclmaicdmogjaaW.PrintLast Go.Proofs.YtcclmaicdmogjaaW.PrintMore
attribute [local go_sem] max2_int min2_int max_two min_two max_three min_three max_four min_four   -- for this text's walks alone
set_option linter.unusedVariables false
set_option linter.unusedSimpArgs false

/-! ### be_there: function 77 -/
def be_there.f (l0 : List Int) (a1 : Int) (a2 : Int) : Option (Bool) := if a1 ≥ 0 then (if a2 ≥ 0 then (if a1 ≤ (l0.length : Int) then (some (decide (a2 ≤ (wrap64 ((l0.length : Int) - a1))))) else (some false)) else (some false)) else (some false)
set_option maxHeartbeats 8000000 in
set_option maxRecDepth 100000 in
theorem be_there.calls (A0 : Option Addr) (c0 : Nat) (l0 : List Int) (a1 : Int) (a2 : Int) (r : Bool) (w : World) (hr0 : Kd.C (Kd.int .u8) w A0 l0.length l0) (hc0 : l0.length ≤ c0) (h : be_there.f l0 a1 a2 = some r) :
    Calls Try.prog 77 #[.slice A0 l0.length c0, .int .i64 a1, .int .i64 a2] w fun e w' => e = .returned (.bool r) ∧ Drawn0 w w' := by
  have HR0 := Aside0.mk hr0
  have HC0 := Aside0.mk hc0
  clear hr0 hc0
  have H : (if a1 ≥ 0 then (if a2 ≥ 0 then (if a1 ≤ (l0.length : Int) then (some (decide (a2 ≤ (wrap64 ((l0.length : Int) - a1))))) else (some false)) else (some false)) else (some false)) = some r := h
  clear h
  by_cases c4 : a1 ≥ 0
  · rw [if_pos c4] at H
    have c4b0 : decide (0 ≤ a1) = true := decide_eq_true c4
    clear c4
    by_cases c5 : a2 ≥ 0
    · rw [if_pos c5] at H
      have c5b0 : decide (0 ≤ a2) = true := decide_eq_true c5
      clear c5
      by_cases c6 : a1 ≤ (l0.length : Int)
      · rw [if_pos c6] at H
        have c6b0 : decide (a1 ≤ (l0.length : Int)) = true := decide_eq_true c6
        clear c6
        obtain rfl := Option.some.inj H
        go_enter Try.func77, Try.ntmps77
        go_wp2
        go_ret
        exact ⟨by first | rfl | (simp; done) | (simp [*]; done), by repeat (first | exact Drawn0.refl _ | apply Drawn0.step)⟩
      · rw [if_neg c6] at H
        have c6b0 : decide (a1 ≤ (l0.length : Int)) = false := decide_eq_false c6
        clear c6
        obtain rfl := Option.some.inj H
        go_enter Try.func77, Try.ntmps77
        go_wp2
        go_ret
        exact ⟨by first | rfl | (simp; done) | (simp [*]; done), by repeat (first | exact Drawn0.refl _ | apply Drawn0.step)⟩
    · rw [if_neg c5] at H
      have c5b0 : decide (0 ≤ a2) = false := decide_eq_false c5
      clear c5
      obtain rfl := Option.some.inj H
      go_enter Try.func77, Try.ntmps77
      go_wp2
      go_ret
      exact ⟨by first | rfl | (simp; done) | (simp [*]; done), by repeat (first | exact Drawn0.refl _ | apply Drawn0.step)⟩
  · rw [if_neg c4] at H
    have c4b0 : decide (0 ≤ a1) = false := decide_eq_false c4
    clear c4
    obtain rfl := Option.some.inj H
    go_enter Try.func77, Try.ntmps77
    go_wp2
    go_ret
    exact ⟨by first | rfl | (simp; done) | (simp [*]; done), by repeat (first | exact Drawn0.refl _ | apply Drawn0.step)⟩

end Go.Proofs.Ytcclmaicdmogjaa.P

-- Written by wip/pr.py over the kit's print
namespace Go.Proofs.Ytcclmaicdmogjaa.P
open Go.RowKit Go.Proofs.YtcclmaicdmogjaaW.PrintWords Go.Proofs.YtcclmaicdmogjaaW.PrintLast Go.Proofs.YtcclmaicdmogjaaW.PrintMore
attribute [local go_sem] max2_int min2_int max_two min_two max_three min_three max_four min_four   -- for this text's walks alone
set_option linter.unusedVariables false
set_option linter.unusedSimpArgs false

/-! ### be_U: function 36 (by hand) -/
-- FUNC calamus/be.U
-- ROUNDS no
-- MAKES no
-- INFO uint8
def be_U.f (l0 : List Int) (a1 : Int) (a2 : Int) : Option (Int × Int) :=
  if isBytes l0 ∧ inI a1 ∧ inI a2 then (if a2 < 1 ∨ a2 > 4 then some (0, 2) else if 0 ≤ a1 ∧ a1 + a2 ≤ l0.length then some (pre (l0.drop a1.toNat) a2.toNat, 0) else some (0, 3)) else none
theorem be_there_eq (l0 : List Int) (a1 a2 : Int) (hm : l0.length ≤ 9223372036854775807) (h1 : inI a1) (h2 : 0 ≤ a2) : be_there.f l0 a1 a2 = some (decide (0 ≤ a1 ∧ a1 + a2 ≤ l0.length)) := by
  unfold inI at h1
  unfold be_there.f
  by_cases c1 : a1 ≥ 0
  · rw [if_pos c1, if_pos (by omega)]
    by_cases c2 : a1 ≤ (l0.length : Int)
    · rw [if_pos c2, IntWalk.wrap64_in _ ⟨by omega, by omega⟩]
      congr 1
      rw [decide_eq_decide]; omega
    · rw [if_neg c2]; simp; omega
  · rw [if_neg c1]; simp; omega
set_option maxHeartbeats 8000000 in
set_option maxRecDepth 100000 in
theorem be_U.calls (A0 : Option Addr) (c0 : Nat) (l0 : List Int) (a1 : Int) (a2 : Int) (r1 : Int) (r2 : Int) (w : World) (hr0 : Kd.C (Kd.int .u8) w A0 l0.length l0) (hc0 : l0.length ≤ c0) (h : be_U.f l0 a1 a2 = some (r1, r2)) :
    Calls Try.prog 36 #[.slice A0 l0.length c0, .int .i64 a1, .int .i64 a2] w fun e w' => e = .returned (.tuple #[.int .i64 r1, .int .i64 r2]) ∧ Drawn0 w w' := by
  have HC := Aside0.mk hr0
  have HL := Aside0.mk hc0
  have hmax : l0.length ≤ 9223372036854775807 := Kd.C_max hr0
  clear hr0 hc0
  unfold be_U.f at h
  split at h
  case isFalse => cases h
  rename_i hg
  obtain ⟨hb, hi1, hi2⟩ := hg
  have HB := Aside0.mk hb
  have HT := fun h2 => be_there_eq l0 a1 a2 hmax hi1 h2
  have HI := Aside0.mk hi1
  unfold inI at hi1 hi2
  obtain ⟨hi11, hi12⟩ := hi1
  obtain ⟨hi21, hi22⟩ := hi2
  clear hb
  by_cases hlo : a2 < 1
  · rw [if_pos (.inl hlo)] at h
    simp only [Option.some.injEq, Prod.mk.injEq] at h
    obtain ⟨rfl, rfl⟩ := h
    clear HT
    go_enter Try.func36, Try.ntmps36
    go_wp2
    go_ret2
    exact ⟨rfl, Drawn0.refl _⟩
  by_cases hhi : a2 > 4
  · rw [if_pos (.inr hhi)] at h
    simp only [Option.some.injEq, Prod.mk.injEq] at h
    obtain ⟨rfl, rfl⟩ := h
    clear HT
    have hhi' : 4 < a2 := hhi
    go_enter Try.func36, Try.ntmps36
    go_wp2
    go_ret2
    exact ⟨rfl, Drawn0.refl _⟩
  rw [if_neg (by omega)] at h
  have hhi' : a2 ≤ 4 := by omega
  have hlo' : 1 ≤ a2 := by omega
  by_cases hth : 0 ≤ a1 ∧ a1 + a2 ≤ l0.length
  · rw [if_pos hth] at h
    have HT' := Aside0.mk (HT (by omega))
    clear HT
    rw [show decide (0 ≤ a1 ∧ a1 + a2 ≤ (l0.length : Int)) = true from decide_eq_true hth] at HT'
    obtain ⟨hth1, hth2⟩ := hth
    simp only [Option.some.injEq, Prod.mk.injEq] at h
    obtain ⟨hr, rfl⟩ := h
    obtain ⟨A', l', c', hcut, hC', hL', HE⟩ := C_midc (P := Try.prog) (k := .u8) 23 5 Try.underlying23 (info_parts info5).choose_spec.1 (info_parts info5).choose_spec.2.2.1 A0 c0 l0 a1 (a1 + a2) hth1 (by omega) hth2 HL.out
    have HLE := Aside0.mk (show l'.length = a2.toNat by rw [HE.out, List.length_drop, List.length_take]; omega)
    have hl4 : l'.length ≤ 4 := by have := HLE.out; omega
    have HB' := Aside0.mk (show isBytes l' by rw [HE.out]; exact (HB.out.take _).drop _)
    have HR := Aside0.mk (show pre l' l'.length = r1 by
      rw [← hr, HLE.out]
      unfold pre
      rw [HE.out]
      rw [List.take_of_length_le (by rw [List.length_drop, List.length_take]; omega), List.take_drop, show (a1 + a2).toNat = a1.toNat + a2.toNat by omega])
    have HC' := Aside0.mk (fun w' => hC' w')
    clear hr hC'
    go_enter Try.func36, Try.ntmps36
    go_wp2_with (go_at_call 77; refine (be_there.calls _ _ l0 a1 a2 true _ HC.out HL.out HT'.out).mono ?_; rintro e w' ⟨rfl, ⟨nd, rfl⟩⟩)
    go_loopg [8, 31] 4 (fun kq v8 v31 w' => ∃ (k : Nat), v31 = .int .i64 (k : Int) ∧ v8 = .int .i64 (pre l' k) ∧ k ≤ l'.length ∧ Aside0 (4 - k = kq) ∧ Aside0 (Kd.C (Kd.int .u8) w' A' l'.length l') ∧ Drawn0 w w')
    case atStart => exact ⟨0, rfl, rfl, by omega, ⟨rfl⟩, ⟨HC'.out _ (by repeat (first | exact HC.out | (with_reducible refine Kd.C_drewN ?_ _) | (with_reducible refine Kd.C_drew ?_)))⟩, ⟨nd, rfl⟩⟩
    case round =>
      obtain ⟨k, rfl, rfl, hkl, HK, HC2, ⟨m', rfl⟩⟩ := hrel
      obtain ⟨hp0, hpb⟩ : 0 ≤ pre l' k ∧ pre l' k ≤ 4294967295 := by
        have := pre_bd l' HB'.out k hkl
        have h256 : (256 : Int) ^ k ≤ 256 ^ 4 := by
          have : k = 0 ∨ k = 1 ∨ k = 2 ∨ k = 3 ∨ k = 4 := by omega
          rcases this with rfl | rfl | rfl | rfl | rfl <;> decide
        omega
      by_cases hkl' : k < l'.length
      · obtain ⟨ad, y, rfl, hx, HY⟩ := C_at HC2.out k hkl'
        obtain ⟨hy0, hy1⟩ := byte_at HB'.out HY
        go_wp2
        go_roundg (4 - (k + 1))
        case measure => have := HK.out; omega
        case rel =>
          have hor := i64_or8 (pre l' k * 256) y (by omega) (by omega) (by omega) hy0 (by omega)
          have hsucc := pre_succ l' k hkl'
          have hy := HY.out
          refine ⟨k + 1, by go_num, ?_, by omega, ⟨rfl⟩, HC2, ⟨m', rfl⟩⟩
          rw [hsucc, hy, ← hor]
      · obtain rfl : k = l'.length := by omega
        go_wp2
        go_ret2
        exact ⟨ret_ints HR.out rfl, ⟨m', rfl⟩⟩
  · rw [if_neg hth] at h
    have HT' := Aside0.mk (HT (by omega))
    clear HT
    rw [show decide (0 ≤ a1 ∧ a1 + a2 ≤ (l0.length : Int)) = false from decide_eq_false hth] at HT'
    simp only [Option.some.injEq, Prod.mk.injEq] at h
    obtain ⟨rfl, rfl⟩ := h
    clear hth
    go_enter Try.func36, Try.ntmps36
    go_wp2_with (go_at_call 77; refine (be_there.calls _ _ l0 a1 a2 false _ HC.out HL.out HT'.out).mono ?_; rintro e w' ⟨rfl, ⟨nd, rfl⟩⟩)
    go_ret2
    exact ⟨rfl, ⟨nd, rfl⟩⟩


end Go.Proofs.Ytcclmaicdmogjaa.P

-- Written by wip/pr.py over the kit's print
namespace Go.Proofs.Ytcclmaicdmogjaa.P
open Go.RowKit Go.Proofs.YtcclmaicdmogjaaW.PrintWords Go.Proofs.YtcclmaicdmogjaaW.PrintLast Go.Proofs.YtcclmaicdmogjaaW.PrintMore
attribute [local go_sem] max2_int min2_int max_two min_two max_three min_three max_four min_four   -- for this text's walks alone
set_option linter.unusedVariables false
set_option linter.unusedSimpArgs false

/-! ### be_S: function 38 -/
def be_S.f (l0 : List Int) (a1 : Int) (a2 : Int) : Option (Int × Int) := (be_U.f l0 a1 a2).bind fun bt182 => (if bt182.2 = 0 then (if 0 ≤ (wrap64 (64 - (wrap64 (8 * a2)))) then (some (shr .i64 (shl .i64 bt182.1 (wrap64 (64 - (wrap64 (8 * a2))))) (wrap64 (64 - (wrap64 (8 * a2)))), 0)) else (none)) else (some (0, bt182.2)))
set_option maxHeartbeats 8000000 in
set_option maxRecDepth 100000 in
theorem be_S.calls (A0 : Option Addr) (c0 : Nat) (l0 : List Int) (a1 : Int) (a2 : Int) (r1 : Int) (r2 : Int) (w : World) (hr0 : Kd.C (Kd.int .u8) w A0 l0.length l0) (hc0 : l0.length ≤ c0) (h : be_S.f l0 a1 a2 = some (r1, r2)) :
    Calls Try.prog 38 #[.slice A0 l0.length c0, .int .i64 a1, .int .i64 a2] w fun e w' => e = .returned (.tuple #[.int .i64 r1, .int .i64 r2]) ∧ Drawn0 w w' := by
  have HR0 := Aside0.mk hr0
  have HC0 := Aside0.mk hc0
  clear hr0 hc0
  have H : ((be_U.f l0 a1 a2).bind fun bt182 => (if bt182.2 = 0 then (if 0 ≤ (wrap64 (64 - (wrap64 (8 * a2)))) then (some (shr .i64 (shl .i64 bt182.1 (wrap64 (64 - (wrap64 (8 * a2))))) (wrap64 (64 - (wrap64 (8 * a2)))), 0)) else (none)) else (some (0, bt182.2)))) = some (r1, r2) := h
  clear h
  replace H := Option.bind_eq_some_iff.mp H
  obtain ⟨⟨t182, t183⟩, A40, H⟩ := H
  replace H : (if t183 = 0 then (if 0 ≤ (wrap64 (64 - (wrap64 (8 * a2)))) then (some (shr .i64 (shl .i64 t182 (wrap64 (64 - (wrap64 (8 * a2))))) (wrap64 (64 - (wrap64 (8 * a2)))), 0)) else (none)) else (some (0, t183))) = some (r1, r2) := H
  have A4 := Aside0.mk A40
  clear A40
  by_cases c5 : t183 = 0
  · rw [if_pos c5] at H
    have c5b0 : (t183 == 0) = true := beq_iff_eq.mpr c5
    have c5b1 : (t183 != 0) = false := bne_eq_false_iff_eq.mpr c5
    clear c5
    obtain ⟨ji6, hji6⟩ : ∃ j_ : Int, (wrap64 (64 - (wrap64 (8 * a2)))) = j_ := ⟨_, rfl⟩
    replace H : (if 0 ≤ (ji6) then (some (shr .i64 (shl .i64 t182 (ji6)) (ji6), 0)) else (none)) = some (r1, r2) := by first | (rw [hji6] at H; exact H) | (simp only [hji6] at H ⊢; exact H)
    (try rw [hji6] at A4)
    have hji6w : (IntKind.i64.wrap (64 - (wrap64 (8 * a2)))) = ji6 := (i64_w _).trans hji6
    by_cases c7 : 0 ≤ (ji6)
    · rw [if_pos c7] at H
      have c7b0 := eq_true c7
      have c7b1 : decide (0 ≤ (ji6)) = true := decide_eq_true c7
      clear c7
      obtain ⟨ji8, hji8⟩ : ∃ j_ : Int, (shl .i64 t182 (ji6)) = j_ := ⟨_, rfl⟩
      replace H : (some (shr .i64 (ji8) (ji6), 0)) = some (r1, r2) := by first | (rw [hji8] at H; exact H) | (simp only [hji8] at H ⊢; exact H)
      (try rw [hji8] at A4)
      have hji8_ : (IntKind.i64.wrap (t182 * 2 ^ min (ji6).toNat 64)) = ji8 := hji8
      have hji8z : (ji6) ≤ 64 → (IntKind.i64.wrap (t182 * 2 ^ (ji6).toNat)) = ji8 := shl_small hji8
      have hji8y : (wrap64 (t182 * 2 ^ min (ji6).toNat 64)) = ji8 := (i64_w _).symm.trans hji8_
      have hji8x : (ji6) ≤ 64 → (wrap64 (t182 * 2 ^ (ji6).toNat)) = ji8 := fun h_ => (i64_w _).symm.trans (hji8z h_)
      have c9b0 := eq_true (of_decide_eq_true (by first | (with_reducible assumption) | assumption) : 0 ≤ (ji6))
      obtain ⟨ji10, hji10⟩ : ∃ j_ : Int, (shr .i64 (ji8) (ji6)) = j_ := ⟨_, rfl⟩
      replace H : (some (ji10, 0)) = some (r1, r2) := by first | (rw [hji10] at H; exact H) | (simp only [hji10] at H ⊢; exact H)
      (try rw [hji10] at A4)
      have hji10_ : ((ji8) / 2 ^ min (ji6).toNat 64) = ji10 := hji10
      have hji10z : (ji6) ≤ 64 → ((ji8) / 2 ^ (ji6).toNat) = ji10 := shr_small hji10
      simp only [Option.some.injEq, Prod.mk.injEq] at H
      obtain ⟨rfl, rfl⟩ := H
      go_enter Try.func38, Try.ntmps38
      go_wp2_with (first | ((with_reducible refine gate_callee (f := 36) rfl ?_); refine goesL_ (some 15) rfl rfl Try.func36 (by kernel_rfl) rfl #[.slice A0 l0.length c0, .int .i64 a1, .int .i64 a2] rfl (by (try simp only [List.map_toArray, List.map_cons, List.map_nil]); first | done | rfl | (simp only [List.length_drop, List.length_take]; rfl)) ?_; (with_reducible refine (be_U.calls _ _ l0 a1 a2 t182 t183 _ ?side1 ?side2 A4.out).mono ?_); (case side1 => repeat (first | exact HR0.out | (with_reducible refine Kd.C_alloc ?_ _) | (with_reducible refine Kd.C_drewN ?_ _) | (with_reducible refine Kd.C_drew ?_))); (case side2 => exact HC0.out); rintro e w' ⟨rfl, ⟨nd, rfl⟩⟩; refine ⟨_, rfl, ?_⟩))
      go_ret2
      exact ⟨by first | rfl | (simp; done) | (simp only [← hji6, ← hji8, ← hji10] <;> (first | rfl | simp)) | (simp [*]; done), by repeat (first | exact Drawn0.refl _ | apply Drawn0.step)⟩
    · rw [if_neg c7] at H
      exact absurd H (by simp)
  · rw [if_neg c5] at H
    have c5b0 : (t183 == 0) = false := beq_eq_false_iff_ne.mpr c5
    have c5b1 : (t183 != 0) = true := bne_iff_ne.mpr c5
    simp only [Option.some.injEq, Prod.mk.injEq] at H
    obtain ⟨rfl, rfl⟩ := H
    go_enter Try.func38, Try.ntmps38
    go_wp2_with (first | ((with_reducible refine gate_callee (f := 36) rfl ?_); refine goesL_ (some 15) rfl rfl Try.func36 (by kernel_rfl) rfl #[.slice A0 l0.length c0, .int .i64 a1, .int .i64 a2] rfl (by (try simp only [List.map_toArray, List.map_cons, List.map_nil]); first | done | rfl | (simp only [List.length_drop, List.length_take]; rfl)) ?_; (with_reducible refine (be_U.calls _ _ l0 a1 a2 t182 t183 _ ?side1 ?side2 A4.out).mono ?_); (case side1 => repeat (first | exact HR0.out | (with_reducible refine Kd.C_alloc ?_ _) | (with_reducible refine Kd.C_drewN ?_ _) | (with_reducible refine Kd.C_drew ?_))); (case side2 => exact HC0.out); rintro e w' ⟨rfl, ⟨nd, rfl⟩⟩; refine ⟨_, rfl, ?_⟩))
    go_ret2
    exact ⟨by first | rfl | (simp; done) | (simp [*]; done), by repeat (first | exact Drawn0.refl _ | apply Drawn0.step)⟩

end Go.Proofs.Ytcclmaicdmogjaa.P

-- Written by wip/pr.py over the kit's print
namespace Go.Proofs.Ytcclmaicdmogjaa.P
open Go.RowKit Go.Proofs.YtcclmaicdmogjaaW.PrintWords Go.Proofs.YtcclmaicdmogjaaW.PrintLast Go.Proofs.YtcclmaicdmogjaaW.PrintMore
attribute [local go_sem] max2_int min2_int max_two min_two max_three min_three max_four min_four   -- for this text's walks alone
set_option linter.unusedVariables false
set_option linter.unusedSimpArgs false

/-! ### be_Put: function 40 (by hand) -/
-- FUNC calamus/be.Put
-- ROUNDS no
-- MAKES yes
-- INFO uint8
def be_Put.f (a0 : Int) (a1 : Int) : Option (List Int) := if inI a0 ∧ inI a1 then some (putB a0 (widthB a1)) else none
set_option maxHeartbeats 8000000 in
set_option maxRecDepth 100000 in
theorem be_Put.calls (a0 : Int) (a1 : Int) (r : List Int) (w : World) (h : be_Put.f a0 a1 = some r) :
    Calls Try.prog 40 #[.int .i64 a0, .int .i64 a1] w fun e w' => ∃ v0_ : Value, e = .returned (v0_) ∧ Kd.R (Kd.int .u8) 5 w' w.heap.size (fun _ => True) v0_ r ∧ Below w.heap.size w w' := by
  unfold be_Put.f at h
  split at h
  case isFalse => cases h
  rename_i hg
  obtain ⟨⟨hi01, hi02⟩, ⟨hi11, hi12⟩⟩ := hg
  have HR := Aside0.mk (Option.some.inj h)
  clear h
  have HB := Aside0.mk (Below.refl w.heap.size w)
  obtain ⟨j, hj⟩ : ∃ j : Int, (if 8 < a1 then 8 else a1) = j := ⟨_, rfl⟩
  obtain ⟨W, hW⟩ : ∃ W : Nat, (if 0 < j then j else 0) = (W : Int) := ⟨(if 0 < j then j else 0).toNat, by split <;> omega⟩
  have HW := Aside0.mk (show widthB a1 = W by unfold widthB; rw [← hj] at hW; revert hW; (repeat' split) <;> omega)
  have hW8 : W ≤ 8 := by rw [← hj] at hW; revert hW; (repeat' split) <;> omega
  go_enter Try.func40, Try.ntmps40
  go_wp2_with (first | ((with_reducible refine gate_dst (N := 11) rfl ?_); refine Kd.R_make (Kd.int .u8) _ 5 rfl (N := 11) rfl 23 _ _ rfl (W : Int) rfl rfl Try.underlying23 (.int .u8 0) 1 info5 rfl (by decide) (by omega) 0 (ok := fun _ => True) (okp := fun _ => True) rfl (fun _ hk => hk) trivial (by omega) (by omega) (Below.refl _ _) (Nat.le_refl _) ?_; intro v188 w7 ho8 hb hg_ hnew_; clear hg_ hnew_; have HO := Aside0.mk (Kd.R_lower ho8 (below_size HB.out)); have HB2 := Aside0.mk (below_step HB.out hb); clear HB hb ho8))
  obtain ⟨xs, hxs⟩ : ∃ xs : List Int, xs = List.replicate W 0 := ⟨_, rfl⟩
  have HO1 : Aside0 (Kd.R (Kd.int .u8) 5 w7 w.heap.size (fun _ => True) v188 xs) := ⟨by rw [hxs]; exact HO.out⟩
  clear HO
  have HX := Aside0.mk hxs
  clear hxs
  by_cases hW0 : W = 0
  · subst hW0
    refine wp_loop_rounds 1 ?_
    rw [rounds_succ]
    go_wp2
    go_ret
    refine ⟨_, rfl, ?_, HB2.out⟩
    have := HO1.out
    rw [← HR.out, HW.out]
    rw [HX.out] at this
    simpa [putB] using this
  · obtain ⟨g, cap, hv, hgb, hgl, hgc⟩ := Kd.R_form HO1.out (by rw [HX.out]; simp; omega)
    have hlen : xs.length = W := by rw [HX.out]; simp
    rw [hlen] at hv
    subst hv
    have HG := Aside0.mk hgb
    clear hgb hgl hgc hlen
    go_loopg [6, 13] W (fun kq v6 v13 w' => ∃ (k : Nat), v13 = .int .i64 (k : Int) ∧ k ≤ W ∧ Aside0 (W - k = kq) ∧ Aside0 (Kd.R (Kd.int .u8) 5 w' w.heap.size (fun _ => True) (.slice (some ⟨g, 0, none⟩) W cap) (List.replicate (W - k) 0 ++ putB a0 k)) ∧ Aside0 (Below w.heap.size w w'))
    case atStart => exact ⟨0, rfl, by omega, ⟨rfl⟩, ⟨by have := HO1.out; rw [HX.out] at this; simpa [putB] using this⟩, HB2⟩
    case round =>
      obtain ⟨k, rfl, hk, HK, HO2, HB3⟩ := hrel
      by_cases hkl : k < W
      · obtain ⟨hx, hf⟩ := Kd.R_celln 0 HO2.out ((W - 1 - k : Nat) : Int) (by omega) (by omega)
        have hx2 : ∃ y, wr.cell? ⟨g, W - 1 - k, none⟩ = some (.int .u8 y) := ⟨_, by simpa using hx⟩
        have hf2 : wr.frozen? ⟨g, W - 1 - k, none⟩ = false := by simpa using hf
        clear hx hf
        obtain ⟨y, hx⟩ := hx2
        go_wp2
        go_roundg (W - (k + 1))
        case measure => have := HK.out; omega
        case rel => exact ⟨k + 1, by go_num, by omega, ⟨rfl⟩, ⟨put_stored HO2.out hkl rfl⟩, ⟨below_set HB3.out HG.out⟩⟩
      · obtain rfl : k = W := by omega
        go_wp2
        go_ret
        refine ⟨_, rfl, ?_, HB3.out⟩
        have := HO2.out
        rw [← HR.out, HW.out]
        simpa using this


end Go.Proofs.Ytcclmaicdmogjaa.P

-- Written by wip/pr.py over the kit's print
namespace Go.Proofs.Ytcclmaicdmogjaa.P
open Go.RowKit Go.Proofs.YtcclmaicdmogjaaW.PrintWords Go.Proofs.YtcclmaicdmogjaaW.PrintLast Go.Proofs.YtcclmaicdmogjaaW.PrintMore
attribute [local go_sem] max2_int min2_int max_two min_two max_three min_three max_four min_four   -- for this text's walks alone
set_option linter.unusedVariables false
set_option linter.unusedSimpArgs false

/-! ### calamuslaw02_alive: function 35 -/
def calamuslaw02_alive.f  : Option (Bool) := (be_U.f (([1, 2, 3] : List Int)) 1 2).bind fun bt187 => ((be_S.f (([255, 254] : List Int)) 0 2).bind fun bt192 => (if bt187.1 = 515 then (if bt187.2 = 0 then (if bt192.1 = (-2) then (if bt192.2 = 0 then ((be_Put.f (-2) 3).bind fun t194 => (if (strOfNums t194).toList = ([255, 255, 254] : List UInt8) then (if 5 ≤ 281474976710656 then ((be_Pad.f (List.replicate 5 0) 4).bind fun t200 => (some ((t200.length : Int) == 8))) else (none)) else (some false))) else (some false)) else (some false)) else (some false)) else (some false)))
set_option maxHeartbeats 8000000 in
set_option maxRecDepth 100000 in
theorem calamuslaw02_alive.calls  (r : Bool) (w : World) (h : calamuslaw02_alive.f  = some r) :
    Calls Try.prog 35 #[] w fun e w' => e = .returned (.bool r) ∧ Below w.heap.size w w' := by
  have HB := Aside0.mk (Below.refl w.heap.size w)
  have H : ((be_U.f (([1, 2, 3] : List Int)) 1 2).bind fun bt187 => ((be_S.f (([255, 254] : List Int)) 0 2).bind fun bt192 => (if bt187.1 = 515 then (if bt187.2 = 0 then (if bt192.1 = (-2) then (if bt192.2 = 0 then ((be_Put.f (-2) 3).bind fun t194 => (if (strOfNums t194).toList = ([255, 255, 254] : List UInt8) then (if 5 ≤ 281474976710656 then ((be_Pad.f (List.replicate 5 0) 4).bind fun t200 => (some ((t200.length : Int) == 8))) else (none)) else (some false))) else (some false)) else (some false)) else (some false)) else (some false)))) = some r := h
  clear h
  obtain ⟨y184, hy184⟩ : ∃ y_ : List Int, y_ = (([1, 2, 3] : List Int)) := ⟨_, rfl⟩
  replace H : ((be_U.f y184 1 2).bind fun bt187 => ((be_S.f (([255, 254] : List Int)) 0 2).bind fun bt192 => (if bt187.1 = 515 then (if bt187.2 = 0 then (if bt192.1 = (-2) then (if bt192.2 = 0 then ((be_Put.f (-2) 3).bind fun t194 => (if (strOfNums t194).toList = ([255, 255, 254] : List UInt8) then (if 5 ≤ 281474976710656 then ((be_Pad.f (List.replicate 5 0) 4).bind fun t200 => (some ((t200.length : Int) == 8))) else (none)) else (some false))) else (some false)) else (some false)) else (some false)) else (some false)))) = some r := by first | (rw [hy184]; with_reducible exact H) | (have H2_ := (Option.bind_some _ _).symm.trans H; rw [hy184]; with_reducible exact H2_) | (have H2_ := (Option.bind_some _ _).symm.trans H; with_reducible exact H2_) | with_reducible exact H | (rw [hy184]; exact H) | exact H
  have Ny184 := Aside0.mk hy184
  clear hy184
  replace H := Option.bind_eq_some_iff.mp H
  obtain ⟨⟨t187, t188⟩, A10, H⟩ := H
  replace H : ((be_S.f (([255, 254] : List Int)) 0 2).bind fun bt192 => (if t187 = 515 then (if t188 = 0 then (if bt192.1 = (-2) then (if bt192.2 = 0 then ((be_Put.f (-2) 3).bind fun t194 => (if (strOfNums t194).toList = ([255, 255, 254] : List UInt8) then (if 5 ≤ 281474976710656 then ((be_Pad.f (List.replicate 5 0) 4).bind fun t200 => (some ((t200.length : Int) == 8))) else (none)) else (some false))) else (some false)) else (some false)) else (some false)) else (some false))) = some r := H
  have A1 := Aside0.mk A10
  clear A10
  obtain ⟨y189, hy189⟩ : ∃ y_ : List Int, y_ = (([255, 254] : List Int)) := ⟨_, rfl⟩
  replace H : ((be_S.f y189 0 2).bind fun bt192 => (if t187 = 515 then (if t188 = 0 then (if bt192.1 = (-2) then (if bt192.2 = 0 then ((be_Put.f (-2) 3).bind fun t194 => (if (strOfNums t194).toList = ([255, 255, 254] : List UInt8) then (if 5 ≤ 281474976710656 then ((be_Pad.f (List.replicate 5 0) 4).bind fun t200 => (some ((t200.length : Int) == 8))) else (none)) else (some false))) else (some false)) else (some false)) else (some false)) else (some false))) = some r := by first | (rw [hy189]; with_reducible exact H) | (have H2_ := (Option.bind_some _ _).symm.trans H; rw [hy189]; with_reducible exact H2_) | (have H2_ := (Option.bind_some _ _).symm.trans H; with_reducible exact H2_) | with_reducible exact H | (rw [hy189]; exact H) | exact H
  have Ny189 := Aside0.mk hy189
  clear hy189
  replace H := Option.bind_eq_some_iff.mp H
  obtain ⟨⟨t192, t193⟩, A20, H⟩ := H
  replace H : (if t187 = 515 then (if t188 = 0 then (if t192 = (-2) then (if t193 = 0 then ((be_Put.f (-2) 3).bind fun t194 => (if (strOfNums t194).toList = ([255, 255, 254] : List UInt8) then (if 5 ≤ 281474976710656 then ((be_Pad.f (List.replicate 5 0) 4).bind fun t200 => (some ((t200.length : Int) == 8))) else (none)) else (some false))) else (some false)) else (some false)) else (some false)) else (some false)) = some r := H
  have A2 := Aside0.mk A20
  clear A20
  by_cases c3 : t187 = 515
  · rw [if_pos c3] at H
    have c3b0 : (t187 == 515) = true := beq_iff_eq.mpr c3
    have c3b1 : (t187 != 515) = false := bne_eq_false_iff_eq.mpr c3
    clear c3
    by_cases c4 : t188 = 0
    · rw [if_pos c4] at H
      have c4b0 : (t188 == 0) = true := beq_iff_eq.mpr c4
      have c4b1 : (t188 != 0) = false := bne_eq_false_iff_eq.mpr c4
      clear c4
      by_cases c5 : t192 = (-2)
      · rw [if_pos c5] at H
        have c5b0 : (t192 == (-2)) = true := beq_iff_eq.mpr c5
        have c5b1 : (t192 != (-2)) = false := bne_eq_false_iff_eq.mpr c5
        clear c5
        by_cases c6 : t193 = 0
        · rw [if_pos c6] at H
          have c6b0 : (t193 == 0) = true := beq_iff_eq.mpr c6
          have c6b1 : (t193 != 0) = false := bne_eq_false_iff_eq.mpr c6
          clear c6
          replace H := Option.bind_eq_some_iff.mp H
          obtain ⟨t194, A70, H⟩ := H
          replace H : (if (strOfNums t194).toList = ([255, 255, 254] : List UInt8) then (if 5 ≤ 281474976710656 then ((be_Pad.f (List.replicate 5 0) 4).bind fun t200 => (some ((t200.length : Int) == 8))) else (none)) else (some false)) = some r := H
          have A7 := Aside0.mk A70
          clear A70
          by_cases c8 : (strOfNums t194).toList = ([255, 255, 254] : List UInt8)
          · rw [if_pos c8] at H
            have c8b0 : ((strOfNums t194).toList == ([255, 255, 254] : List UInt8)) = true := beq_iff_eq.mpr c8
            have c8b1 : ((strOfNums t194).toList != ([255, 255, 254] : List UInt8)) = false := bne_eq_false_iff_eq.mpr c8
            clear c8
            by_cases c9 : 5 ≤ 281474976710656
            · rw [if_pos c9] at H
              have c9b0 := eq_true c9
              have c9b1 : decide (5 ≤ 281474976710656) = true := decide_eq_true c9
              clear c9
              obtain ⟨y197, hy197⟩ : ∃ y_ : List Int, y_ = (List.replicate 5 0) := ⟨_, rfl⟩
              replace H : ((be_Pad.f y197 4).bind fun t200 => (some ((t200.length : Int) == 8))) = some r := by first | (rw [hy197]; with_reducible exact H) | (have H2_ := (Option.bind_some _ _).symm.trans H; rw [hy197]; with_reducible exact H2_) | (have H2_ := (Option.bind_some _ _).symm.trans H; with_reducible exact H2_) | with_reducible exact H | (rw [hy197]; exact H) | exact H
              have Ny197 := Aside0.mk hy197
              clear hy197
              replace H := Option.bind_eq_some_iff.mp H
              obtain ⟨t200, A100, H⟩ := H
              replace H : (some ((t200.length : Int) == 8)) = some r := H
              have A10 := Aside0.mk A100
              clear A100
              obtain rfl := Option.some.inj H
              go_enter Try.func35, Try.ntmps35
              go_wp2_with (first | ((with_reducible refine gate_dst (N := 6) rfl ?_); (try (refine gate_guard (by rfl) ?_; dsimp only)); refine Kd.R_lit (Kd.int .u8) _ 5 ?hg (N := 6) ?hd (xs := ([1, 2, 3] : List Int)) (inner := [.int .u8 1, .int .u8 2, .int .u8 3]) (ok := fun _ => True) (okp := fun _ => True) ?hr ?hp (fun _ hk => hk) trivial (Below.refl _ _) (Nat.le_refl _) (by simp) ?_; (case hd => rfl); (case hg => rfl); (case hr => first | (go_simp; done) | (go_simp; rfl)); (case hp => exact (Reps.one (show Kd.M (Kd.int .u8) _ _ _ 1 [.int .u8 1] from rfl) (Reps.one (show Kd.M (Kd.int .u8) _ _ _ 2 [.int .u8 2] from rfl) (Reps.one (show Kd.M (Kd.int .u8) _ _ _ 3 [.int .u8 3] from rfl) (Reps.none _ _))))); intro v185 w11 ho12 hb hg_ hnew_; clear hg_ hnew_; (first | rw [← Ny184.out] at ho12 | (simp only [Int.reduceToNat] at ho12; rw [← Ny184.out] at ho12)); have n0_ := Aside0.mk (Kd.R_lower ho12 (below_size (by repeat (first | (with_reducible first | exact HB.out | apply below_alloc | apply pw_below_drewN | apply below_drew1) | exact HB.out)))); have n1_ := Aside0.mk (below_step (by repeat (first | (with_reducible first | exact HB.out | apply below_alloc | apply pw_below_drewN | apply below_drew1) | exact HB.out)) hb); clear HB; have HO186 := n0_; have HB := n1_; clear n0_ n1_; clear hb ho12; obtain ⟨Ao13, co13, eo13⟩ := Kd.R_slice HO186.out; subst eo13) | ((with_reducible refine gate_callee (f := 36) rfl ?_); refine goesL_ (some 7) rfl rfl Try.func36 (by kernel_rfl) rfl #[.slice Ao13 y184.length co13, .int .i64 1, .int .i64 2] rfl (by (try simp only [List.map_toArray, List.map_cons, List.map_nil]); first | done | rfl | (simp only [List.length_drop, List.length_take]; rfl)) ?_; (with_reducible refine (be_U.calls _ _ y184 1 2 t187 t188 _ ?side1 ?side2 A1.out).mono ?_); (case side1 => repeat (first | exact (Kd.R_reads' HO186.out).2.2 | (with_reducible refine Kd.C_alloc ?_ _) | (with_reducible refine Kd.C_drewN ?_ _) | (with_reducible refine Kd.C_drew ?_))); (case side2 => exact (Kd.R_reads' HO186.out).2.1); rintro e w' ⟨rfl, ⟨nd, rfl⟩⟩; refine ⟨_, rfl, ?_⟩) | ((with_reducible refine gate_dst (N := 11) rfl ?_); (try (refine gate_guard (by rfl) ?_; dsimp only)); refine Kd.R_lit (Kd.int .u8) _ 5 ?hg (N := 11) ?hd (xs := ([255, 254] : List Int)) (inner := [.int .u8 255, .int .u8 254]) (ok := fun _ => True) (okp := fun _ => True) ?hr ?hp (fun _ hk => hk) trivial (Below.refl _ _) (Nat.le_refl _) (by simp) ?_; (case hd => rfl); (case hg => rfl); (case hr => first | (go_simp; done) | (go_simp; rfl)); (case hp => exact (Reps.one (show Kd.M (Kd.int .u8) _ _ _ 255 [.int .u8 255] from rfl) (Reps.one (show Kd.M (Kd.int .u8) _ _ _ 254 [.int .u8 254] from rfl) (Reps.none _ _)))); intro v190 w14 ho15 hb hg_ hnew_; clear hg_ hnew_; (first | rw [← Ny189.out] at ho15 | (simp only [Int.reduceToNat] at ho15; rw [← Ny189.out] at ho15)); have n0_ := Aside0.mk (Kd.R_elder' (by (with_reducible repeat (first | apply Kd.R_alloc | apply Kd.R_drewN | apply Kd.R_drew)); exact HO186.out) (Kd.R_base ho15) hb); have n1_ := Aside0.mk (Kd.R_lower (Kd.R_new' ho15 (Kd.R_lt (by (with_reducible repeat (first | apply Kd.R_alloc | apply Kd.R_drewN | apply Kd.R_drew)); exact HO186.out))) (below_size (by repeat (first | (with_reducible first | exact HB.out | apply below_alloc | apply pw_below_drewN | apply below_drew1) | exact HB.out)))); have n2_ := Aside0.mk (below_step (by repeat (first | (with_reducible first | exact HB.out | apply below_alloc | apply pw_below_drewN | apply below_drew1) | exact HB.out)) hb); clear HO186; clear HB; have HO186 := n0_; have HO191 := n1_; have HB := n2_; clear n0_ n1_ n2_; clear hb ho15; obtain ⟨Ao16, co16, eo16⟩ := Kd.R_slice HO191.out; subst eo16) | ((with_reducible refine gate_callee (f := 38) rfl ?_); refine goesL_ (some 12) rfl rfl Try.func38 (by kernel_rfl) rfl #[.slice Ao16 y189.length co16, .int .i64 0, .int .i64 2] rfl (by (try simp only [List.map_toArray, List.map_cons, List.map_nil]); first | done | rfl | (simp only [List.length_drop, List.length_take]; rfl)) ?_; (with_reducible refine (be_S.calls _ _ y189 0 2 t192 t193 _ ?side1 ?side2 A2.out).mono ?_); (case side1 => repeat (first | exact (Kd.R_reads' HO191.out).2.2 | (with_reducible refine Kd.C_alloc ?_ _) | (with_reducible refine Kd.C_drewN ?_ _) | (with_reducible refine Kd.C_drew ?_))); (case side2 => exact (Kd.R_reads' HO191.out).2.1); rintro e w' ⟨rfl, ⟨nd, rfl⟩⟩; refine ⟨_, rfl, ?_⟩) | (go_at_call 40; (with_reducible refine (be_Put.calls (-2) 3 t194 _ A7.out).mono ?_); rintro e w17 ⟨v195, rfl, ho0, hb⟩; have n0_ := Aside0.mk (Kd.R_elder' (by (with_reducible repeat (first | apply Kd.R_alloc | apply Kd.R_drewN | apply Kd.R_drew)); exact HO186.out) (Kd.R_base ho0) hb); have n1_ := Aside0.mk (Kd.R_elder' (by (with_reducible repeat (first | apply Kd.R_alloc | apply Kd.R_drewN | apply Kd.R_drew)); exact HO191.out) (Kd.R_base ho0) hb); have n2_ := Aside0.mk (Kd.R_lower (Kd.R_new' (Kd.R_new' ho0 (Kd.R_lt (by (with_reducible repeat (first | apply Kd.R_alloc | apply Kd.R_drewN | apply Kd.R_drew)); exact HO186.out))) (Kd.R_lt (by (with_reducible repeat (first | apply Kd.R_alloc | apply Kd.R_drewN | apply Kd.R_drew)); exact HO191.out))) (below_size (by repeat (first | (with_reducible first | exact HB.out | apply below_alloc | apply pw_below_drewN | apply below_drew1) | exact HB.out)))); have n3_ := Aside0.mk (below_step (by repeat (first | (with_reducible first | exact HB.out | apply below_alloc | apply pw_below_drewN | apply below_drew1) | exact HB.out)) hb); clear HO186; clear HO191; clear HB; have HO186 := n0_; have HO191 := n1_; have HO196 := n2_; have HB := n3_; clear n0_ n1_ n2_ n3_; (try clear hb); (try clear hb2); (try clear hk); (try clear hi); (try clear ho0); have hcv18 := own_string (P := Try.prog) Try.underlying23 Try.underlying5 Try.underlying9 (Kd.own_of_R HO196.out)) | ((with_reducible refine gate_dst (N := 35) rfl ?_); (try (refine gate_guard (by rfl) ?_; dsimp only)); refine Kd.R_make (Kd.int .u8) _ 5 rfl (N := 35) rfl 23 _ _ rfl 5 rfl rfl Try.underlying23 (.int .u8 0) 1 info5 rfl (by decide) (by omega) 0 (ok := fun _ => True) (okp := fun _ => True) rfl (fun _ hk => hk) trivial (by omega) (by omega) (Below.refl _ _) (Nat.le_refl _) ?_; intro v198 w19 ho20 hb hg_ hnew_; clear hg_ hnew_; (first | rw [← Ny197.out] at ho20 | (simp only [Int.reduceToNat] at ho20; rw [← Ny197.out] at ho20)); have n0_ := Aside0.mk (Kd.R_elder' (by (with_reducible repeat (first | apply Kd.R_alloc | apply Kd.R_drewN | apply Kd.R_drew)); exact HO186.out) (Kd.R_base ho20) hb); have n1_ := Aside0.mk (Kd.R_elder' (by (with_reducible repeat (first | apply Kd.R_alloc | apply Kd.R_drewN | apply Kd.R_drew)); exact HO191.out) (Kd.R_base ho20) hb); have n2_ := Aside0.mk (Kd.R_elder' (by (with_reducible repeat (first | apply Kd.R_alloc | apply Kd.R_drewN | apply Kd.R_drew)); exact HO196.out) (Kd.R_base ho20) hb); have n3_ := Aside0.mk (Kd.R_lower (Kd.R_new' (Kd.R_new' (Kd.R_new' ho20 (Kd.R_lt (by (with_reducible repeat (first | apply Kd.R_alloc | apply Kd.R_drewN | apply Kd.R_drew)); exact HO186.out))) (Kd.R_lt (by (with_reducible repeat (first | apply Kd.R_alloc | apply Kd.R_drewN | apply Kd.R_drew)); exact HO191.out))) (Kd.R_lt (by (with_reducible repeat (first | apply Kd.R_alloc | apply Kd.R_drewN | apply Kd.R_drew)); exact HO196.out))) (below_size (by repeat (first | (with_reducible first | exact HB.out | apply below_alloc | apply pw_below_drewN | apply below_drew1) | exact HB.out)))); have n4_ := Aside0.mk (below_step (by repeat (first | (with_reducible first | exact HB.out | apply below_alloc | apply pw_below_drewN | apply below_drew1) | exact HB.out)) hb); clear HO186; clear HO191; clear HO196; clear HB; have HO186 := n0_; have HO191 := n1_; have HO196 := n2_; have HO199 := n3_; have HB := n4_; clear n0_ n1_ n2_ n3_ n4_; clear hb ho20; obtain ⟨Ao21, co21, eo21⟩ := Kd.R_slice HO199.out; subst eo21) | (go_at_call 45; (with_reducible refine (be_Pad.calls _ _ y197 4 t200 _ ?side1 ?side2 A10.out).mono ?_); (case side1 => repeat (first | exact (Kd.R_reads' HO199.out).2.2 | (with_reducible refine Kd.C_alloc ?_ _) | (with_reducible refine Kd.C_drewN ?_ _) | (with_reducible refine Kd.C_drew ?_))); (case side2 => exact (Kd.R_reads' HO199.out).2.1); rintro e w22 ⟨v201, rfl, ho0, hb⟩; have n0_ := Aside0.mk (Kd.R_elder' (by (with_reducible repeat (first | apply Kd.R_alloc | apply Kd.R_drewN | apply Kd.R_drew)); exact HO186.out) (Kd.R_base ho0) hb); have n1_ := Aside0.mk (Kd.R_elder' (by (with_reducible repeat (first | apply Kd.R_alloc | apply Kd.R_drewN | apply Kd.R_drew)); exact HO191.out) (Kd.R_base ho0) hb); have n2_ := Aside0.mk (Kd.R_elder' (by (with_reducible repeat (first | apply Kd.R_alloc | apply Kd.R_drewN | apply Kd.R_drew)); exact HO196.out) (Kd.R_base ho0) hb); have n3_ := Aside0.mk (Kd.R_elder' (by (with_reducible repeat (first | apply Kd.R_alloc | apply Kd.R_drewN | apply Kd.R_drew)); exact HO199.out) (Kd.R_base ho0) hb); have n4_ := Aside0.mk (Kd.R_lower (Kd.R_new' (Kd.R_new' (Kd.R_new' (Kd.R_new' ho0 (Kd.R_lt (by (with_reducible repeat (first | apply Kd.R_alloc | apply Kd.R_drewN | apply Kd.R_drew)); exact HO186.out))) (Kd.R_lt (by (with_reducible repeat (first | apply Kd.R_alloc | apply Kd.R_drewN | apply Kd.R_drew)); exact HO191.out))) (Kd.R_lt (by (with_reducible repeat (first | apply Kd.R_alloc | apply Kd.R_drewN | apply Kd.R_drew)); exact HO196.out))) (Kd.R_lt (by (with_reducible repeat (first | apply Kd.R_alloc | apply Kd.R_drewN | apply Kd.R_drew)); exact HO199.out))) (below_size (by repeat (first | (with_reducible first | exact HB.out | apply below_alloc | apply pw_below_drewN | apply below_drew1) | exact HB.out)))); have n5_ := Aside0.mk (below_step (by repeat (first | (with_reducible first | exact HB.out | apply below_alloc | apply pw_below_drewN | apply below_drew1) | exact HB.out)) hb); clear HO186; clear HO191; clear HO196; clear HO199; clear HB; have HO186 := n0_; have HO191 := n1_; have HO196 := n2_; have HO199 := n3_; have HO202 := n4_; have HB := n5_; clear n0_ n1_ n2_ n3_ n4_ n5_; (try clear hb); (try clear hb2); (try clear hk); (try clear hi); (try clear ho0); obtain ⟨Ao23, co23, eo23⟩ := Kd.R_slice HO202.out; subst eo23))
              go_ret
              exact ⟨by first | rfl | (simp [errW_none, errW_some] <;> rfl) | (simp [*, errW_none, errW_some] <;> rfl), by repeat (first | (with_reducible first | exact HB.out | apply below_alloc | apply pw_below_drewN | apply below_drew1) | exact HB.out)⟩
            · rw [if_neg c9] at H
              exact absurd H (by simp)
          · rw [if_neg c8] at H
            have c8b0 : ((strOfNums t194).toList == ([255, 255, 254] : List UInt8)) = false := beq_eq_false_iff_ne.mpr c8
            have c8b1 : ((strOfNums t194).toList != ([255, 255, 254] : List UInt8)) = true := bne_iff_ne.mpr c8
            obtain rfl := Option.some.inj H
            go_enter Try.func35, Try.ntmps35
            go_wp2_with (first | ((with_reducible refine gate_dst (N := 6) rfl ?_); (try (refine gate_guard (by rfl) ?_; dsimp only)); refine Kd.R_lit (Kd.int .u8) _ 5 ?hg (N := 6) ?hd (xs := ([1, 2, 3] : List Int)) (inner := [.int .u8 1, .int .u8 2, .int .u8 3]) (ok := fun _ => True) (okp := fun _ => True) ?hr ?hp (fun _ hk => hk) trivial (Below.refl _ _) (Nat.le_refl _) (by simp) ?_; (case hd => rfl); (case hg => rfl); (case hr => first | (go_simp; done) | (go_simp; rfl)); (case hp => exact (Reps.one (show Kd.M (Kd.int .u8) _ _ _ 1 [.int .u8 1] from rfl) (Reps.one (show Kd.M (Kd.int .u8) _ _ _ 2 [.int .u8 2] from rfl) (Reps.one (show Kd.M (Kd.int .u8) _ _ _ 3 [.int .u8 3] from rfl) (Reps.none _ _))))); intro v185 w24 ho25 hb hg_ hnew_; clear hg_ hnew_; (first | rw [← Ny184.out] at ho25 | (simp only [Int.reduceToNat] at ho25; rw [← Ny184.out] at ho25)); have n0_ := Aside0.mk (Kd.R_lower ho25 (below_size (by repeat (first | (with_reducible first | exact HB.out | apply below_alloc | apply pw_below_drewN | apply below_drew1) | exact HB.out)))); have n1_ := Aside0.mk (below_step (by repeat (first | (with_reducible first | exact HB.out | apply below_alloc | apply pw_below_drewN | apply below_drew1) | exact HB.out)) hb); clear HB; have HO186 := n0_; have HB := n1_; clear n0_ n1_; clear hb ho25; obtain ⟨Ao26, co26, eo26⟩ := Kd.R_slice HO186.out; subst eo26) | ((with_reducible refine gate_callee (f := 36) rfl ?_); refine goesL_ (some 7) rfl rfl Try.func36 (by kernel_rfl) rfl #[.slice Ao26 y184.length co26, .int .i64 1, .int .i64 2] rfl (by (try simp only [List.map_toArray, List.map_cons, List.map_nil]); first | done | rfl | (simp only [List.length_drop, List.length_take]; rfl)) ?_; (with_reducible refine (be_U.calls _ _ y184 1 2 t187 t188 _ ?side1 ?side2 A1.out).mono ?_); (case side1 => repeat (first | exact (Kd.R_reads' HO186.out).2.2 | (with_reducible refine Kd.C_alloc ?_ _) | (with_reducible refine Kd.C_drewN ?_ _) | (with_reducible refine Kd.C_drew ?_))); (case side2 => exact (Kd.R_reads' HO186.out).2.1); rintro e w' ⟨rfl, ⟨nd, rfl⟩⟩; refine ⟨_, rfl, ?_⟩) | ((with_reducible refine gate_dst (N := 11) rfl ?_); (try (refine gate_guard (by rfl) ?_; dsimp only)); refine Kd.R_lit (Kd.int .u8) _ 5 ?hg (N := 11) ?hd (xs := ([255, 254] : List Int)) (inner := [.int .u8 255, .int .u8 254]) (ok := fun _ => True) (okp := fun _ => True) ?hr ?hp (fun _ hk => hk) trivial (Below.refl _ _) (Nat.le_refl _) (by simp) ?_; (case hd => rfl); (case hg => rfl); (case hr => first | (go_simp; done) | (go_simp; rfl)); (case hp => exact (Reps.one (show Kd.M (Kd.int .u8) _ _ _ 255 [.int .u8 255] from rfl) (Reps.one (show Kd.M (Kd.int .u8) _ _ _ 254 [.int .u8 254] from rfl) (Reps.none _ _)))); intro v190 w27 ho28 hb hg_ hnew_; clear hg_ hnew_; (first | rw [← Ny189.out] at ho28 | (simp only [Int.reduceToNat] at ho28; rw [← Ny189.out] at ho28)); have n0_ := Aside0.mk (Kd.R_elder' (by (with_reducible repeat (first | apply Kd.R_alloc | apply Kd.R_drewN | apply Kd.R_drew)); exact HO186.out) (Kd.R_base ho28) hb); have n1_ := Aside0.mk (Kd.R_lower (Kd.R_new' ho28 (Kd.R_lt (by (with_reducible repeat (first | apply Kd.R_alloc | apply Kd.R_drewN | apply Kd.R_drew)); exact HO186.out))) (below_size (by repeat (first | (with_reducible first | exact HB.out | apply below_alloc | apply pw_below_drewN | apply below_drew1) | exact HB.out)))); have n2_ := Aside0.mk (below_step (by repeat (first | (with_reducible first | exact HB.out | apply below_alloc | apply pw_below_drewN | apply below_drew1) | exact HB.out)) hb); clear HO186; clear HB; have HO186 := n0_; have HO191 := n1_; have HB := n2_; clear n0_ n1_ n2_; clear hb ho28; obtain ⟨Ao29, co29, eo29⟩ := Kd.R_slice HO191.out; subst eo29) | ((with_reducible refine gate_callee (f := 38) rfl ?_); refine goesL_ (some 12) rfl rfl Try.func38 (by kernel_rfl) rfl #[.slice Ao29 y189.length co29, .int .i64 0, .int .i64 2] rfl (by (try simp only [List.map_toArray, List.map_cons, List.map_nil]); first | done | rfl | (simp only [List.length_drop, List.length_take]; rfl)) ?_; (with_reducible refine (be_S.calls _ _ y189 0 2 t192 t193 _ ?side1 ?side2 A2.out).mono ?_); (case side1 => repeat (first | exact (Kd.R_reads' HO191.out).2.2 | (with_reducible refine Kd.C_alloc ?_ _) | (with_reducible refine Kd.C_drewN ?_ _) | (with_reducible refine Kd.C_drew ?_))); (case side2 => exact (Kd.R_reads' HO191.out).2.1); rintro e w' ⟨rfl, ⟨nd, rfl⟩⟩; refine ⟨_, rfl, ?_⟩) | (go_at_call 40; (with_reducible refine (be_Put.calls (-2) 3 t194 _ A7.out).mono ?_); rintro e w30 ⟨v195, rfl, ho0, hb⟩; have n0_ := Aside0.mk (Kd.R_elder' (by (with_reducible repeat (first | apply Kd.R_alloc | apply Kd.R_drewN | apply Kd.R_drew)); exact HO186.out) (Kd.R_base ho0) hb); have n1_ := Aside0.mk (Kd.R_elder' (by (with_reducible repeat (first | apply Kd.R_alloc | apply Kd.R_drewN | apply Kd.R_drew)); exact HO191.out) (Kd.R_base ho0) hb); have n2_ := Aside0.mk (Kd.R_lower (Kd.R_new' (Kd.R_new' ho0 (Kd.R_lt (by (with_reducible repeat (first | apply Kd.R_alloc | apply Kd.R_drewN | apply Kd.R_drew)); exact HO186.out))) (Kd.R_lt (by (with_reducible repeat (first | apply Kd.R_alloc | apply Kd.R_drewN | apply Kd.R_drew)); exact HO191.out))) (below_size (by repeat (first | (with_reducible first | exact HB.out | apply below_alloc | apply pw_below_drewN | apply below_drew1) | exact HB.out)))); have n3_ := Aside0.mk (below_step (by repeat (first | (with_reducible first | exact HB.out | apply below_alloc | apply pw_below_drewN | apply below_drew1) | exact HB.out)) hb); clear HO186; clear HO191; clear HB; have HO186 := n0_; have HO191 := n1_; have HO196 := n2_; have HB := n3_; clear n0_ n1_ n2_ n3_; (try clear hb); (try clear hb2); (try clear hk); (try clear hi); (try clear ho0); have hcv31 := own_string (P := Try.prog) Try.underlying23 Try.underlying5 Try.underlying9 (Kd.own_of_R HO196.out)))
            go_ret
            exact ⟨by first | rfl | (simp [errW_none, errW_some] <;> rfl) | (simp [*, errW_none, errW_some] <;> rfl), by repeat (first | (with_reducible first | exact HB.out | apply below_alloc | apply pw_below_drewN | apply below_drew1) | exact HB.out)⟩
        · rw [if_neg c6] at H
          have c6b0 : (t193 == 0) = false := beq_eq_false_iff_ne.mpr c6
          have c6b1 : (t193 != 0) = true := bne_iff_ne.mpr c6
          obtain rfl := Option.some.inj H
          go_enter Try.func35, Try.ntmps35
          go_wp2_with (first | ((with_reducible refine gate_dst (N := 6) rfl ?_); (try (refine gate_guard (by rfl) ?_; dsimp only)); refine Kd.R_lit (Kd.int .u8) _ 5 ?hg (N := 6) ?hd (xs := ([1, 2, 3] : List Int)) (inner := [.int .u8 1, .int .u8 2, .int .u8 3]) (ok := fun _ => True) (okp := fun _ => True) ?hr ?hp (fun _ hk => hk) trivial (Below.refl _ _) (Nat.le_refl _) (by simp) ?_; (case hd => rfl); (case hg => rfl); (case hr => first | (go_simp; done) | (go_simp; rfl)); (case hp => exact (Reps.one (show Kd.M (Kd.int .u8) _ _ _ 1 [.int .u8 1] from rfl) (Reps.one (show Kd.M (Kd.int .u8) _ _ _ 2 [.int .u8 2] from rfl) (Reps.one (show Kd.M (Kd.int .u8) _ _ _ 3 [.int .u8 3] from rfl) (Reps.none _ _))))); intro v185 w32 ho33 hb hg_ hnew_; clear hg_ hnew_; (first | rw [← Ny184.out] at ho33 | (simp only [Int.reduceToNat] at ho33; rw [← Ny184.out] at ho33)); have n0_ := Aside0.mk (Kd.R_lower ho33 (below_size (by repeat (first | (with_reducible first | exact HB.out | apply below_alloc | apply pw_below_drewN | apply below_drew1) | exact HB.out)))); have n1_ := Aside0.mk (below_step (by repeat (first | (with_reducible first | exact HB.out | apply below_alloc | apply pw_below_drewN | apply below_drew1) | exact HB.out)) hb); clear HB; have HO186 := n0_; have HB := n1_; clear n0_ n1_; clear hb ho33; obtain ⟨Ao34, co34, eo34⟩ := Kd.R_slice HO186.out; subst eo34) | ((with_reducible refine gate_callee (f := 36) rfl ?_); refine goesL_ (some 7) rfl rfl Try.func36 (by kernel_rfl) rfl #[.slice Ao34 y184.length co34, .int .i64 1, .int .i64 2] rfl (by (try simp only [List.map_toArray, List.map_cons, List.map_nil]); first | done | rfl | (simp only [List.length_drop, List.length_take]; rfl)) ?_; (with_reducible refine (be_U.calls _ _ y184 1 2 t187 t188 _ ?side1 ?side2 A1.out).mono ?_); (case side1 => repeat (first | exact (Kd.R_reads' HO186.out).2.2 | (with_reducible refine Kd.C_alloc ?_ _) | (with_reducible refine Kd.C_drewN ?_ _) | (with_reducible refine Kd.C_drew ?_))); (case side2 => exact (Kd.R_reads' HO186.out).2.1); rintro e w' ⟨rfl, ⟨nd, rfl⟩⟩; refine ⟨_, rfl, ?_⟩) | ((with_reducible refine gate_dst (N := 11) rfl ?_); (try (refine gate_guard (by rfl) ?_; dsimp only)); refine Kd.R_lit (Kd.int .u8) _ 5 ?hg (N := 11) ?hd (xs := ([255, 254] : List Int)) (inner := [.int .u8 255, .int .u8 254]) (ok := fun _ => True) (okp := fun _ => True) ?hr ?hp (fun _ hk => hk) trivial (Below.refl _ _) (Nat.le_refl _) (by simp) ?_; (case hd => rfl); (case hg => rfl); (case hr => first | (go_simp; done) | (go_simp; rfl)); (case hp => exact (Reps.one (show Kd.M (Kd.int .u8) _ _ _ 255 [.int .u8 255] from rfl) (Reps.one (show Kd.M (Kd.int .u8) _ _ _ 254 [.int .u8 254] from rfl) (Reps.none _ _)))); intro v190 w35 ho36 hb hg_ hnew_; clear hg_ hnew_; (first | rw [← Ny189.out] at ho36 | (simp only [Int.reduceToNat] at ho36; rw [← Ny189.out] at ho36)); have n0_ := Aside0.mk (Kd.R_elder' (by (with_reducible repeat (first | apply Kd.R_alloc | apply Kd.R_drewN | apply Kd.R_drew)); exact HO186.out) (Kd.R_base ho36) hb); have n1_ := Aside0.mk (Kd.R_lower (Kd.R_new' ho36 (Kd.R_lt (by (with_reducible repeat (first | apply Kd.R_alloc | apply Kd.R_drewN | apply Kd.R_drew)); exact HO186.out))) (below_size (by repeat (first | (with_reducible first | exact HB.out | apply below_alloc | apply pw_below_drewN | apply below_drew1) | exact HB.out)))); have n2_ := Aside0.mk (below_step (by repeat (first | (with_reducible first | exact HB.out | apply below_alloc | apply pw_below_drewN | apply below_drew1) | exact HB.out)) hb); clear HO186; clear HB; have HO186 := n0_; have HO191 := n1_; have HB := n2_; clear n0_ n1_ n2_; clear hb ho36; obtain ⟨Ao37, co37, eo37⟩ := Kd.R_slice HO191.out; subst eo37) | ((with_reducible refine gate_callee (f := 38) rfl ?_); refine goesL_ (some 12) rfl rfl Try.func38 (by kernel_rfl) rfl #[.slice Ao37 y189.length co37, .int .i64 0, .int .i64 2] rfl (by (try simp only [List.map_toArray, List.map_cons, List.map_nil]); first | done | rfl | (simp only [List.length_drop, List.length_take]; rfl)) ?_; (with_reducible refine (be_S.calls _ _ y189 0 2 t192 t193 _ ?side1 ?side2 A2.out).mono ?_); (case side1 => repeat (first | exact (Kd.R_reads' HO191.out).2.2 | (with_reducible refine Kd.C_alloc ?_ _) | (with_reducible refine Kd.C_drewN ?_ _) | (with_reducible refine Kd.C_drew ?_))); (case side2 => exact (Kd.R_reads' HO191.out).2.1); rintro e w' ⟨rfl, ⟨nd, rfl⟩⟩; refine ⟨_, rfl, ?_⟩))
          go_ret
          exact ⟨by first | rfl | (simp [errW_none, errW_some] <;> rfl) | (simp [*, errW_none, errW_some] <;> rfl), by repeat (first | (with_reducible first | exact HB.out | apply below_alloc | apply pw_below_drewN | apply below_drew1) | exact HB.out)⟩
      · rw [if_neg c5] at H
        have c5b0 : (t192 == (-2)) = false := beq_eq_false_iff_ne.mpr c5
        have c5b1 : (t192 != (-2)) = true := bne_iff_ne.mpr c5
        obtain rfl := Option.some.inj H
        go_enter Try.func35, Try.ntmps35
        go_wp2_with (first | ((with_reducible refine gate_dst (N := 6) rfl ?_); (try (refine gate_guard (by rfl) ?_; dsimp only)); refine Kd.R_lit (Kd.int .u8) _ 5 ?hg (N := 6) ?hd (xs := ([1, 2, 3] : List Int)) (inner := [.int .u8 1, .int .u8 2, .int .u8 3]) (ok := fun _ => True) (okp := fun _ => True) ?hr ?hp (fun _ hk => hk) trivial (Below.refl _ _) (Nat.le_refl _) (by simp) ?_; (case hd => rfl); (case hg => rfl); (case hr => first | (go_simp; done) | (go_simp; rfl)); (case hp => exact (Reps.one (show Kd.M (Kd.int .u8) _ _ _ 1 [.int .u8 1] from rfl) (Reps.one (show Kd.M (Kd.int .u8) _ _ _ 2 [.int .u8 2] from rfl) (Reps.one (show Kd.M (Kd.int .u8) _ _ _ 3 [.int .u8 3] from rfl) (Reps.none _ _))))); intro v185 w38 ho39 hb hg_ hnew_; clear hg_ hnew_; (first | rw [← Ny184.out] at ho39 | (simp only [Int.reduceToNat] at ho39; rw [← Ny184.out] at ho39)); have n0_ := Aside0.mk (Kd.R_lower ho39 (below_size (by repeat (first | (with_reducible first | exact HB.out | apply below_alloc | apply pw_below_drewN | apply below_drew1) | exact HB.out)))); have n1_ := Aside0.mk (below_step (by repeat (first | (with_reducible first | exact HB.out | apply below_alloc | apply pw_below_drewN | apply below_drew1) | exact HB.out)) hb); clear HB; have HO186 := n0_; have HB := n1_; clear n0_ n1_; clear hb ho39; obtain ⟨Ao40, co40, eo40⟩ := Kd.R_slice HO186.out; subst eo40) | ((with_reducible refine gate_callee (f := 36) rfl ?_); refine goesL_ (some 7) rfl rfl Try.func36 (by kernel_rfl) rfl #[.slice Ao40 y184.length co40, .int .i64 1, .int .i64 2] rfl (by (try simp only [List.map_toArray, List.map_cons, List.map_nil]); first | done | rfl | (simp only [List.length_drop, List.length_take]; rfl)) ?_; (with_reducible refine (be_U.calls _ _ y184 1 2 t187 t188 _ ?side1 ?side2 A1.out).mono ?_); (case side1 => repeat (first | exact (Kd.R_reads' HO186.out).2.2 | (with_reducible refine Kd.C_alloc ?_ _) | (with_reducible refine Kd.C_drewN ?_ _) | (with_reducible refine Kd.C_drew ?_))); (case side2 => exact (Kd.R_reads' HO186.out).2.1); rintro e w' ⟨rfl, ⟨nd, rfl⟩⟩; refine ⟨_, rfl, ?_⟩) | ((with_reducible refine gate_dst (N := 11) rfl ?_); (try (refine gate_guard (by rfl) ?_; dsimp only)); refine Kd.R_lit (Kd.int .u8) _ 5 ?hg (N := 11) ?hd (xs := ([255, 254] : List Int)) (inner := [.int .u8 255, .int .u8 254]) (ok := fun _ => True) (okp := fun _ => True) ?hr ?hp (fun _ hk => hk) trivial (Below.refl _ _) (Nat.le_refl _) (by simp) ?_; (case hd => rfl); (case hg => rfl); (case hr => first | (go_simp; done) | (go_simp; rfl)); (case hp => exact (Reps.one (show Kd.M (Kd.int .u8) _ _ _ 255 [.int .u8 255] from rfl) (Reps.one (show Kd.M (Kd.int .u8) _ _ _ 254 [.int .u8 254] from rfl) (Reps.none _ _)))); intro v190 w41 ho42 hb hg_ hnew_; clear hg_ hnew_; (first | rw [← Ny189.out] at ho42 | (simp only [Int.reduceToNat] at ho42; rw [← Ny189.out] at ho42)); have n0_ := Aside0.mk (Kd.R_elder' (by (with_reducible repeat (first | apply Kd.R_alloc | apply Kd.R_drewN | apply Kd.R_drew)); exact HO186.out) (Kd.R_base ho42) hb); have n1_ := Aside0.mk (Kd.R_lower (Kd.R_new' ho42 (Kd.R_lt (by (with_reducible repeat (first | apply Kd.R_alloc | apply Kd.R_drewN | apply Kd.R_drew)); exact HO186.out))) (below_size (by repeat (first | (with_reducible first | exact HB.out | apply below_alloc | apply pw_below_drewN | apply below_drew1) | exact HB.out)))); have n2_ := Aside0.mk (below_step (by repeat (first | (with_reducible first | exact HB.out | apply below_alloc | apply pw_below_drewN | apply below_drew1) | exact HB.out)) hb); clear HO186; clear HB; have HO186 := n0_; have HO191 := n1_; have HB := n2_; clear n0_ n1_ n2_; clear hb ho42; obtain ⟨Ao43, co43, eo43⟩ := Kd.R_slice HO191.out; subst eo43) | ((with_reducible refine gate_callee (f := 38) rfl ?_); refine goesL_ (some 12) rfl rfl Try.func38 (by kernel_rfl) rfl #[.slice Ao43 y189.length co43, .int .i64 0, .int .i64 2] rfl (by (try simp only [List.map_toArray, List.map_cons, List.map_nil]); first | done | rfl | (simp only [List.length_drop, List.length_take]; rfl)) ?_; (with_reducible refine (be_S.calls _ _ y189 0 2 t192 t193 _ ?side1 ?side2 A2.out).mono ?_); (case side1 => repeat (first | exact (Kd.R_reads' HO191.out).2.2 | (with_reducible refine Kd.C_alloc ?_ _) | (with_reducible refine Kd.C_drewN ?_ _) | (with_reducible refine Kd.C_drew ?_))); (case side2 => exact (Kd.R_reads' HO191.out).2.1); rintro e w' ⟨rfl, ⟨nd, rfl⟩⟩; refine ⟨_, rfl, ?_⟩))
        go_ret
        exact ⟨by first | rfl | (simp [errW_none, errW_some] <;> rfl) | (simp [*, errW_none, errW_some] <;> rfl), by repeat (first | (with_reducible first | exact HB.out | apply below_alloc | apply pw_below_drewN | apply below_drew1) | exact HB.out)⟩
    · rw [if_neg c4] at H
      have c4b0 : (t188 == 0) = false := beq_eq_false_iff_ne.mpr c4
      have c4b1 : (t188 != 0) = true := bne_iff_ne.mpr c4
      obtain rfl := Option.some.inj H
      go_enter Try.func35, Try.ntmps35
      go_wp2_with (first | ((with_reducible refine gate_dst (N := 6) rfl ?_); (try (refine gate_guard (by rfl) ?_; dsimp only)); refine Kd.R_lit (Kd.int .u8) _ 5 ?hg (N := 6) ?hd (xs := ([1, 2, 3] : List Int)) (inner := [.int .u8 1, .int .u8 2, .int .u8 3]) (ok := fun _ => True) (okp := fun _ => True) ?hr ?hp (fun _ hk => hk) trivial (Below.refl _ _) (Nat.le_refl _) (by simp) ?_; (case hd => rfl); (case hg => rfl); (case hr => first | (go_simp; done) | (go_simp; rfl)); (case hp => exact (Reps.one (show Kd.M (Kd.int .u8) _ _ _ 1 [.int .u8 1] from rfl) (Reps.one (show Kd.M (Kd.int .u8) _ _ _ 2 [.int .u8 2] from rfl) (Reps.one (show Kd.M (Kd.int .u8) _ _ _ 3 [.int .u8 3] from rfl) (Reps.none _ _))))); intro v185 w44 ho45 hb hg_ hnew_; clear hg_ hnew_; (first | rw [← Ny184.out] at ho45 | (simp only [Int.reduceToNat] at ho45; rw [← Ny184.out] at ho45)); have n0_ := Aside0.mk (Kd.R_lower ho45 (below_size (by repeat (first | (with_reducible first | exact HB.out | apply below_alloc | apply pw_below_drewN | apply below_drew1) | exact HB.out)))); have n1_ := Aside0.mk (below_step (by repeat (first | (with_reducible first | exact HB.out | apply below_alloc | apply pw_below_drewN | apply below_drew1) | exact HB.out)) hb); clear HB; have HO186 := n0_; have HB := n1_; clear n0_ n1_; clear hb ho45; obtain ⟨Ao46, co46, eo46⟩ := Kd.R_slice HO186.out; subst eo46) | ((with_reducible refine gate_callee (f := 36) rfl ?_); refine goesL_ (some 7) rfl rfl Try.func36 (by kernel_rfl) rfl #[.slice Ao46 y184.length co46, .int .i64 1, .int .i64 2] rfl (by (try simp only [List.map_toArray, List.map_cons, List.map_nil]); first | done | rfl | (simp only [List.length_drop, List.length_take]; rfl)) ?_; (with_reducible refine (be_U.calls _ _ y184 1 2 t187 t188 _ ?side1 ?side2 A1.out).mono ?_); (case side1 => repeat (first | exact (Kd.R_reads' HO186.out).2.2 | (with_reducible refine Kd.C_alloc ?_ _) | (with_reducible refine Kd.C_drewN ?_ _) | (with_reducible refine Kd.C_drew ?_))); (case side2 => exact (Kd.R_reads' HO186.out).2.1); rintro e w' ⟨rfl, ⟨nd, rfl⟩⟩; refine ⟨_, rfl, ?_⟩) | ((with_reducible refine gate_dst (N := 11) rfl ?_); (try (refine gate_guard (by rfl) ?_; dsimp only)); refine Kd.R_lit (Kd.int .u8) _ 5 ?hg (N := 11) ?hd (xs := ([255, 254] : List Int)) (inner := [.int .u8 255, .int .u8 254]) (ok := fun _ => True) (okp := fun _ => True) ?hr ?hp (fun _ hk => hk) trivial (Below.refl _ _) (Nat.le_refl _) (by simp) ?_; (case hd => rfl); (case hg => rfl); (case hr => first | (go_simp; done) | (go_simp; rfl)); (case hp => exact (Reps.one (show Kd.M (Kd.int .u8) _ _ _ 255 [.int .u8 255] from rfl) (Reps.one (show Kd.M (Kd.int .u8) _ _ _ 254 [.int .u8 254] from rfl) (Reps.none _ _)))); intro v190 w47 ho48 hb hg_ hnew_; clear hg_ hnew_; (first | rw [← Ny189.out] at ho48 | (simp only [Int.reduceToNat] at ho48; rw [← Ny189.out] at ho48)); have n0_ := Aside0.mk (Kd.R_elder' (by (with_reducible repeat (first | apply Kd.R_alloc | apply Kd.R_drewN | apply Kd.R_drew)); exact HO186.out) (Kd.R_base ho48) hb); have n1_ := Aside0.mk (Kd.R_lower (Kd.R_new' ho48 (Kd.R_lt (by (with_reducible repeat (first | apply Kd.R_alloc | apply Kd.R_drewN | apply Kd.R_drew)); exact HO186.out))) (below_size (by repeat (first | (with_reducible first | exact HB.out | apply below_alloc | apply pw_below_drewN | apply below_drew1) | exact HB.out)))); have n2_ := Aside0.mk (below_step (by repeat (first | (with_reducible first | exact HB.out | apply below_alloc | apply pw_below_drewN | apply below_drew1) | exact HB.out)) hb); clear HO186; clear HB; have HO186 := n0_; have HO191 := n1_; have HB := n2_; clear n0_ n1_ n2_; clear hb ho48; obtain ⟨Ao49, co49, eo49⟩ := Kd.R_slice HO191.out; subst eo49) | ((with_reducible refine gate_callee (f := 38) rfl ?_); refine goesL_ (some 12) rfl rfl Try.func38 (by kernel_rfl) rfl #[.slice Ao49 y189.length co49, .int .i64 0, .int .i64 2] rfl (by (try simp only [List.map_toArray, List.map_cons, List.map_nil]); first | done | rfl | (simp only [List.length_drop, List.length_take]; rfl)) ?_; (with_reducible refine (be_S.calls _ _ y189 0 2 t192 t193 _ ?side1 ?side2 A2.out).mono ?_); (case side1 => repeat (first | exact (Kd.R_reads' HO191.out).2.2 | (with_reducible refine Kd.C_alloc ?_ _) | (with_reducible refine Kd.C_drewN ?_ _) | (with_reducible refine Kd.C_drew ?_))); (case side2 => exact (Kd.R_reads' HO191.out).2.1); rintro e w' ⟨rfl, ⟨nd, rfl⟩⟩; refine ⟨_, rfl, ?_⟩))
      go_ret
      exact ⟨by first | rfl | (simp [errW_none, errW_some] <;> rfl) | (simp [*, errW_none, errW_some] <;> rfl), by repeat (first | (with_reducible first | exact HB.out | apply below_alloc | apply pw_below_drewN | apply below_drew1) | exact HB.out)⟩
  · rw [if_neg c3] at H
    have c3b0 : (t187 == 515) = false := beq_eq_false_iff_ne.mpr c3
    have c3b1 : (t187 != 515) = true := bne_iff_ne.mpr c3
    obtain rfl := Option.some.inj H
    go_enter Try.func35, Try.ntmps35
    go_wp2_with (first | ((with_reducible refine gate_dst (N := 6) rfl ?_); (try (refine gate_guard (by rfl) ?_; dsimp only)); refine Kd.R_lit (Kd.int .u8) _ 5 ?hg (N := 6) ?hd (xs := ([1, 2, 3] : List Int)) (inner := [.int .u8 1, .int .u8 2, .int .u8 3]) (ok := fun _ => True) (okp := fun _ => True) ?hr ?hp (fun _ hk => hk) trivial (Below.refl _ _) (Nat.le_refl _) (by simp) ?_; (case hd => rfl); (case hg => rfl); (case hr => first | (go_simp; done) | (go_simp; rfl)); (case hp => exact (Reps.one (show Kd.M (Kd.int .u8) _ _ _ 1 [.int .u8 1] from rfl) (Reps.one (show Kd.M (Kd.int .u8) _ _ _ 2 [.int .u8 2] from rfl) (Reps.one (show Kd.M (Kd.int .u8) _ _ _ 3 [.int .u8 3] from rfl) (Reps.none _ _))))); intro v185 w50 ho51 hb hg_ hnew_; clear hg_ hnew_; (first | rw [← Ny184.out] at ho51 | (simp only [Int.reduceToNat] at ho51; rw [← Ny184.out] at ho51)); have n0_ := Aside0.mk (Kd.R_lower ho51 (below_size (by repeat (first | (with_reducible first | exact HB.out | apply below_alloc | apply pw_below_drewN | apply below_drew1) | exact HB.out)))); have n1_ := Aside0.mk (below_step (by repeat (first | (with_reducible first | exact HB.out | apply below_alloc | apply pw_below_drewN | apply below_drew1) | exact HB.out)) hb); clear HB; have HO186 := n0_; have HB := n1_; clear n0_ n1_; clear hb ho51; obtain ⟨Ao52, co52, eo52⟩ := Kd.R_slice HO186.out; subst eo52) | ((with_reducible refine gate_callee (f := 36) rfl ?_); refine goesL_ (some 7) rfl rfl Try.func36 (by kernel_rfl) rfl #[.slice Ao52 y184.length co52, .int .i64 1, .int .i64 2] rfl (by (try simp only [List.map_toArray, List.map_cons, List.map_nil]); first | done | rfl | (simp only [List.length_drop, List.length_take]; rfl)) ?_; (with_reducible refine (be_U.calls _ _ y184 1 2 t187 t188 _ ?side1 ?side2 A1.out).mono ?_); (case side1 => repeat (first | exact (Kd.R_reads' HO186.out).2.2 | (with_reducible refine Kd.C_alloc ?_ _) | (with_reducible refine Kd.C_drewN ?_ _) | (with_reducible refine Kd.C_drew ?_))); (case side2 => exact (Kd.R_reads' HO186.out).2.1); rintro e w' ⟨rfl, ⟨nd, rfl⟩⟩; refine ⟨_, rfl, ?_⟩) | ((with_reducible refine gate_dst (N := 11) rfl ?_); (try (refine gate_guard (by rfl) ?_; dsimp only)); refine Kd.R_lit (Kd.int .u8) _ 5 ?hg (N := 11) ?hd (xs := ([255, 254] : List Int)) (inner := [.int .u8 255, .int .u8 254]) (ok := fun _ => True) (okp := fun _ => True) ?hr ?hp (fun _ hk => hk) trivial (Below.refl _ _) (Nat.le_refl _) (by simp) ?_; (case hd => rfl); (case hg => rfl); (case hr => first | (go_simp; done) | (go_simp; rfl)); (case hp => exact (Reps.one (show Kd.M (Kd.int .u8) _ _ _ 255 [.int .u8 255] from rfl) (Reps.one (show Kd.M (Kd.int .u8) _ _ _ 254 [.int .u8 254] from rfl) (Reps.none _ _)))); intro v190 w53 ho54 hb hg_ hnew_; clear hg_ hnew_; (first | rw [← Ny189.out] at ho54 | (simp only [Int.reduceToNat] at ho54; rw [← Ny189.out] at ho54)); have n0_ := Aside0.mk (Kd.R_elder' (by (with_reducible repeat (first | apply Kd.R_alloc | apply Kd.R_drewN | apply Kd.R_drew)); exact HO186.out) (Kd.R_base ho54) hb); have n1_ := Aside0.mk (Kd.R_lower (Kd.R_new' ho54 (Kd.R_lt (by (with_reducible repeat (first | apply Kd.R_alloc | apply Kd.R_drewN | apply Kd.R_drew)); exact HO186.out))) (below_size (by repeat (first | (with_reducible first | exact HB.out | apply below_alloc | apply pw_below_drewN | apply below_drew1) | exact HB.out)))); have n2_ := Aside0.mk (below_step (by repeat (first | (with_reducible first | exact HB.out | apply below_alloc | apply pw_below_drewN | apply below_drew1) | exact HB.out)) hb); clear HO186; clear HB; have HO186 := n0_; have HO191 := n1_; have HB := n2_; clear n0_ n1_ n2_; clear hb ho54; obtain ⟨Ao55, co55, eo55⟩ := Kd.R_slice HO191.out; subst eo55) | ((with_reducible refine gate_callee (f := 38) rfl ?_); refine goesL_ (some 12) rfl rfl Try.func38 (by kernel_rfl) rfl #[.slice Ao55 y189.length co55, .int .i64 0, .int .i64 2] rfl (by (try simp only [List.map_toArray, List.map_cons, List.map_nil]); first | done | rfl | (simp only [List.length_drop, List.length_take]; rfl)) ?_; (with_reducible refine (be_S.calls _ _ y189 0 2 t192 t193 _ ?side1 ?side2 A2.out).mono ?_); (case side1 => repeat (first | exact (Kd.R_reads' HO191.out).2.2 | (with_reducible refine Kd.C_alloc ?_ _) | (with_reducible refine Kd.C_drewN ?_ _) | (with_reducible refine Kd.C_drew ?_))); (case side2 => exact (Kd.R_reads' HO191.out).2.1); rintro e w' ⟨rfl, ⟨nd, rfl⟩⟩; refine ⟨_, rfl, ?_⟩))
    go_ret
    exact ⟨by first | rfl | (simp [errW_none, errW_some] <;> rfl) | (simp [*, errW_none, errW_some] <;> rfl), by repeat (first | (with_reducible first | exact HB.out | apply below_alloc | apply pw_below_drewN | apply below_drew1) | exact HB.out)⟩

end Go.Proofs.Ytcclmaicdmogjaa.P

-- Written by wip/pr.py over the kit's print
namespace Go.Proofs.Ytcclmaicdmogjaa.P
open Go.RowKit Go.Proofs.YtcclmaicdmogjaaW.PrintWords Go.Proofs.YtcclmaicdmogjaaW.PrintLast Go.Proofs.YtcclmaicdmogjaaW.PrintMore
attribute [local go_sem] max2_int min2_int max_two min_two max_three min_three max_four min_four   -- for this text's walks alone
set_option linter.unusedVariables false
set_option linter.unusedSimpArgs false

/-! ### be_Cut: function 41 -/
def be_Cut.f (l0 : List Int) (a1 : Int) (a2 : Int) : Option (List Int × Int) := (be_there.f l0 a1 a2).bind fun t256 => (if t256 = true then ((some (([] : List Int) : List Int)).bind fun y257 => (if 0 ≤ a1 then (if a1 ≤ (wrap64 (a1 + a2)) then (if (wrap64 (a1 + a2)) ≤ (l0.length : Int) then (if y257.length + ((l0.take ((wrap64 (a1 + a2)) : Int).toNat).drop (a1 : Int).toNat).length < 140737488355328 then (some ((y257 ++ ((l0.take ((wrap64 (a1 + a2)) : Int).toNat).drop (a1 : Int).toNat)), 0)) else (none)) else (none)) else (none)) else (none))) else (some (([] : List Int), 3)))
set_option maxHeartbeats 8000000 in
set_option maxRecDepth 100000 in
theorem be_Cut.calls (A0 : Option Addr) (c0 : Nat) (l0 : List Int) (a1 : Int) (a2 : Int) (r1 : List Int) (r2 : Int) (w : World) (hr0 : Kd.C (Kd.int .u8) w A0 l0.length l0) (hc0 : l0.length ≤ c0) (h : be_Cut.f l0 a1 a2 = some (r1, r2)) :
    Calls Try.prog 41 #[.slice A0 l0.length c0, .int .i64 a1, .int .i64 a2] w fun e w' => ∃ v0_ : Value, e = .returned (.tuple #[v0_, .int .i64 r2]) ∧ Kd.R (Kd.int .u8) 5 w' w.heap.size (fun _ => True) v0_ r1 ∧ Below w.heap.size w w' := by
  have HR0 := Aside0.mk hr0
  have HC0 := Aside0.mk hc0
  clear hr0 hc0
  have HB := Aside0.mk (Below.refl w.heap.size w)
  have H : ((be_there.f l0 a1 a2).bind fun t256 => (if t256 = true then ((some (([] : List Int) : List Int)).bind fun y257 => (if 0 ≤ a1 then (if a1 ≤ (wrap64 (a1 + a2)) then (if (wrap64 (a1 + a2)) ≤ (l0.length : Int) then (if y257.length + ((l0.take ((wrap64 (a1 + a2)) : Int).toNat).drop (a1 : Int).toNat).length < 140737488355328 then (some ((y257 ++ ((l0.take ((wrap64 (a1 + a2)) : Int).toNat).drop (a1 : Int).toNat)), 0)) else (none)) else (none)) else (none)) else (none))) else (some (([] : List Int), 3)))) = some (r1, r2) := h
  clear h
  replace H := Option.bind_eq_some_iff.mp H
  obtain ⟨t256, A40, H⟩ := H
  replace H : (if t256 = true then ((some (([] : List Int) : List Int)).bind fun y257 => (if 0 ≤ a1 then (if a1 ≤ (wrap64 (a1 + a2)) then (if (wrap64 (a1 + a2)) ≤ (l0.length : Int) then (if y257.length + ((l0.take ((wrap64 (a1 + a2)) : Int).toNat).drop (a1 : Int).toNat).length < 140737488355328 then (some ((y257 ++ ((l0.take ((wrap64 (a1 + a2)) : Int).toNat).drop (a1 : Int).toNat)), 0)) else (none)) else (none)) else (none)) else (none))) else (some (([] : List Int), 3))) = some (r1, r2) := H
  have A4 := Aside0.mk A40
  clear A40
  by_cases c5 : t256 = true
  · subst c5
    have H1 : ((some (([] : List Int) : List Int)).bind fun y257 => (if 0 ≤ a1 then (if a1 ≤ (wrap64 (a1 + a2)) then (if (wrap64 (a1 + a2)) ≤ (l0.length : Int) then (if y257.length + ((l0.take ((wrap64 (a1 + a2)) : Int).toNat).drop (a1 : Int).toNat).length < 140737488355328 then (some ((y257 ++ ((l0.take ((wrap64 (a1 + a2)) : Int).toNat).drop (a1 : Int).toNat)), 0)) else (none)) else (none)) else (none)) else (none))) = some (r1, r2) := by rw [if_pos rfl] at H; exact H
    clear H
    have H := H1
    clear H1
    obtain ⟨y257, hy257⟩ : ∃ y_ : List Int, y_ = (([] : List Int)) := ⟨_, rfl⟩
    replace H : (if 0 ≤ a1 then (if a1 ≤ (wrap64 (a1 + a2)) then (if (wrap64 (a1 + a2)) ≤ (l0.length : Int) then (if y257.length + ((l0.take ((wrap64 (a1 + a2)) : Int).toNat).drop (a1 : Int).toNat).length < 140737488355328 then (some ((y257 ++ ((l0.take ((wrap64 (a1 + a2)) : Int).toNat).drop (a1 : Int).toNat)), 0)) else (none)) else (none)) else (none)) else (none)) = some (r1, r2) := by first | (rw [hy257]; with_reducible exact H) | (have H2_ := (Option.bind_some _ _).symm.trans H; rw [hy257]; with_reducible exact H2_) | (have H2_ := (Option.bind_some _ _).symm.trans H; with_reducible exact H2_) | with_reducible exact H | (rw [hy257]; exact H) | exact H
    have Ny257 := Aside0.mk hy257
    clear hy257
    by_cases c6 : 0 ≤ a1
    · rw [if_pos c6] at H
      have c6b0 := eq_true c6
      have c6b1 : decide (0 ≤ a1) = true := decide_eq_true c6
      clear c6
      by_cases c7 : a1 ≤ (wrap64 (a1 + a2))
      · rw [if_pos c7] at H
        have c7b0 := eq_true c7
        have c7b1 : decide (a1 ≤ (wrap64 (a1 + a2))) = true := decide_eq_true c7
        by_cases c8 : (wrap64 (a1 + a2)) ≤ (l0.length : Int)
        · rw [if_pos c8] at H
          have c8b0 := eq_true c8
          have c8b1 : decide ((wrap64 (a1 + a2)) ≤ (l0.length : Int)) = true := decide_eq_true c8
          by_cases c9 : y257.length + ((l0.take ((wrap64 (a1 + a2)) : Int).toNat).drop (a1 : Int).toNat).length < 140737488355328
          · rw [if_pos c9] at H
            have LMc9 := Aside0.mk c9
            clear c9
            obtain ⟨y261, hy261⟩ : ∃ y_ : List Int, y_ = (y257 ++ ((l0.take ((wrap64 (a1 + a2)) : Int).toNat).drop (a1 : Int).toNat)) := ⟨_, rfl⟩
            replace H : (some (y261, 0)) = some (r1, r2) := by first | (rw [hy261]; with_reducible exact H) | (have H2_ := (Option.bind_some _ _).symm.trans H; rw [hy261]; with_reducible exact H2_) | (have H2_ := (Option.bind_some _ _).symm.trans H; with_reducible exact H2_) | with_reducible exact H | (rw [hy261]; exact H) | exact H
            have Ny261 := Aside0.mk hy261
            clear hy261
            simp only [Option.some.injEq, Prod.mk.injEq] at H
            obtain ⟨rfl, rfl⟩ := H
            go_enter Try.func41, Try.ntmps41
            go_wp2_with (first | ((with_reducible refine gate_callee (f := 77) rfl ?_); refine goesL_ (some 11) rfl rfl Try.func77 (by kernel_rfl) rfl #[.slice A0 l0.length c0, .int .i64 a1, .int .i64 a2] rfl (by (try simp only [List.map_toArray, List.map_cons, List.map_nil]); first | done | rfl | (simp only [List.length_drop, List.length_take]; rfl)) ?_; (with_reducible refine (be_there.calls _ _ l0 a1 a2 true _ ?side1 ?side2 A4.out).mono ?_); (case side1 => repeat (first | exact HR0.out | (with_reducible refine Kd.C_alloc ?_ _) | (with_reducible refine Kd.C_drewN ?_ _) | (with_reducible refine Kd.C_drew ?_))); (case side2 => exact HC0.out); rintro e w' ⟨rfl, ⟨nd, rfl⟩⟩; refine ⟨_, rfl, ?_⟩) | ((with_reducible refine gate_dst (N := 13) rfl ?_); refine Kd.R_lit (Kd.int .u8) _ 5 ?hg (N := 13) ?hd (xs := ([] : List Int)) (inner := []) (ok := fun _ => True) (okp := fun _ => True) ?hr ?hp (fun _ hk => hk) trivial (Below.refl _ _) (Nat.le_refl _) (by simp) ?_; (case hd => rfl); (case hg => rfl); (case hr => first | (go_simp; done) | (go_simp; rfl)); (case hp => exact (Reps.none _ _)); intro v258 w10 ho11 hb hg_ hnew_; clear hg_ hnew_; (first | rw [← Ny257.out] at ho11 | (simp only [Int.reduceToNat] at ho11; rw [← Ny257.out] at ho11)); have n0_ := Aside0.mk (Kd.R_lower ho11 (below_size (by repeat (first | (with_reducible first | exact HB.out | apply below_alloc | apply pw_below_drewN | apply below_drew1) | exact HB.out)))); have n1_ := Aside0.mk (below_step (by repeat (first | (with_reducible first | exact HB.out | apply below_alloc | apply pw_below_drewN | apply below_drew1) | exact HB.out)) hb); clear HB; have HO259 := n0_; have HB := n1_; clear n0_ n1_; clear hb ho11; obtain ⟨i012, hi012, _, hsz12, _⟩ := info_parts info5; obtain ⟨A12, hcut12, hA12, hC12⟩ := print_mid_of (P := Try.prog) (Value.int .u8) 0 23 5 .i64 .i64 Try.underlying23 hi012 hsz12 A0 c0 l0 a1 (wrap64 (a1 + a2)) (of_decide_eq_true (by first | (with_reducible assumption) | assumption)) (by first | omega | exact of_decide_eq_true (by first | (with_reducible assumption) | assumption)) (of_decide_eq_true (by first | (with_reducible assumption) | assumption)) HC0.out; have HR260 := Aside0.mk (Kd.C_of_reads (h1 := fun _ => rfl) (hA12 _ (Kd.reads_of_C HR0.out))); have HC260 := Aside0.mk hC12; clear hA12 hC12 hi012 hsz12) | ((with_reducible refine gate_builtin (b := .append) (xs := #[.tmp 13, .tmp 19]) rfl ?_); at_builtin; refine Kd.R_append_rows (Kd.int .u8) (w0 := w) w.heap.size rfl (.tmp 13) (.tmp 19) 23 5 (.int .u8 0) 1 rfl Try.underlying23 info5 rfl (by decide) (by omega) v258 y257 ((l0.take ((wrap64 (a1 + a2)) : Int).toNat).drop (a1 : Int).toNat) _ _ _ (fun _ => True) (fun _ => False) rfl rfl ?aO ?aR (fun _ _ h => h) (fun _ h => h.elim) ?aF ?aB ?aS ?aL ?_; (case aR => first | (have hln_ : ((l0.take ((wrap64 (a1 + a2)) : Int).toNat).drop (a1 : Int).toNat).length = ((wrap64 (a1 + a2)).toNat - a1.toNat) := (by rw [List.length_drop, List.length_take]; have h_ : ((wrap64 (a1 + a2)) : Int) ≤ (l0.length : Int) := of_decide_eq_true (by first | (with_reducible assumption) | assumption); omega); have hc_ := (Kd.C_below HR260.out HB.out); rw [hln_] at hc_; exact hc_) | (rw [← show ((l0.take ((wrap64 (a1 + a2)) : Int).toNat).drop (a1 : Int).toNat).length = ((wrap64 (a1 + a2)).toNat - a1.toNat) from (by rw [List.length_drop, List.length_take]; have h_ : ((wrap64 (a1 + a2)) : Int) ≤ (l0.length : Int) := of_decide_eq_true (by first | (with_reducible assumption) | assumption); omega)]; repeat (first | exact (Kd.C_below HR260.out HB.out) | (with_reducible refine Kd.C_alloc ?_ _) | (with_reducible refine Kd.C_drewN ?_ _) | (with_reducible refine Kd.C_drew ?_))) | (repeat (first | exact (Kd.C_below HR260.out HB.out) | (with_reducible refine Kd.C_alloc ?_ _) | (with_reducible refine Kd.C_drewN ?_ _) | (with_reducible refine Kd.C_drew ?_)))); (case aB => exact (by repeat (first | (with_reducible first | exact HB.out | apply below_alloc | apply pw_below_drewN | apply below_drew1) | exact HB.out))); (case aF => exact (fun _ _ => trivial)); (case aO => exact (by (with_reducible repeat (first | apply Kd.R_alloc | apply Kd.R_drewN | apply Kd.R_drew)); exact HO259.out)); (case aS => exact (below_size (by repeat (first | (with_reducible first | exact HB.out | apply below_alloc | apply pw_below_drewN | apply below_drew1) | exact HB.out)))); (case aL => have := LMc9.out; have hlx_ := (show ((l0.take ((wrap64 (a1 + a2)) : Int).toNat).drop (a1 : Int).toNat).length = ((wrap64 (a1 + a2)).toNat - a1.toNat) from (by rw [List.length_drop, List.length_take]; have h_ : ((wrap64 (a1 + a2)) : Int) ≤ (l0.length : Int) := of_decide_eq_true (by first | (with_reducible assumption) | assumption); omega)); omega); intro v262 w13 ho hb hg hat; rw [← Ny261.out] at ho; have n0_ := Aside0.mk (hb); have n1_ := Aside0.mk (ho); clear HB; clear HO259; have HB := n0_; have HO263 := n1_; clear n0_ n1_; clear ho hb hg hat))
            go_ret2
            exact ⟨_, by first | rfl | (simp [errW_none, errW_some] <;> rfl) | (simp [*, errW_none, errW_some] <;> rfl), by (with_reducible repeat (first | apply Kd.R_alloc | apply Kd.R_drewN | apply Kd.R_drew)); exact HO263.out, by repeat (first | (with_reducible first | exact HB.out | apply below_alloc | apply pw_below_drewN | apply below_drew1) | exact HB.out)⟩
          · rw [if_neg c9] at H
            exact absurd H (by simp)
        · rw [if_neg c8] at H
          exact absurd H (by simp)
      · rw [if_neg c7] at H
        exact absurd H (by simp)
    · rw [if_neg c6] at H
      exact absurd H (by simp)
  · replace c5 := Bool.eq_false_iff.mpr c5
    subst c5
    have H1 : (some (([] : List Int), 3)) = some (r1, r2) := by rw [if_neg (show ¬ (false = true) by decide)] at H; exact H
    clear H
    have H := H1
    clear H1
    simp only [Option.some.injEq, Prod.mk.injEq] at H
    obtain ⟨rfl, rfl⟩ := H
    go_enter Try.func41, Try.ntmps41
    go_wp2_with (first | ((with_reducible refine gate_callee (f := 77) rfl ?_); refine goesL_ (some 11) rfl rfl Try.func77 (by kernel_rfl) rfl #[.slice A0 l0.length c0, .int .i64 a1, .int .i64 a2] rfl (by (try simp only [List.map_toArray, List.map_cons, List.map_nil]); first | done | rfl | (simp only [List.length_drop, List.length_take]; rfl)) ?_; (with_reducible refine (be_there.calls _ _ l0 a1 a2 false _ ?side1 ?side2 A4.out).mono ?_); (case side1 => repeat (first | exact HR0.out | (with_reducible refine Kd.C_alloc ?_ _) | (with_reducible refine Kd.C_drewN ?_ _) | (with_reducible refine Kd.C_drew ?_))); (case side2 => exact HC0.out); rintro e w' ⟨rfl, ⟨nd, rfl⟩⟩; refine ⟨_, rfl, ?_⟩))
    go_ret2
    exact ⟨_, by first | rfl | (simp [errW_none, errW_some] <;> rfl) | (simp [*, errW_none, errW_some] <;> rfl), by first | exact Kd.R_nil _ _ _ _ _ | exact Kd.N_nil _ _ _ _ _ | exact Kd.V_nil _ _ _ _ _ | exact Kd.Q_nil _ _ _ _ _ | exact Kd.S_nil _ _ _ _ _, by repeat (first | (with_reducible first | exact HB.out | apply below_alloc | apply pw_below_drewN | apply below_drew1) | exact HB.out)⟩

end Go.Proofs.Ytcclmaicdmogjaa.P

-- Written by wip/pr.py over the kit's print
namespace Go.Proofs.Ytcclmaicdmogjaa.P
open Go.RowKit Go.Proofs.YtcclmaicdmogjaaW.PrintWords Go.Proofs.YtcclmaicdmogjaaW.PrintLast Go.Proofs.YtcclmaicdmogjaaW.PrintMore
attribute [local go_sem] max2_int min2_int max_two min_two max_three min_three max_four min_four   -- for this text's walks alone
set_option linter.unusedVariables false
set_option linter.unusedSimpArgs false

/-! ### calamusref02_There: function 78 -/
def calamusref02_There.f (l0 : List Int) (a1 : Int) (a2 : Int) : Option (Bool) := if a1 ≥ 0 then (if a2 ≥ 0 then (if a1 ≤ (l0.length : Int) then (some (decide (a2 ≤ (wrap64 ((l0.length : Int) - a1))))) else (some false)) else (some false)) else (some false)
set_option maxHeartbeats 8000000 in
set_option maxRecDepth 100000 in
theorem calamusref02_There.calls (A0 : Option Addr) (c0 : Nat) (l0 : List Int) (a1 : Int) (a2 : Int) (r : Bool) (w : World) (hr0 : Kd.C (Kd.int .u8) w A0 l0.length l0) (hc0 : l0.length ≤ c0) (h : calamusref02_There.f l0 a1 a2 = some r) :
    Calls Try.prog 78 #[.slice A0 l0.length c0, .int .i64 a1, .int .i64 a2] w fun e w' => e = .returned (.bool r) ∧ Drawn0 w w' := by
  have HR0 := Aside0.mk hr0
  have HC0 := Aside0.mk hc0
  clear hr0 hc0
  have H : (if a1 ≥ 0 then (if a2 ≥ 0 then (if a1 ≤ (l0.length : Int) then (some (decide (a2 ≤ (wrap64 ((l0.length : Int) - a1))))) else (some false)) else (some false)) else (some false)) = some r := h
  clear h
  by_cases c4 : a1 ≥ 0
  · rw [if_pos c4] at H
    have c4b0 : decide (0 ≤ a1) = true := decide_eq_true c4
    clear c4
    by_cases c5 : a2 ≥ 0
    · rw [if_pos c5] at H
      have c5b0 : decide (0 ≤ a2) = true := decide_eq_true c5
      clear c5
      by_cases c6 : a1 ≤ (l0.length : Int)
      · rw [if_pos c6] at H
        have c6b0 : decide (a1 ≤ (l0.length : Int)) = true := decide_eq_true c6
        clear c6
        obtain rfl := Option.some.inj H
        go_enter Try.func78, Try.ntmps78
        go_wp2
        go_ret
        exact ⟨by first | rfl | (simp; done) | (simp [*]; done), by repeat (first | exact Drawn0.refl _ | apply Drawn0.step)⟩
      · rw [if_neg c6] at H
        have c6b0 : decide (a1 ≤ (l0.length : Int)) = false := decide_eq_false c6
        clear c6
        obtain rfl := Option.some.inj H
        go_enter Try.func78, Try.ntmps78
        go_wp2
        go_ret
        exact ⟨by first | rfl | (simp; done) | (simp [*]; done), by repeat (first | exact Drawn0.refl _ | apply Drawn0.step)⟩
    · rw [if_neg c5] at H
      have c5b0 : decide (0 ≤ a2) = false := decide_eq_false c5
      clear c5
      obtain rfl := Option.some.inj H
      go_enter Try.func78, Try.ntmps78
      go_wp2
      go_ret
      exact ⟨by first | rfl | (simp; done) | (simp [*]; done), by repeat (first | exact Drawn0.refl _ | apply Drawn0.step)⟩
  · rw [if_neg c4] at H
    have c4b0 : decide (0 ≤ a1) = false := decide_eq_false c4
    clear c4
    obtain rfl := Option.some.inj H
    go_enter Try.func78, Try.ntmps78
    go_wp2
    go_ret
    exact ⟨by first | rfl | (simp; done) | (simp [*]; done), by repeat (first | exact Drawn0.refl _ | apply Drawn0.step)⟩

end Go.Proofs.Ytcclmaicdmogjaa.P

-- Written by wip/pr.py over the kit's print
namespace Go.Proofs.Ytcclmaicdmogjaa.P
open Go.RowKit Go.Proofs.YtcclmaicdmogjaaW.PrintWords Go.Proofs.YtcclmaicdmogjaaW.PrintLast Go.Proofs.YtcclmaicdmogjaaW.PrintMore
attribute [local go_sem] max2_int min2_int max_two min_two max_three min_three max_four min_four   -- for this text's walks alone
set_option linter.unusedVariables false
set_option linter.unusedSimpArgs false

/-! ### calamusref02_Cut: function 42 -/
def calamusref02_Cut.f (l0 : List Int) (a1 : Int) (a2 : Int) : Option (List Int × Int) := (calamusref02_There.f l0 a1 a2).bind fun t264 => (if t264 = true then (if 0 ≤ a1 then (if a1 ≤ (wrap64 (a1 + a2)) then (if (wrap64 (a1 + a2)) ≤ (l0.length : Int) then ((calamusref02_Copy.f ((l0.take ((wrap64 (a1 + a2)) : Int).toNat).drop (a1 : Int).toNat)).bind fun t266 => (some (t266, 0))) else (none)) else (none)) else (none)) else (some (([] : List Int), 3)))
set_option maxHeartbeats 8000000 in
set_option maxRecDepth 100000 in
theorem calamusref02_Cut.calls (A0 : Option Addr) (c0 : Nat) (l0 : List Int) (a1 : Int) (a2 : Int) (r1 : List Int) (r2 : Int) (w : World) (hr0 : Kd.C (Kd.int .u8) w A0 l0.length l0) (hc0 : l0.length ≤ c0) (h : calamusref02_Cut.f l0 a1 a2 = some (r1, r2)) :
    Calls Try.prog 42 #[.slice A0 l0.length c0, .int .i64 a1, .int .i64 a2] w fun e w' => ∃ v0_ : Value, e = .returned (.tuple #[v0_, .int .i64 r2]) ∧ Kd.R (Kd.int .u8) 5 w' w.heap.size (fun _ => True) v0_ r1 ∧ Below w.heap.size w w' := by
  have HR0 := Aside0.mk hr0
  have HC0 := Aside0.mk hc0
  clear hr0 hc0
  have HB := Aside0.mk (Below.refl w.heap.size w)
  have H : ((calamusref02_There.f l0 a1 a2).bind fun t264 => (if t264 = true then (if 0 ≤ a1 then (if a1 ≤ (wrap64 (a1 + a2)) then (if (wrap64 (a1 + a2)) ≤ (l0.length : Int) then ((calamusref02_Copy.f ((l0.take ((wrap64 (a1 + a2)) : Int).toNat).drop (a1 : Int).toNat)).bind fun t266 => (some (t266, 0))) else (none)) else (none)) else (none)) else (some (([] : List Int), 3)))) = some (r1, r2) := h
  clear h
  replace H := Option.bind_eq_some_iff.mp H
  obtain ⟨t264, A40, H⟩ := H
  replace H : (if t264 = true then (if 0 ≤ a1 then (if a1 ≤ (wrap64 (a1 + a2)) then (if (wrap64 (a1 + a2)) ≤ (l0.length : Int) then ((calamusref02_Copy.f ((l0.take ((wrap64 (a1 + a2)) : Int).toNat).drop (a1 : Int).toNat)).bind fun t266 => (some (t266, 0))) else (none)) else (none)) else (none)) else (some (([] : List Int), 3))) = some (r1, r2) := H
  have A4 := Aside0.mk A40
  clear A40
  by_cases c5 : t264 = true
  · subst c5
    have H1 : (if 0 ≤ a1 then (if a1 ≤ (wrap64 (a1 + a2)) then (if (wrap64 (a1 + a2)) ≤ (l0.length : Int) then ((calamusref02_Copy.f ((l0.take ((wrap64 (a1 + a2)) : Int).toNat).drop (a1 : Int).toNat)).bind fun t266 => (some (t266, 0))) else (none)) else (none)) else (none)) = some (r1, r2) := by rw [if_pos rfl] at H; exact H
    clear H
    have H := H1
    clear H1
    by_cases c6 : 0 ≤ a1
    · rw [if_pos c6] at H
      have c6b0 := eq_true c6
      have c6b1 : decide (0 ≤ a1) = true := decide_eq_true c6
      clear c6
      by_cases c7 : a1 ≤ (wrap64 (a1 + a2))
      · rw [if_pos c7] at H
        have c7b0 := eq_true c7
        have c7b1 : decide (a1 ≤ (wrap64 (a1 + a2))) = true := decide_eq_true c7
        by_cases c8 : (wrap64 (a1 + a2)) ≤ (l0.length : Int)
        · rw [if_pos c8] at H
          have c8b0 := eq_true c8
          have c8b1 : decide ((wrap64 (a1 + a2)) ≤ (l0.length : Int)) = true := decide_eq_true c8
          replace H := Option.bind_eq_some_iff.mp H
          obtain ⟨t266, A90, H⟩ := H
          replace H : (some (t266, 0)) = some (r1, r2) := H
          have A9 := Aside0.mk A90
          clear A90
          simp only [Option.some.injEq, Prod.mk.injEq] at H
          obtain ⟨rfl, rfl⟩ := H
          go_enter Try.func42, Try.ntmps42
          go_wp2_with (first | ((with_reducible refine gate_callee (f := 78) rfl ?_); refine goesL_ (some 11) rfl rfl Try.func78 (by kernel_rfl) rfl #[.slice A0 l0.length c0, .int .i64 a1, .int .i64 a2] rfl (by (try simp only [List.map_toArray, List.map_cons, List.map_nil]); first | done | rfl | (simp only [List.length_drop, List.length_take]; rfl)) ?_; (with_reducible refine (calamusref02_There.calls _ _ l0 a1 a2 true _ ?side1 ?side2 A4.out).mono ?_); (case side1 => repeat (first | exact HR0.out | (with_reducible refine Kd.C_alloc ?_ _) | (with_reducible refine Kd.C_drewN ?_ _) | (with_reducible refine Kd.C_drew ?_))); (case side2 => exact HC0.out); rintro e w' ⟨rfl, ⟨nd, rfl⟩⟩; refine ⟨_, rfl, ?_⟩; obtain ⟨i010, hi010, _, hsz10, _⟩ := info_parts info5; obtain ⟨A10, hcut10, hA10, hC10⟩ := print_mid_of (P := Try.prog) (Value.int .u8) 0 23 5 .i64 .i64 Try.underlying23 hi010 hsz10 A0 c0 l0 a1 (wrap64 (a1 + a2)) (of_decide_eq_true (by first | (with_reducible assumption) | assumption)) (by first | omega | exact of_decide_eq_true (by first | (with_reducible assumption) | assumption)) (of_decide_eq_true (by first | (with_reducible assumption) | assumption)) HC0.out; have HR265 := Aside0.mk (Kd.C_of_reads (h1 := fun _ => rfl) (hA10 _ (Kd.reads_of_C HR0.out))); have HC265 := Aside0.mk hC10; clear hA10 hC10 hi010 hsz10) | ((with_reducible refine gate_callee (f := 26) rfl ?_); refine goesL_ (some 19) rfl rfl Try.func26 (by kernel_rfl) rfl #[.slice A10 ((l0.take ((wrap64 (a1 + a2)) : Int).toNat).drop (a1 : Int).toNat).length (c0 - a1.toNat)] rfl (by (try simp only [List.map_toArray, List.map_cons, List.map_nil]); first | done | (rw [show ((l0.take ((wrap64 (a1 + a2)) : Int).toNat).drop (a1 : Int).toNat).length = ((wrap64 (a1 + a2)).toNat - a1.toNat) from (by rw [List.length_drop, List.length_take]; have h_ : ((wrap64 (a1 + a2)) : Int) ≤ (l0.length : Int) := of_decide_eq_true (by first | (with_reducible assumption) | assumption); omega)] <;> rfl) | rfl | (simp only [List.length_drop, List.length_take]; rfl)) ?_; (with_reducible refine (calamusref02_Copy.calls _ _ ((l0.take ((wrap64 (a1 + a2)) : Int).toNat).drop (a1 : Int).toNat) t266 _ ?side1 ?side2 A9.out).mono ?_); (case side1 => repeat (first | exact HR265.out | (with_reducible refine Kd.C_alloc ?_ _) | (with_reducible refine Kd.C_drewN ?_ _) | (with_reducible refine Kd.C_drew ?_))); (case side2 => exact HC265.out); rintro e w11 ⟨v267, rfl, ho0, hb⟩; refine ⟨_, rfl, ?_⟩; have n0_ := Aside0.mk (Kd.R_lower ho0 (below_size (by repeat (first | (with_reducible first | exact HB.out | apply below_alloc | apply pw_below_drewN | apply below_drew1) | exact HB.out)))); have n1_ := Aside0.mk (below_step (by repeat (first | (with_reducible first | exact HB.out | apply below_alloc | apply pw_below_drewN | apply below_drew1) | exact HB.out)) hb); clear HB; have HO268 := n0_; have HB := n1_; clear n0_ n1_; (try clear hb); (try clear hb2); (try clear hk); (try clear hi); (try clear ho0)))
          go_ret2
          exact ⟨_, by first | rfl | (simp [errW_none, errW_some] <;> rfl) | (simp [*, errW_none, errW_some] <;> rfl), by (with_reducible repeat (first | apply Kd.R_alloc | apply Kd.R_drewN | apply Kd.R_drew)); exact HO268.out, by repeat (first | (with_reducible first | exact HB.out | apply below_alloc | apply pw_below_drewN | apply below_drew1) | exact HB.out)⟩
        · rw [if_neg c8] at H
          exact absurd H (by simp)
      · rw [if_neg c7] at H
        exact absurd H (by simp)
    · rw [if_neg c6] at H
      exact absurd H (by simp)
  · replace c5 := Bool.eq_false_iff.mpr c5
    subst c5
    have H1 : (some (([] : List Int), 3)) = some (r1, r2) := by rw [if_neg (show ¬ (false = true) by decide)] at H; exact H
    clear H
    have H := H1
    clear H1
    simp only [Option.some.injEq, Prod.mk.injEq] at H
    obtain ⟨rfl, rfl⟩ := H
    go_enter Try.func42, Try.ntmps42
    go_wp2_with (first | ((with_reducible refine gate_callee (f := 78) rfl ?_); refine goesL_ (some 11) rfl rfl Try.func78 (by kernel_rfl) rfl #[.slice A0 l0.length c0, .int .i64 a1, .int .i64 a2] rfl (by (try simp only [List.map_toArray, List.map_cons, List.map_nil]); first | done | rfl | (simp only [List.length_drop, List.length_take]; rfl)) ?_; (with_reducible refine (calamusref02_There.calls _ _ l0 a1 a2 false _ ?side1 ?side2 A4.out).mono ?_); (case side1 => repeat (first | exact HR0.out | (with_reducible refine Kd.C_alloc ?_ _) | (with_reducible refine Kd.C_drewN ?_ _) | (with_reducible refine Kd.C_drew ?_))); (case side2 => exact HC0.out); rintro e w' ⟨rfl, ⟨nd, rfl⟩⟩; refine ⟨_, rfl, ?_⟩))
    go_ret2
    exact ⟨_, by first | rfl | (simp [errW_none, errW_some] <;> rfl) | (simp [*, errW_none, errW_some] <;> rfl), by first | exact Kd.R_nil _ _ _ _ _ | exact Kd.N_nil _ _ _ _ _ | exact Kd.V_nil _ _ _ _ _ | exact Kd.Q_nil _ _ _ _ _ | exact Kd.S_nil _ _ _ _ _, by repeat (first | (with_reducible first | exact HB.out | apply below_alloc | apply pw_below_drewN | apply below_drew1) | exact HB.out)⟩

end Go.Proofs.Ytcclmaicdmogjaa.P

namespace Go.Proofs.Ytcclmaicdmogjaa.P
open Go.RowKit Go.Proofs.YtcclmaicdmogjaaW.PrintWords Go.Proofs.YtcclmaicdmogjaaW.PrintLast Go.Proofs.YtcclmaicdmogjaaW.PrintMore
set_option linter.unusedVariables false
set_option linter.unusedSimpArgs false

/-- copy(v[at:], ys), v a row of the call's own. -/
theorem R_copy_at {P : Program} {ops : Array Oper} {rest : List Oper} {o : Oper} {a : Act} {Q : Exit → Act → World → Prop} {α : Type} {enc : α → Value} {h1 : ∀ x, (enc x).oneCell' = true} (d : α) {w0 W : World} (base : Nat) (hgd : o.guard = none) (s x : Operand) (t t' e : TypeId)
    (ho : o.op = .call { callee := .builtin .copy, args := #[s, x], argTypes := #[t, t'] }) (ht : P.underlying t = some (.slice e)) (hinfo : (P.info? e).map (·.size) = some 1)
    (v : Value) (xs ys : List α) (A D : Option Addr) (m c dl dc pos : Nat) (ok : Nat → Prop) (hs : a.eval s = .slice D dl dc) (hx : a.eval x = .slice A m c)
    (hD : ∀ g n cap, v = .slice (some ⟨g, 0, none⟩) n cap → 0 < min m dl → D = some ⟨g, pos, none⟩) (hfit : pos + min m dl ≤ xs.length)
    (HO : (Kd.scalar enc h1).R e W base ok v xs) (HR : (Kd.scalar enc h1).C W A m ys) (HB : Below base w0 W) (hbase : base ≤ W.heap.size)
    (h : ∀ w1, (Kd.scalar enc h1).R e w1 base ok v (xs.take pos ++ ys.take (min m dl) ++ xs.drop (pos + min m dl)) → Below base w0 w1 → W.grownBy w1 v.ownBlock → wpList P ops Q rest (a.put o.dst (.int .i64 ((min m dl : Nat) : Int))) w1) :
    wpList P ops Q (o :: rest) a W := by
  have hR := Kd.reads_of_C (enc := enc) (d := d) (h1 := h1) HR
  have hm : ys.length = m := hR.1
  have hown := Kd.own_of_R HO
  have fin : ∀ w1, (Builtin.copy_ #[t, t'] o.type #[.slice D dl dc, .slice A m c]).run P W = .ok (goInt ((min m dl : Nat) : Int)) w1 → (Kd.scalar enc h1).R e w1 base ok v (xs.take pos ++ ys.take (min m dl) ++ xs.drop (pos + min m dl)) → W.grownBy w1 v.ownBlock → wpList P ops Q (o :: rest) a W := by
    intro w1 hr hrow hg
    refine wpList_plain hgd fun K hK => ?_
    unfold Oper.wp execOp
    simp only [ho, resolve, invoke, builtin, Sem.run_bind, Sem.run_pure, Result.andThen_ok, List.map_toArray, List.map_cons, List.map_nil, hs, hx, hr]
    exact hK _ _ (h w1 hrow (HB.grown hg hbase (own_base hown)) hg)
  rcases Nat.eq_zero_or_pos (min m dl) with h0 | hp
  · refine fin W ?_ (by rw [h0, List.take_zero, List.append_nil, Nat.add_zero, List.take_append_drop]; exact HO) (World.grownBy.refl W _)
    rw [h0]
    exact run_copy_none W t t' o.type e D A dl dc m c ht hinfo h0
  · obtain ⟨ad, hA, hc⟩ := hR.2.2 (by omega)
    rcases hown.2 with ⟨_, hx0⟩ | ⟨g, cap, cur, hv, hb, hh, hnc, hcm, hcs, htake⟩
    · omega
    have hcs1 : cur.size = cap := by omega
    have hDg := hD g xs.length cap hv hp
    have hsrc : ∀ j u, (encs enc (ys.take (min m dl)))[j]? = some u → W.cell? (ad.add j) = some u := by
      intro j u hu
      have hj : j < (ys.take (min m dl)).length := by
        rcases Nat.lt_or_ge j (ys.take (min m dl)).length with h | h
        · exact h
        · rw [List.getElem?_eq_none (by rw [encs_length]; exact h)] at hu
          cases hu
      have hjm : j < min m dl := by rw [List.length_take] at hj; omega
      rw [encs_get (d := d) _ j hj] at hu
      rw [hc j (by omega), ← hu]
      simp [List.getD_eq_getElem?_getD, hjm]
    have hkl : (encs enc (ys.take (min m dl))).length = min m dl := by rw [encs_length, List.length_take]; omega
    have hr := run_copy_cells (P := P) W t t' o.type e g pos dl dc ad m c (encs enc (ys.take (min m dl))) ht hinfo (by rw [hkl]) hsrc
      (fun j hj => by rw [cell_of_row W g _ cur e (0, 0) hh]; simp; omega) (fun j _ => blk_frozen hh _) (by intro u hu; simp only [encs, List.mem_map] at hu; obtain ⟨q, _, rfl⟩ := hu; exact h1 q)
    obtain ⟨cur', h3, h4, h5⟩ := setCells_row (encs enc (ys.take (min m dl))) pos W cur hh (by rw [hkl]; omega)
    obtain ⟨s1, s2, s3, s4⟩ := setCells_same g (encs enc (ys.take (min m dl))) pos W
    refine fin _ (by rw [hDg, hA, hr, hkl]) (Kd.R_of_own ?_ HO.1) ⟨s1, s2, s3, by rw [s4]; exact Nat.le_refl _, fun k _ hk => setCells_far _ _ k (fun he => hk (by rw [hv, he]; simp [Value.ownBlock]))⟩
    have hln : (xs.take pos ++ ys.take (min m dl) ++ xs.drop (pos + min m dl)).length = xs.length := by
      rw [List.length_append, List.length_append, List.length_take, List.length_take, List.length_drop]
      omega
    rw [hln]
    refine ⟨by rw [encs_length, hln, Nat.mul_one], .inr ⟨g, cap, cur', hv, hb, h3, hnc, hcm, by rw [h4, hcs], ?_⟩⟩
    have htk : cur.toList.take xs.length = encs enc xs := by rw [← htake, Nat.mul_one]
    rw [h5, hkl, encs_append, encs_append, Nat.mul_one]
    have e1 : encs enc (xs.take pos) = cur.toList.take pos := by
      have : encs enc (xs.take pos) = (encs enc xs).take pos := by simp [encs, List.map_take]
      rw [this, ← htk, List.take_take, Nat.min_eq_left (by omega)]
    have e2 : encs enc (xs.drop (pos + min m dl)) = (cur.toList.take xs.length).drop (pos + min m dl) := by
      rw [htk]; simp [encs, List.map_drop]
    rw [e1, e2, List.take_append, List.take_of_length_le (l := cur.toList.take pos ++ encs enc (ys.take (min m dl))) (by rw [List.length_append, List.length_take, hkl]; omega), List.length_append, List.length_take, hkl]
    congr 1
    rw [List.drop_take]
    congr 1
    have : cur.toList.length = cap := by rw [Array.length_toList]; exact hcs1
    omega
/-- v[at:], v a row of the call's own. -/
theorem own_cut {P : Program} {α : Type} {enc : α → Value} {h1 : ∀ x, (enc x).oneCell' = true} (t e : TypeId) {i : TypeInfo} (ht : P.underlying t = some (.slice e)) (hi : P.info? e = some i) (hsz : i.size = 1) {W : World} {base : Nat} {ok : Nat → Prop} {v : Value} {xs : List α}
    (h : (Kd.scalar enc h1).R e W base ok v xs) (m : Nat) (hm : m ≤ xs.length) :
    ∃ A c D, v = .slice A xs.length c ∧ (∀ W : World, (Instr.slice t (.slice A xs.length c) (some (.int .i64 (m : Int))) none none).run P W = .ok (.slice D (xs.length - m) (c - m)) W) ∧ ∀ g n cap, v = .slice (some ⟨g, 0, none⟩) n cap → m < xs.length → D = some ⟨g, m, none⟩ := by
  obtain ⟨A, c, hv, hl, hr⟩ := Kd.R_reads h
  refine ⟨A, c, if c = m then A else A.map (·.add m), hv, fun W => ?_, fun g n cap hg hlt => ?_⟩
  · have hel : P.elem t = e := by simp [Program.elem, ht]
    have hu : P.underlying t = some (.slice (P.elem t)) := by rw [hel]; exact ht
    rw [run_slice_l W t A xs.length c hu .i64 (m : Int) (Int.natCast_nonneg _) (by omega), hel]
    simp [sizeOf, typeInfo, hi, hsz, sliced, Result.andThen]
  · rw [hv] at hg
    injection hg with hg _ _
    rw [if_neg (by omega), hg]
    simp only [Option.map_some, add_plain]

end Go.Proofs.Ytcclmaicdmogjaa.P

-- Written by wip/pr.py over the kit's print
namespace Go.Proofs.Ytcclmaicdmogjaa.P
open Go.RowKit Go.Proofs.YtcclmaicdmogjaaW.PrintWords Go.Proofs.YtcclmaicdmogjaaW.PrintLast Go.Proofs.YtcclmaicdmogjaaW.PrintMore
attribute [local go_sem] max2_int min2_int max_two min_two max_three min_three max_four min_four   -- for this text's walks alone
set_option linter.unusedVariables false
set_option linter.unusedSimpArgs false

/-! ### be_Lay: function 43 (by hand) -/
-- FUNC calamus/be.Lay
-- ROUNDS no
-- MAKES yes
-- INFO uint8
-- NEEDS copyat
def be_Lay.f (l0 : List Int) (a1 : Int) (l2 : List Int) : Option (List Int × Int) :=
  if l0.length < 140737488355328 ∧ inI a1 then (if 0 ≤ a1 ∧ a1 + l2.length ≤ l0.length then some (l0.take a1.toNat ++ l2 ++ l0.drop (a1.toNat + l2.length), 0) else some ([], 3)) else none
set_option maxHeartbeats 8000000 in
set_option maxRecDepth 100000 in
theorem be_Lay.calls (A0 : Option Addr) (c0 : Nat) (l0 : List Int) (a1 : Int) (A2 : Option Addr) (c2 : Nat) (l2 : List Int) (r1 : List Int) (r2 : Int) (w : World) (hr0 : Kd.C (Kd.int .u8) w A0 l0.length l0) (hc0 : l0.length ≤ c0) (hr2 : Kd.C (Kd.int .u8) w A2 l2.length l2) (hc2 : l2.length ≤ c2) (h : be_Lay.f l0 a1 l2 = some (r1, r2)) :
    Calls Try.prog 43 #[.slice A0 l0.length c0, .int .i64 a1, .slice A2 l2.length c2] w fun e w' => ∃ v0_ : Value, e = .returned (.tuple #[v0_, .int .i64 r2]) ∧ Kd.R (Kd.int .u8) 5 w' w.heap.size (fun _ => True) v0_ r1 ∧ Below w.heap.size w w' := by
  unfold be_Lay.f at h
  split at h
  case isFalse => cases h
  rename_i hg
  obtain ⟨hmax, hi1, hi2⟩ := hg
  have HC := Aside0.mk hr0
  have HL := Aside0.mk hc0
  have HC2 := Aside0.mk hr2
  have hm2 : l2.length ≤ 9223372036854775807 := Kd.C_max hr2
  have HT := Aside0.mk (be_there_eq l0 a1 l2.length (by omega) ⟨hi1, hi2⟩ (by omega))
  have HB := Aside0.mk (Below.refl w.heap.size w)
  clear hr0 hc0 hr2 hc2
  by_cases hth : 0 ≤ a1 ∧ a1 + l2.length ≤ l0.length
  · rw [if_pos hth] at h
    rw [show decide (0 ≤ a1 ∧ a1 + (l2.length : Int) ≤ (l0.length : Int)) = true from decide_eq_true hth] at HT
    simp only [Option.some.injEq, Prod.mk.injEq] at h
    obtain ⟨hr, rfl⟩ := h
    obtain ⟨hth1, hth2⟩ := hth
    obtain ⟨n, rfl⟩ := Int.eq_ofNat_of_zero_le hth1
    have HR := Aside0.mk hr
    have hn : n + l2.length ≤ l0.length := by omega
    clear hr hth1 hth2
    go_enter Try.func43, Try.ntmps43
    go_wp2_with (first
      | (go_at_call 77; refine (be_there.calls _ _ l0 (n : Int) (l2.length : Int) true _ HC.out HL.out HT.out).mono ?_; rintro e w' ⟨rfl, ⟨nd, rfl⟩⟩)
      | ((with_reducible refine gate_dst (N := 15) rfl ?_); refine Kd.R_lit (Kd.int .u8) _ 5 ?hg (N := 15) ?hd (xs := ([] : List Int)) (inner := []) (ok := fun _ => True) (okp := fun _ => True) ?hr ?hp (fun _ hk => hk) trivial (Below.refl _ _) (Nat.le_refl _) (by simp) ?_; (case hd => rfl); (case hg => rfl); (case hr => first | (go_simp; done) | (go_simp; rfl)); (case hp => exact (Reps.none _ _)); intro v102 w3 ho4 hb hg_ hnew_; clear hg_ hnew_; have HB3 := Aside0.mk (below_step (pw_below_drewN HB.out nd) hb); have HO3 := Aside0.mk (Kd.R_lower ho4 (below_size (pw_below_drewN HB.out nd))); clear hb ho4)
      | ((with_reducible refine gate_builtin (b := .append) (xs := #[.tmp 15, .tmp 16]) rfl ?_); at_builtin; refine Kd.R_append_rows (Kd.int .u8) (w0 := w) w.heap.size rfl (.tmp 15) (.tmp 16) 23 5 (.int .u8 0) 1 rfl Try.underlying23 info5 rfl (by decide) (by omega) v102 ([] : List Int) l0 _ _ _ (fun _ => True) (fun _ => False) rfl rfl HO3.out (Kd.C_below HC.out HB3.out) (fun _ _ h => h) (fun _ h => h.elim) (fun _ _ => trivial) HB3.out (below_size HB3.out) (by simp only [List.length_nil]; omega) ?_; intro v105 w5 ho hb _ _; rw [List.nil_append] at ho; obtain ⟨A1, c1, D, hv, hcut, hD⟩ := own_cut (P := Try.prog) 23 5 Try.underlying23 (info_parts info5).choose_spec.1 (info_parts info5).choose_spec.2.2.1 ho n (by omega); subst hv; have HO := Aside0.mk ho; have HB5 := Aside0.mk hb; have HD := Aside0.mk hD; clear HB3 HO3 ho hb hD)
      | ((with_reducible refine gate_builtin (b := .copy) (xs := #[.tmp 20, .tmp 21]) rfl ?_); refine R_copy_at (0 : Int) w.heap.size rfl (.tmp 20) (.tmp 21) 23 23 5 rfl Try.underlying23 (by kernel_rfl) (.slice A1 l0.length c1) l0 l2 A2 D l2.length c2 (l0.length - n) (c1 - n) n (fun _ => True) rfl rfl (fun g m cap he hp => HD.out g m cap he (by omega)) (by omega) HO.out (Kd.C_below HC2.out HB5.out) HB5.out (below_size HB5.out) ?_; intro w9 ho9 hb9 _; have HO9 := Aside0.mk ho9; have HB9 := Aside0.mk hb9; clear ho9 hb9 HO HB5))
    go_ret2
    refine ⟨_, rfl, ?_, HB9.out⟩
    have h9 := HO9.out
    rw [← HR.out]
    rw [Nat.min_eq_left (by omega), List.take_length] at h9
    exact h9
  · rw [if_neg hth] at h
    rw [show decide (0 ≤ a1 ∧ a1 + (l2.length : Int) ≤ (l0.length : Int)) = false from decide_eq_false hth] at HT
    simp only [Option.some.injEq, Prod.mk.injEq] at h
    obtain ⟨rfl, rfl⟩ := h
    clear hth
    go_enter Try.func43, Try.ntmps43
    go_wp2_with (go_at_call 77; refine (be_there.calls _ _ l0 a1 (l2.length : Int) false _ HC.out HL.out HT.out).mono ?_; rintro e w' ⟨rfl, ⟨nd, rfl⟩⟩)
    go_ret2
    exact ⟨_, rfl, Kd.R_nil _ _ _ _ _, pw_below_drewN HB.out nd⟩


end Go.Proofs.Ytcclmaicdmogjaa.P

-- Written by wip/pr.py over the kit's print
namespace Go.Proofs.Ytcclmaicdmogjaa.P
open Go.RowKit Go.Proofs.YtcclmaicdmogjaaW.PrintWords Go.Proofs.YtcclmaicdmogjaaW.PrintLast Go.Proofs.YtcclmaicdmogjaaW.PrintMore
attribute [local go_sem] max2_int min2_int max_two min_two max_three min_three max_four min_four   -- for this text's walks alone
set_option linter.unusedVariables false
set_option linter.unusedSimpArgs false

/-! ### calamusref02_Lay: function 44 -/
def calamusref02_Lay.l0 : Nat → Int → List Int → List Int → Int → Int → Option (List Int × Int)
  | 0, _, _, _, _, _ => none
  | k + 1, x1, x2, x8, x19, x20 => if x20 < x19 then (if 0 ≤ x20 then (if x20 < (x2.length : Int) then (if 0 ≤ (wrap64 (x1 + x20)) then (if (wrap64 (x1 + x20)) < (x8.length : Int) then (calamusref02_Lay.l0 k x1 x2 (x8.set ((wrap64 (x1 + x20)) : Int).toNat (rd x2 x20)) x19 (wrap64 (x20 + 1))) else (none)) else (none)) else (none)) else (none)) else (some (x8, 0))
def calamusref02_Lay.f (k : Nat) (l0 : List Int) (a1 : Int) (l2 : List Int) : Option (List Int × Int) := (calamusref02_There.f l0 a1 (l2.length : Int)).bind fun t269 => (if t269 = true then ((calamusref02_Copy.f l0).bind fun t270 => (calamusref02_Lay.l0 k a1 l2 t270 (l2.length : Int) 0)) else (some (([] : List Int), 3)))
theorem calamusref02_Lay.mono_l : ∀ k, (∀ y0 y1 y2 y3 y4, LeO (calamusref02_Lay.l0 k y0 y1 y2 y3 y4) (calamusref02_Lay.l0 (k + 1) y0 y1 y2 y3 y4))
  | 0 => fun _ _ _ _ _ r h => by simp [calamusref02_Lay.l0] at h
  | k + 1 => by
    have ih0 := calamusref02_Lay.mono_l k
    · intro y0 y1 y2 y3 y4
      unfold calamusref02_Lay.l0
      repeat' first
      | (with_reducible exact ih0 _ _ _ _ _)
      | (with_reducible exact LeO.refl _)
      | (with_reducible exact LeO.none _)
      | (with_reducible refine LeO.ite ?_ ?_)
      | (with_reducible refine LeO.bind ?_ (fun _ => ?_))
      | exact ih0 _ _ _ _ _
      | exact LeO.none _
      | refine LeO.ite ?_ ?_
      | refine LeO.bind ?_ (fun _ => ?_)
theorem calamusref02_Lay.mono : ∀ a0 a1 a2 k, LeO (calamusref02_Lay.f k a0 a1 a2) (calamusref02_Lay.f (k + 1) a0 a1 a2) := by
  intro a0 a1 a2 k
  have ih0 := calamusref02_Lay.mono_l k
  unfold calamusref02_Lay.f
  repeat' first
      | (with_reducible exact ih0 _ _ _ _ _)
      | (with_reducible exact LeO.refl _)
      | (with_reducible exact LeO.none _)
      | (with_reducible refine LeO.ite ?_ ?_)
      | (with_reducible refine LeO.bind ?_ (fun _ => ?_))
      | exact ih0 _ _ _ _ _
      | exact LeO.none _
      | refine LeO.ite ?_ ?_
      | refine LeO.bind ?_ (fun _ => ?_)
set_option maxHeartbeats 8000000 in
set_option maxRecDepth 100000 in
theorem calamusref02_Lay.calls (k : Nat) (A0 : Option Addr) (c0 : Nat) (l0 : List Int) (a1 : Int) (A2 : Option Addr) (c2 : Nat) (l2 : List Int) (r1 : List Int) (r2 : Int) (w : World) (hr0 : Kd.C (Kd.int .u8) w A0 l0.length l0) (hc0 : l0.length ≤ c0) (hr2 : Kd.C (Kd.int .u8) w A2 l2.length l2) (hc2 : l2.length ≤ c2) (h : calamusref02_Lay.f k l0 a1 l2 = some (r1, r2)) :
    Calls Try.prog 44 #[.slice A0 l0.length c0, .int .i64 a1, .slice A2 l2.length c2] w fun e w' => ∃ v0_ : Value, e = .returned (.tuple #[v0_, .int .i64 r2]) ∧ Kd.R (Kd.int .u8) 5 w' w.heap.size (fun _ => True) v0_ r1 ∧ Below w.heap.size w w' := by
  have HR0 := Aside0.mk hr0
  have HC0 := Aside0.mk hc0
  clear hr0 hc0
  have HR2 := Aside0.mk hr2
  have HC2 := Aside0.mk hc2
  clear hr2 hc2
  have HB := Aside0.mk (Below.refl w.heap.size w)
  have H : ((calamusref02_There.f l0 a1 (l2.length : Int)).bind fun t269 => (if t269 = true then ((calamusref02_Copy.f l0).bind fun t270 => (calamusref02_Lay.l0 k a1 l2 t270 (l2.length : Int) 0)) else (some (([] : List Int), 3)))) = some (r1, r2) := h
  clear h
  replace H := Option.bind_eq_some_iff.mp H
  obtain ⟨t269, A40, H⟩ := H
  replace H : (if t269 = true then ((calamusref02_Copy.f l0).bind fun t270 => (calamusref02_Lay.l0 k a1 l2 t270 (l2.length : Int) 0)) else (some (([] : List Int), 3))) = some (r1, r2) := H
  have A4 := Aside0.mk A40
  clear A40
  by_cases c5 : t269 = true
  · subst c5
    have H1 : ((calamusref02_Copy.f l0).bind fun t270 => (calamusref02_Lay.l0 k a1 l2 t270 (l2.length : Int) 0)) = some (r1, r2) := by rw [if_pos rfl] at H; exact H
    clear H
    have H := H1
    clear H1
    replace H := Option.bind_eq_some_iff.mp H
    obtain ⟨t270, A60, H⟩ := H
    replace H : (calamusref02_Lay.l0 k a1 l2 t270 (l2.length : Int) 0) = some (r1, r2) := H
    have A6 := Aside0.mk A60
    clear A60
    have H' := Aside0.mk H
    clear H
    go_enter Try.func44, Try.ntmps44
    go_wp2_with (first | ((with_reducible refine gate_callee (f := 78) rfl ?_); refine goesL_ (some 14) rfl rfl Try.func78 (by kernel_rfl) rfl #[.slice A0 l0.length c0, .int .i64 a1, .int .i64 (l2.length : Int)] rfl (by (try simp only [List.map_toArray, List.map_cons, List.map_nil]); first | done | rfl | (simp only [List.length_drop, List.length_take]; rfl)) ?_; (with_reducible refine (calamusref02_There.calls _ _ l0 a1 (l2.length : Int) true _ ?side1 ?side2 A4.out).mono ?_); (case side1 => repeat (first | exact HR0.out | (with_reducible refine Kd.C_alloc ?_ _) | (with_reducible refine Kd.C_drewN ?_ _) | (with_reducible refine Kd.C_drew ?_))); (case side2 => exact HC0.out); rintro e w' ⟨rfl, ⟨nd, rfl⟩⟩; refine ⟨_, rfl, ?_⟩) | ((with_reducible refine gate_callee (f := 26) rfl ?_); refine goesL_ (some 17) rfl rfl Try.func26 (by kernel_rfl) rfl #[.slice A0 l0.length c0] rfl (by (try simp only [List.map_toArray, List.map_cons, List.map_nil]); first | done | rfl | (simp only [List.length_drop, List.length_take]; rfl)) ?_; (with_reducible refine (calamusref02_Copy.calls _ _ l0 t270 _ ?side1 ?side2 A6.out).mono ?_); (case side1 => repeat (first | exact HR0.out | (with_reducible refine Kd.C_alloc ?_ _) | (with_reducible refine Kd.C_drewN ?_ _) | (with_reducible refine Kd.C_drew ?_))); (case side2 => exact HC0.out); rintro e w7 ⟨v271, rfl, ho0, hb⟩; refine ⟨_, rfl, ?_⟩; have n0_ := Aside0.mk (Kd.R_lower ho0 (below_size (by repeat (first | (with_reducible first | exact HB.out | apply below_alloc | apply pw_below_drewN | apply below_drew1) | exact HB.out)))); have n1_ := Aside0.mk (below_step (by repeat (first | (with_reducible first | exact HB.out | apply below_alloc | apply pw_below_drewN | apply below_drew1) | exact HB.out)) hb); clear HB; have HO272 := n0_; have HB := n1_; clear n0_ n1_; (try clear hb); (try clear hb2); (try clear hk); (try clear hi); (try clear ho0)))
    go_loopg [20] k (fun kq v20 w' => ∃ (x8_1 : List Int) (x20_1 : Int), v20 = .int .i64 x20_1 ∧ Aside0 (calamusref02_Lay.l0 kq a1 l2 x8_1 (l2.length : Int) x20_1 = some (r1, r2)) ∧ Aside0 (kq ≤ k) ∧ Aside0 (Kd.R (Kd.int .u8) 5 w' w.heap.size (fun _ => True) v271 x8_1) ∧ Aside0 (Below w.heap.size w w'))
    case atStart => exact ⟨(t270), (0), (by first | rfl | (simp; done) | (simp [*]; done)), H', ⟨Nat.le_refl _⟩, ⟨by (with_reducible repeat (first | apply Kd.R_alloc | apply Kd.R_drewN | apply Kd.R_drew)); exact HO272.out⟩, ⟨by repeat (first | (with_reducible first | exact HB.out | apply below_alloc | apply pw_below_drewN | apply below_drew1) | exact HB.out)⟩⟩
    case round =>
      clear H'
      try clear c2
      try clear p2
      try clear c4
      try clear c5
      try clear c7
      obtain ⟨x8_1, x20_1, rfl, HA, HK1, HO_8, HB⟩ := hrel
      cases gk with
      | zero => exact absurd HA.out (by simp [calamusref02_Lay.l0])
      | succ k1 =>
        have H := HA.out
        clear HA
        simp only [calamusref02_Lay.l0] at H
        by_cases c8 : x20_1 < (l2.length : Int)
        · rw [if_pos c8] at H
          have c8b0 : decide (x20_1 < (l2.length : Int)) = true := decide_eq_true c8
          clear c8
          by_cases c9 : 0 ≤ x20_1
          · rw [if_pos c9] at H
            have c9b0 : decide (0 ≤ x20_1) = true := decide_eq_true c9
            clear c9
            by_cases c10 : x20_1 < (l2.length : Int)
            · rw [if_pos c10] at H
              have c10b0 : decide (x20_1 < (l2.length : Int)) = true := decide_eq_true c10
              clear c10
              obtain ⟨ji11, hji11⟩ : ∃ j_ : Int, (wrap64 (a1 + x20_1)) = j_ := ⟨_, rfl⟩
              replace H : (if 0 ≤ (ji11) then (if (ji11) < (x8_1.length : Int) then (calamusref02_Lay.l0 k1 a1 l2 (x8_1.set ((ji11) : Int).toNat (rd l2 x20_1)) (l2.length : Int) (wrap64 (x20_1 + 1))) else (none)) else (none)) = some (r1, r2) := by first | (rw [hji11] at H; exact H) | (simp only [hji11] at H ⊢; exact H)
              have hji11w : (IntKind.i64.wrap (a1 + x20_1)) = ji11 := (i64_w _).trans hji11
              by_cases c12 : 0 ≤ (ji11)
              · rw [if_pos c12] at H
                have c12b0 : decide (0 ≤ (ji11)) = true := decide_eq_true c12
                clear c12
                by_cases c13 : (ji11) < (x8_1.length : Int)
                · rw [if_pos c13] at H
                  have c13b0 : decide ((ji11) < (x8_1.length : Int)) = true := decide_eq_true c13
                  clear c13
                  obtain ⟨y274, hy274⟩ : ∃ y_ : List Int, y_ = (x8_1.set ((ji11) : Int).toNat (rd l2 x20_1)) := ⟨_, rfl⟩
                  replace H : (calamusref02_Lay.l0 k1 a1 l2 y274 (l2.length : Int) (wrap64 (x20_1 + 1))) = some (r1, r2) := by first | (rw [hy274]; with_reducible exact H) | (have H2_ := (Option.bind_some _ _).symm.trans H; rw [hy274]; with_reducible exact H2_) | (have H2_ := (Option.bind_some _ _).symm.trans H; with_reducible exact H2_) | with_reducible exact H | (rw [hy274]; exact H) | exact H
                  have Ny274 := Aside0.mk hy274
                  clear hy274
                  have H' := Aside0.mk H
                  clear H
                  have p273 : 0 ≤ (x20_1 : Int) := of_decide_eq_true (by first | (with_reducible assumption) | assumption)
                  have q273 : x20_1 < (l2.length : Int) := of_decide_eq_true (by first | (with_reducible assumption) | assumption)
                  obtain ⟨ad273, e273, hx273_0⟩ := Kd.at_int HR2.out x20_1 p273 q273
                  cases e273
                  replace hx273_0 := (HB.out.cell (World.block_lt_of_cell? w _ hx273_0)).trans hx273_0
                  replace p273 := eq_true p273
                  replace q273 := eq_true q273
                  have p14 : 0 ≤ ((ji11) : Int) := of_decide_eq_true (by first | (with_reducible assumption) | assumption)
                  have q14 : ((ji11) : Int) < ((x8_1.length : Int) : Int) := of_decide_eq_true (by first | (with_reducible assumption) | assumption)
                  obtain ⟨go14, co14, eo14, gb14, gl14, cl14, HG14⟩ := Kd.R_form HO_8.out (by omega)
                  (first | cases eo14 | (injection eo14 with ea_ en_ ec_; (first | subst ea_ | (injection ea_ with ea_; subst ea_)); subst ec_; clear en_))
                  have GB14 := Aside0.mk gb14
                  have GG14 := Aside0.mk HG14
                  clear gb14 gl14 HG14
                  obtain ⟨hx14_0, hf14_0⟩ := Kd.R_celln 0 HO_8.out ((ji11) : Int) p14 q14
                  replace p14 := eq_true p14
                  replace q14 := eq_true q14
                  have HP15 := Kd.R_putg HO_8.out ((ji11) : Int) (rd l2 x20_1)
                  go_wp2_with (first | ((with_reducible refine gate_store (t := 5) (p := 31) rfl ?_); refine store_event (t := 5) (p := 31) (v := ?vo_w16) (w1 := (wr.setCell ⟨go14, ((ji11) : Int).toNat, none⟩ (.int .u8 (rd l2 x20_1)))) ?hg ?ho ?hn ?hr ?_; (case ho => rfl); (case hg => rfl); (case hn => rfl); (case hr => first | (go_simp; done) | (go_simp; rfl)); intro w16 hw; have hg : wr.grownBy w16 (some go14) := (by rw [hw]; exact HP15.2); have hp_ : Kd.R (Kd.int .u8) 5 w16 w.heap.size (fun _ => True) (.slice (some ⟨go14, 0, none⟩) x8_1.length co14) y274 := (by rw [hw, Ny274.out]; exact HP15.1); clear HP15; have n0_ := Aside0.mk (hp_); have n1_ := Aside0.mk ((by rw [hw]; exact below_set (HB.out) GB14.out : Below w.heap.size w w16)); clear HO_8; clear HB; have HO_8 := n0_; have HB := n1_; clear n0_ n1_; clear hg hw hp_))
                  go_roundg k1
                  case measure => have := HK1.out; omega
                  case rel => exact ⟨(y274), (wrap64 (x20_1 + 1)), (by first | rfl | (simp; done) | (simp [*]; done)), H', ⟨by have := HK1.out; omega⟩, ⟨by (with_reducible repeat (first | apply Kd.R_alloc | apply Kd.R_drewN | apply Kd.R_drew)); exact HO_8.out⟩, ⟨by repeat (first | (with_reducible first | exact HB.out | apply below_alloc | apply pw_below_drewN | apply below_drew1) | exact HB.out)⟩⟩
                · rw [if_neg c13] at H
                  exact absurd H (by simp)
              · rw [if_neg c12] at H
                exact absurd H (by simp)
            · rw [if_neg c10] at H
              exact absurd H (by simp)
          · rw [if_neg c9] at H
            exact absurd H (by simp)
        · rw [if_neg c8] at H
          have c8b0 : decide (x20_1 < (l2.length : Int)) = false := decide_eq_false c8
          clear c8
          simp only [Option.some.injEq, Prod.mk.injEq] at H
          obtain ⟨rfl, rfl⟩ := H
          go_wp2
          go_ret2
          exact ⟨_, by first | rfl | (simp [errW_none, errW_some] <;> rfl) | (simp [*, errW_none, errW_some] <;> rfl), by (with_reducible repeat (first | apply Kd.R_alloc | apply Kd.R_drewN | apply Kd.R_drew)); exact HO_8.out, by repeat (first | (with_reducible first | exact HB.out | apply below_alloc | apply pw_below_drewN | apply below_drew1) | exact HB.out)⟩
  · replace c5 := Bool.eq_false_iff.mpr c5
    subst c5
    have H1 : (some (([] : List Int), 3)) = some (r1, r2) := by rw [if_neg (show ¬ (false = true) by decide)] at H; exact H
    clear H
    have H := H1
    clear H1
    simp only [Option.some.injEq, Prod.mk.injEq] at H
    obtain ⟨rfl, rfl⟩ := H
    go_enter Try.func44, Try.ntmps44
    go_wp2_with (first | ((with_reducible refine gate_callee (f := 78) rfl ?_); refine goesL_ (some 14) rfl rfl Try.func78 (by kernel_rfl) rfl #[.slice A0 l0.length c0, .int .i64 a1, .int .i64 (l2.length : Int)] rfl (by (try simp only [List.map_toArray, List.map_cons, List.map_nil]); first | done | rfl | (simp only [List.length_drop, List.length_take]; rfl)) ?_; (with_reducible refine (calamusref02_There.calls _ _ l0 a1 (l2.length : Int) false _ ?side1 ?side2 A4.out).mono ?_); (case side1 => repeat (first | exact HR0.out | (with_reducible refine Kd.C_alloc ?_ _) | (with_reducible refine Kd.C_drewN ?_ _) | (with_reducible refine Kd.C_drew ?_))); (case side2 => exact HC0.out); rintro e w' ⟨rfl, ⟨nd, rfl⟩⟩; refine ⟨_, rfl, ?_⟩))
    go_ret2
    exact ⟨_, by first | rfl | (simp [errW_none, errW_some] <;> rfl) | (simp [*, errW_none, errW_some] <;> rfl), by first | exact Kd.R_nil _ _ _ _ _ | exact Kd.N_nil _ _ _ _ _ | exact Kd.V_nil _ _ _ _ _ | exact Kd.Q_nil _ _ _ _ _ | exact Kd.S_nil _ _ _ _ _, by repeat (first | (with_reducible first | exact HB.out | apply below_alloc | apply pw_below_drewN | apply below_drew1) | exact HB.out)⟩

end Go.Proofs.Ytcclmaicdmogjaa.P

-- Written by wip/pr.py over the kit's print
namespace Go.Proofs.Ytcclmaicdmogjaa.P
open Go.RowKit Go.Proofs.YtcclmaicdmogjaaW.PrintWords Go.Proofs.YtcclmaicdmogjaaW.PrintLast Go.Proofs.YtcclmaicdmogjaaW.PrintMore
attribute [local go_sem] max2_int min2_int max_two min_two max_three min_three max_four min_four   -- for this text's walks alone
set_option linter.unusedVariables false
set_option linter.unusedSimpArgs false

/-! ### calamusref02_Pad: function 46 -/
def calamusref02_Pad.l0 : Nat → Int → List Int → Option (List Int)
  | 0, _, _ => none
  | k + 1, x1, x5 => if (mx 1 (mn x1 16)) = 0 then (none) else (if ((x5.length : Int) % (mx 1 (mn x1 16))) = 0 then (some x5) else (if x5.length < 140737488355328 then (calamusref02_Pad.l0 k x1 (x5 ++ [0])) else (none)))
def calamusref02_Pad.f (k : Nat) (l0 : List Int) (a1 : Int) : Option (List Int) := (calamusref02_Copy.f l0).bind fun t275 => (calamusref02_Pad.l0 k a1 t275)
theorem calamusref02_Pad.mono_l : ∀ k, (∀ y0 y1, LeO (calamusref02_Pad.l0 k y0 y1) (calamusref02_Pad.l0 (k + 1) y0 y1))
  | 0 => fun _ _ r h => by simp [calamusref02_Pad.l0] at h
  | k + 1 => by
    have ih0 := calamusref02_Pad.mono_l k
    · intro y0 y1
      unfold calamusref02_Pad.l0
      repeat' first
      | (with_reducible exact ih0 _ _)
      | (with_reducible exact LeO.refl _)
      | (with_reducible exact LeO.none _)
      | (with_reducible refine LeO.ite ?_ ?_)
      | (with_reducible refine LeO.bind ?_ (fun _ => ?_))
      | exact ih0 _ _
      | exact LeO.none _
      | refine LeO.ite ?_ ?_
      | refine LeO.bind ?_ (fun _ => ?_)
theorem calamusref02_Pad.mono : ∀ a0 a1 k, LeO (calamusref02_Pad.f k a0 a1) (calamusref02_Pad.f (k + 1) a0 a1) := by
  intro a0 a1 k
  have ih0 := calamusref02_Pad.mono_l k
  unfold calamusref02_Pad.f
  repeat' first
      | (with_reducible exact ih0 _ _)
      | (with_reducible exact LeO.refl _)
      | (with_reducible exact LeO.none _)
      | (with_reducible refine LeO.ite ?_ ?_)
      | (with_reducible refine LeO.bind ?_ (fun _ => ?_))
      | exact ih0 _ _
      | exact LeO.none _
      | refine LeO.ite ?_ ?_
      | refine LeO.bind ?_ (fun _ => ?_)
set_option maxHeartbeats 8000000 in
set_option maxRecDepth 100000 in
theorem calamusref02_Pad.calls (k : Nat) (A0 : Option Addr) (c0 : Nat) (l0 : List Int) (a1 : Int) (r : List Int) (w : World) (hr0 : Kd.C (Kd.int .u8) w A0 l0.length l0) (hc0 : l0.length ≤ c0) (h : calamusref02_Pad.f k l0 a1 = some r) :
    Calls Try.prog 46 #[.slice A0 l0.length c0, .int .i64 a1] w fun e w' => ∃ v0_ : Value, e = .returned (v0_) ∧ Kd.R (Kd.int .u8) 5 w' w.heap.size (fun _ => True) v0_ r ∧ Below w.heap.size w w' := by
  have HR0 := Aside0.mk hr0
  have HC0 := Aside0.mk hc0
  clear hr0 hc0
  have HB := Aside0.mk (Below.refl w.heap.size w)
  have H : ((calamusref02_Copy.f l0).bind fun t275 => (calamusref02_Pad.l0 k a1 t275)) = some r := h
  clear h
  replace H := Option.bind_eq_some_iff.mp H
  obtain ⟨t275, A30, H⟩ := H
  replace H : (calamusref02_Pad.l0 k a1 t275) = some r := H
  have A3 := Aside0.mk A30
  clear A30
  have H' := Aside0.mk H
  clear H
  go_enter Try.func46, Try.ntmps46
  go_wp2_with (first | ((with_reducible refine gate_callee (f := 26) rfl ?_); refine goesL_ (some 7) rfl rfl Try.func26 (by kernel_rfl) rfl #[.slice A0 l0.length c0] rfl (by (try simp only [List.map_toArray, List.map_cons, List.map_nil]); first | done | rfl | (simp only [List.length_drop, List.length_take]; rfl)) ?_; (with_reducible refine (calamusref02_Copy.calls _ _ l0 t275 _ ?side1 ?side2 A3.out).mono ?_); (case side1 => repeat (first | exact HR0.out | (with_reducible refine Kd.C_alloc ?_ _) | (with_reducible refine Kd.C_drewN ?_ _) | (with_reducible refine Kd.C_drew ?_))); (case side2 => exact HC0.out); rintro e w4 ⟨v276, rfl, ho0, hb⟩; refine ⟨_, rfl, ?_⟩; have n0_ := Aside0.mk (Kd.R_lower ho0 (below_size (by repeat (first | (with_reducible first | exact HB.out | apply below_alloc | apply pw_below_drewN | apply below_drew1) | exact HB.out)))); have n1_ := Aside0.mk (below_step (by repeat (first | (with_reducible first | exact HB.out | apply below_alloc | apply pw_below_drewN | apply below_drew1) | exact HB.out)) hb); clear HB; have HO277 := n0_; have HB := n1_; clear n0_ n1_; (try clear hb); (try clear hb2); (try clear hk); (try clear hi); (try clear ho0)))
  go_loopg [5] k (fun kq v5 w' => ∃ (x5_1 : List Int), Aside0 (calamusref02_Pad.l0 kq a1 x5_1 = some r) ∧ Aside0 (kq ≤ k) ∧ Aside0 (Kd.R (Kd.int .u8) 5 w' w.heap.size (fun _ => True) v5 x5_1) ∧ Aside0 (Below w.heap.size w w'))
  case atStart => exact ⟨(t275), H', ⟨Nat.le_refl _⟩, ⟨by (with_reducible repeat (first | apply Kd.R_alloc | apply Kd.R_drewN | apply Kd.R_drew)); exact HO277.out⟩, ⟨by repeat (first | (with_reducible first | exact HB.out | apply below_alloc | apply pw_below_drewN | apply below_drew1) | exact HB.out)⟩⟩
  case round =>
    clear H'
    try clear c2
    try clear p2
    try clear c4
    obtain ⟨x5_1, HA, HK1, HO_5, HB⟩ := hrel
    cases gk with
    | zero => exact absurd HA.out (by simp [calamusref02_Pad.l0])
    | succ k1 =>
      have H := HA.out
      clear HA
      simp only [calamusref02_Pad.l0] at H
      obtain ⟨ji5, hji5⟩ : ∃ j_ : Int, (mn a1 16) = j_ := ⟨_, rfl⟩
      replace H : (if (mx 1 (ji5)) = 0 then (none) else (if ((x5_1.length : Int) % (mx 1 (ji5))) = 0 then (some x5_1) else (if x5_1.length < 140737488355328 then (calamusref02_Pad.l0 k1 a1 (x5_1 ++ [0])) else (none)))) = some r := by first | (rw [hji5] at H; exact H) | (simp only [hji5] at H ⊢; exact H)
      have hji5_ : (if 16 < a1 then 16 else a1) = ji5 := hji5
      obtain ⟨ji6, hji6⟩ : ∃ j_ : Int, (mx 1 (ji5)) = j_ := ⟨_, rfl⟩
      replace H : (if (ji6) = 0 then (none) else (if ((x5_1.length : Int) % (ji6)) = 0 then (some x5_1) else (if x5_1.length < 140737488355328 then (calamusref02_Pad.l0 k1 a1 (x5_1 ++ [0])) else (none)))) = some r := by first | (rw [hji6] at H; exact H) | (simp only [hji6] at H ⊢; exact H)
      have hji6_ : (if 1 < (ji5) then (ji5) else 1) = ji6 := hji6
      by_cases c7 : (ji6) = 0
      · rw [if_pos c7] at H
        exact absurd H (by simp)
      · rw [if_neg c7] at H
        have c7b0 : ((ji6) == 0) = false := beq_eq_false_iff_ne.mpr c7
        have c7b1 : ((ji6) != 0) = true := bne_iff_ne.mpr c7
        by_cases c8 : ((x5_1.length : Int) % (ji6)) = 0
        · rw [if_pos c8] at H
          have c8b0 : (((x5_1.length : Int) % (ji6)) == 0) = true := beq_iff_eq.mpr c8
          have c8b1 : (((x5_1.length : Int) % (ji6)) != 0) = false := bne_eq_false_iff_eq.mpr c8
          clear c8
          obtain rfl := Option.some.inj H
          obtain ⟨Ao9, co9, eo9⟩ := Kd.R_slice HO_5.out
          subst eo9
          go_wp2
          go_ret
          exact ⟨_, by first | rfl | (simp [errW_none, errW_some] <;> rfl) | (simp only [← hji5, ← hji6]; first | rfl | (simp [errW_none, errW_some] <;> rfl)) | (simp [*, errW_none, errW_some] <;> rfl), by (with_reducible repeat (first | apply Kd.R_alloc | apply Kd.R_drewN | apply Kd.R_drew)); exact HO_5.out, by repeat (first | (with_reducible first | exact HB.out | apply below_alloc | apply pw_below_drewN | apply below_drew1) | exact HB.out)⟩
        · rw [if_neg c8] at H
          have c8b0 : (((x5_1.length : Int) % (ji6)) == 0) = false := beq_eq_false_iff_ne.mpr c8
          have c8b1 : (((x5_1.length : Int) % (ji6)) != 0) = true := bne_iff_ne.mpr c8
          by_cases c10 : x5_1.length < 140737488355328
          · rw [if_pos c10] at H
            have LMc10 := Aside0.mk c10
            clear c10
            obtain ⟨y278, hy278⟩ : ∃ y_ : List Int, y_ = (x5_1 ++ [0]) := ⟨_, rfl⟩
            replace H : (calamusref02_Pad.l0 k1 a1 y278) = some r := by first | (rw [hy278]; with_reducible exact H) | (have H2_ := (Option.bind_some _ _).symm.trans H; rw [hy278]; with_reducible exact H2_) | (have H2_ := (Option.bind_some _ _).symm.trans H; with_reducible exact H2_) | with_reducible exact H | (rw [hy278]; exact H) | exact H
            have Ny278 := Aside0.mk hy278
            clear hy278
            have H' := Aside0.mk H
            clear H
            obtain ⟨Ao11, co11, eo11⟩ := Kd.R_slice HO_5.out
            subst eo11
            go_wp2_with (first | ((with_reducible refine gate_builtin (b := .append) (xs := #[.tmp 15, .tmp 16]) rfl ?_); at_builtin; refine Kd.R_append (Kd.int .u8) (w0 := w) w.heap.size rfl (.tmp 15) (.tmp 16) 23 5 (.int .u8 0) 1 rfl Try.underlying23 info5 rfl (by decide) (by omega) (.slice Ao11 x5_1.length co11) x5_1 0 [.int .u8 0] (fun _ => True) (fun _ => False) rfl rfl ?aP (fun _ hk => hk.elim) ?aF ?aO ?aB ?aS ?aL ?_; (case aP => exact rfl); (case aB => exact (by repeat (first | (with_reducible first | exact HB.out | apply below_alloc | apply pw_below_drewN | apply below_drew1) | exact HB.out))); (case aF => exact (fun _ _ => trivial)); (case aO => exact (by (with_reducible repeat (first | apply Kd.R_alloc | apply Kd.R_drewN | apply Kd.R_drew)); exact HO_5.out)); (case aS => exact (below_size (by repeat (first | (with_reducible first | exact HB.out | apply below_alloc | apply pw_below_drewN | apply below_drew1) | exact HB.out)))); (case aL => have := LMc10.out; omega); intro v279 w12 ho hb hg hat; rw [← Ny278.out] at ho; have n0_ := Aside0.mk (hb); have n1_ := Aside0.mk (ho); clear HB; clear HO_5; have HB := n0_; have HO280 := n1_; clear n0_ n1_; clear ho hb hg hat))
            go_roundg k1
            case measure => have := HK1.out; omega
            case rel => exact ⟨(y278), H', ⟨by have := HK1.out; omega⟩, ⟨by (with_reducible repeat (first | apply Kd.R_alloc | apply Kd.R_drewN | apply Kd.R_drew)); exact HO280.out⟩, ⟨by repeat (first | (with_reducible first | exact HB.out | apply below_alloc | apply pw_below_drewN | apply below_drew1) | exact HB.out)⟩⟩
          · rw [if_neg c10] at H
            exact absurd H (by simp)

end Go.Proofs.Ytcclmaicdmogjaa.P
