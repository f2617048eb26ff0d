import Derived.Below
import Derived.Deep.Draws
import Derived.Deep.AppendLies
import Derived.Maps.AppendAt
import Derived.OwnWalk
import Derived.Laws.BytesArg
import Derived.Laws.MakeOwn
import Derived.Laws.OwnMore
import Derived.Deep.OwnRows
import Derived.Tactics
import Derived.Lib.ConvBytes
import Derived.Laws.Slices
import Derived.WalkKit
import Derived.KernelRfl
import Derived.RowKit3
import Derived.Deep.LoopGhost
import Derived.Deep.QuietTactic
import Derived.BigQuiet
import Derived.WideLaws
import Derived.Deep.DeepCutAuto
import Derived.Deep.CutBlock
import Derived.Deep.RegionHeld3
import Derived.Laws.Rows
import Derived.Lib.AppendStr
import Derived.ArgAppend
import Derived.Laws.IdiomCopy
import Derived.OrdersHeld
import Derived.Laws.BitsLemmas
import Derived.RowKit
import Derived.Test.YtcclmaicdmogjaaDoorWWords
import Derived.Test.YtcclmaicdmogjaaDoorWLast
import Derived.Test.YtcclmaicdmogjaaDoorWTab
import Derived.Test.YtcclmaicdmogjaaDoorWFour
import Derived.Test.YtcclmaicdmogjaaDoorWQPut
import Derived.Test.YtcclmaicdmogjaaDoorWApart
import Derived.Test.YtcclmaicdmogjaaDoorWArr
import Derived.Test.YtcclmaicdmogjaaDoorWZeros
import Derived.Test.YtcclmaicdmogjaaDoorWFoot
import Derived.Test.YtcclmaicdmogjaaDoorWKept
import Derived.Test.YtcclmaicdmogjaaDoorWShare
import Derived.Test.YtcclmaicdmogjaaDoorWN
import Derived.Test.YtcclmaicdmogjaaDoorWFootNe
import Derived.Test.YtcclmaicdmogjaaDoorWAt
import Derived.Test.YtcclmaicdmogjaaDoorWEqStruct
import Derived.Test.YtcclmaicdmogjaaDoorWRepsOne
import Derived.Test.YtcclmaicdmogjaaDoorWInv
import Derived.Test.YtcclmaicdmogjaaDoorWInvWords
import Derived.Test.YtcclmaicdmogjaaDoorWGuard
import Derived.Test.YtcclmaicdmogjaaDoorWNEv
import Derived.Test.YtcclmaicdmogjaaDoorWMore
namespace Go.Proofs.YtcclmaicdmogjaaDoor.P
open Go.RowKit Go.Proofs.YtcclmaicdmogjaaDoorW.PrintWords Go.Proofs.YtcclmaicdmogjaaDoorW.PrintLast Go.Proofs.YtcclmaicdmogjaaDoorW.PrintMore
/-- Each of these numbers is a byte. -/
def isBytes (l : List Int) : Prop := ∀ x ∈ l, 0 ≤ x ∧ x ≤ 255
instance (l : List Int) : Decidable (isBytes l) := inferInstanceAs (Decidable (∀ x ∈ l, 0 ≤ x ∧ x ≤ 255))
theorem isBytes.get {l : List Int} (h : isBytes l) (i : Nat) : 0 ≤ l.getD i 0 ∧ l.getD i 0 ≤ 255 := by
  rw [List.getD_eq_getElem?_getD]
  rcases Nat.lt_or_ge i l.length with hi | hi
  · rw [List.getElem?_eq_getElem hi]; exact h _ (List.getElem_mem hi)
  · rw [List.getElem?_eq_none hi]; simp
theorem isBytes.drop {l : List Int} (h : isBytes l) (n : Nat) : isBytes (l.drop n) := fun x hx => h x (List.mem_of_mem_drop hx)
theorem isBytes.take {l : List Int} (h : isBytes l) (n : Nat) : isBytes (l.take n) := fun x hx => h x (List.mem_of_mem_take hx)
theorem isBytes.app {l m : List Int} (h : isBytes l) (h' : isBytes m) : isBytes (l ++ m) := fun x hx => (List.mem_append.1 hx).elim (h x) (h' x)
/-- The sum of bytes by words of four. -/
def tsum : List Int → Int
  | a :: b :: c :: d :: r => a * 16777216 + b * 65536 + c * 256 + d + tsum r
  | [a, b, c] => a * 16777216 + b * 65536 + c * 256
  | [a, b] => a * 16777216 + b * 65536
  | [a] => a * 16777216
  | [] => 0
/-- The number of the first k bytes. -/
def pre (l : List Int) (k : Nat) : Int := (l.take k).foldl (fun n x => n * 256 + x) 0
theorem pre_zero (l : List Int) : pre l 0 = 0 := rfl
theorem pre_succ (l : List Int) (k : Nat) (h : k < l.length) : pre l (k + 1) = pre l k * 256 + l.getD k 0 := by
  unfold pre
  rw [List.take_succ_eq_append_getElem h, List.foldl_append]
  simp [List.getD_eq_getElem?_getD, List.getElem?_eq_getElem h]
theorem pre_bd (l : List Int) (h : isBytes l) (k : Nat) (hk : k ≤ l.length) : 0 ≤ pre l k ∧ pre l k < 256 ^ k := by
  induction k with
  | zero => simp [pre_zero]
  | succ k ih =>
    have := ih (by omega)
    have hg := h.get k
    rw [pre_succ l k (by omega), Int.pow_succ]
    omega
theorem u32_or8 (x y : Int) (hx₀ : 0 ≤ x) (hx : x % 256 = 0) (hx₁ : x < 4294967296) (h₀ : 0 ≤ y) (h₁ : y < 256) : bits .or .u32 x y = x + y :=
  bits_join .u32 32 (by decide) (fun n h0 h1 => by rw [IntKind.wrap_u32]; omega) 8 x y hx₀ hx hx₁ h₀ h₁ (by omega)
theorem i64_or8 (x y : Int) (hx₀ : 0 ≤ x) (hx : x % 256 = 0) (hx₁ : x < 4611686018427387904) (h₀ : 0 ≤ y) (h₁ : y < 256) : bits .or .i64 x y = x + y :=
  bits_join .i64 62 (by decide) (fun n h0 h1 => by rw [IntKind.wrap_i64]; omega) 8 x y hx₀ hx hx₁ h₀ h₁ (by omega)
theorem tsum_short (l : List Int) (h : l.length < 4) : tsum l = pre l l.length * 256 ^ (4 - l.length) := by
  match l, h with
  | [], _ => rfl
  | [a], _ => simp only [tsum, pre, List.length, List.take, List.foldl]; omega
  | [a, b], _ => simp only [tsum, pre, List.length, List.take, List.foldl]; omega
  | [a, b, c], _ => simp only [tsum, pre, List.length, List.take, List.foldl]; omega
  | _ :: _ :: _ :: _ :: _, h => exact absurd h (by simp only [List.length]; omega)
theorem tsum_long (l : List Int) (h : 4 ≤ l.length) : tsum l = pre l 4 + tsum (l.drop 4) := by
  match l, h with
  | a :: b :: c :: d :: r, _ => simp only [tsum, pre, List.take, List.foldl, List.drop]; omega
  | [], h => simp at h
  | [_], h => simp at h
  | [_, _], h => simp at h
  | [_, _, _], h => simp at h
theorem C_at {k : IntKind} {w : World} {A : Option Addr} {l : List Int} (h : (Kd.int k).C w A l.length l) (i : Nat) (hi : i < l.length) : ∃ ad y, A = some ad ∧ w.cell? (ad.add i) = some (.int k y) ∧ Aside0 (l.getD i 0 = y) := by
  obtain ⟨ad, e, hc⟩ := Kd.at_int h (i : Int) (by omega) (by omega)
  exact ⟨ad, l.getD i 0, e, by simpa [rd] using hc, ⟨rfl⟩⟩
theorem byte_at {l : List Int} (h : isBytes l) {i : Nat} {y : Int} (hy : Aside0 (l.getD i 0 = y)) : 0 ≤ y ∧ y ≤ 255 := by have := h.get i; have := hy.out; omega
theorem C_cut {P : Program} {k : IntKind} (t e : TypeId) {i : TypeInfo} (ht : P.underlying t = some (.slice e)) (hi : P.info? e = some i) (hsz : i.size = 1) (A : Option Addr) (c : Nat) (xs : List Int) (j : Nat) (hm : j ≤ xs.length) (hc : xs.length ≤ c) :
    ∃ A' : Option Addr, (∀ W : World, (Instr.slice t (.slice A xs.length c) (some (.int .i64 (j : Int))) none none).run P W = .ok (.slice A' (xs.drop j).length (c - j)) W) ∧
      (∀ w : World, (Kd.int k).C w A xs.length xs → (Kd.int k).C w A' (xs.drop j).length (xs.drop j)) ∧ (xs.drop j).length ≤ c - j := by
  obtain ⟨A', h1, h2, h3⟩ := print_cut_int (P := P) (k := k) t e ht hi hsz A c xs (j : Int) (by omega) (by omega) hc
  exact ⟨A', h1, fun w h => Kd.C_of_reads (d := (0 : Int)) (h1 := fun _ => rfl) (h2 w (Kd.reads_of_C (enc := Value.int k) (d := (0 : Int)) (h1 := fun _ => rfl) h)), h3⟩
theorem ret_int {k : IntKind} {a b : Int} (h : a = b) : Ending.returned (.int k a) = Ending.returned (.int k b) := by rw [h]
theorem tsum_end {s r : Int} {k : Nat} {l : List Int} (hk : k = l.length) (h4 : k < 4) (hr : (s + tsum l) % 4294967296 = r) : (s + pre l k * 2 ^ (8 * (4 - k)) % 4294967296) % 4294967296 = r := by
  rw [← hr, tsum_short l (by omega), ← hk]
  have : (2 : Int) ^ (8 * (4 - k)) = 256 ^ (4 - k) := by
    have : k = 0 ∨ k = 1 ∨ k = 2 ∨ k = 3 := by omega
    rcases this with rfl | rfl | rfl | rfl <;> decide
  rw [this]
  omega
theorem C_midc {P : Program} {k : IntKind} (t e : TypeId) {i : TypeInfo} (ht : P.underlying t = some (.slice e)) (hi : P.info? e = some i) (hsz : i.size = 1) (A : Option Addr) (c : Nat) (xs : List Int) (a b : Int) (h0 : 0 ≤ a) (h1 : a ≤ b) (hm : b ≤ xs.length) (hc : xs.length ≤ c) :
    ∃ (A' : Option Addr) (xs' : List Int) (c' : Nat), (∀ W : World, (Instr.slice t (.slice A xs.length c) (some (.int .i64 a)) (some (.int .i64 b)) none).run P W = .ok (.slice A' xs'.length c') W) ∧
      (∀ w : World, (Kd.int k).C w A xs.length xs → (Kd.int k).C w A' xs'.length xs') ∧ xs'.length ≤ c' ∧ Aside0 (xs' = (xs.take b.toNat).drop a.toNat) := by
  obtain ⟨A', h1, h2, h3⟩ := print_mid_of (P := P) (Value.int k) 0 t e .i64 .i64 ht hi hsz A c xs a b h0 h1 hm hc
  exact ⟨A', _, _, h1, fun w h => Kd.C_of_reads (d := (0 : Int)) (h1 := fun _ => rfl) (h2 w (Kd.reads_of_C (enc := Value.int k) (d := (0 : Int)) (h1 := fun _ => rfl) h)), h3, ⟨rfl⟩⟩
/-- Within an int. -/
def inI (a : Int) : Prop := -9223372036854775808 ≤ a ∧ a ≤ 9223372036854775807
instance (a : Int) : Decidable (inI a) := inferInstanceAs (Decidable (_ ∧ _))
theorem ret_ints {k k' : IntKind} {a b c d : Int} (h : a = b) (h' : c = d) : Ending.returned (.tuple #[.int k a, .int k' c]) = Ending.returned (.tuple #[.int k b, .int k' d]) := by rw [h, h']
/-- The lowest k bytes of a number, the highest first. -/
def putB (n : Int) : Nat → List Int
  | 0 => []
  | k + 1 => (n / 256 ^ k % 256) :: putB n k
theorem putB_length (n : Int) (k : Nat) : (putB n k).length = k := by
  induction k with
  | zero => rfl
  | succ k ih => simp [putB, ih]
theorem putB_bytes (n : Int) (k : Nat) : isBytes (putB n k) := by
  induction k with
  | zero => intro x hx; simp [putB] at hx
  | succ k ih =>
    intro x hx
    simp only [putB, List.mem_cons] at hx
    rcases hx with rfl | hx
    · omega
    · exact ih x hx
theorem put_step (n : Int) (w k : Nat) (h : k < w) : (List.replicate (w - k) 0 ++ putB n k).set (w - 1 - k) (n / 256 ^ k % 256) = List.replicate (w - (k + 1)) 0 ++ putB n (k + 1) := by
  obtain ⟨m, hm⟩ : ∃ m, w - k = m + 1 := ⟨w - k - 1, by omega⟩
  rw [hm, show w - 1 - k = m by omega, show w - (k + 1) = m by omega, List.replicate_succ', List.append_assoc, List.set_append_right _ _ (by simp)]
  simp [putB]
/-- A width, bounded to 0 .. 8. -/
def widthB (a : Int) : Nat := (max 0 (min a 8)).toNat
theorem two_pow8 (k : Nat) : (2 : Int) ^ (8 * k) = 256 ^ k := by
  induction k with
  | zero => rfl
  | succ k ih => rw [show 8 * (k + 1) = 8 * k + 8 by omega, Int.pow_add, ih, Int.pow_succ]; rfl
/-- One more store of Put's. -/
theorem put_stored {e base g cap W k : Nat} {ok : Nat → Prop} {w : World} {n x : Int} (h : Kd.R (Kd.int .u8) e w base ok (.slice (some ⟨g, 0, none⟩) W cap) (List.replicate (W - k) 0 ++ putB n k)) (hk : k < W) (hx : x = n / 2 ^ (8 * k) % 256) :
    Kd.R (Kd.int .u8) e (w.setCell ⟨g, W - 1 - k, none⟩ (.int .u8 x)) base ok (.slice (some ⟨g, 0, none⟩) W cap) (List.replicate (W - (k + 1)) 0 ++ putB n (k + 1)) := by
  have := (Kd.R_putg h ((W - 1 - k : Nat) : Int) x).1
  rw [← put_step n W k hk, ← two_pow8, ← hx]
  exact this

end Go.Proofs.YtcclmaicdmogjaaDoor.P
