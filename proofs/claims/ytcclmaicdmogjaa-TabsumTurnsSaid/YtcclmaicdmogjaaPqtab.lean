import Derived.Test.YtcclmaicdmogjaaPx0
import Derived.Test.YtcclmaicdmogjaaPx2
import Derived.Test.YtcclmaicdmogjaaPx3
import Derived.Test.YtcclmaicdmogjaaPx4
import Derived.Test.YtcclmaicdmogjaaPx5
import Derived.Test.YtcclmaicdmogjaaPx6
import Derived.Test.YtcclmaicdmogjaaPx7
import Derived.Test.YtcclmaicdmogjaaPx8
import Derived.Test.YtcclmaicdmogjaaPx9
import Derived.Test.YtcclmaicdmogjaaPx10
namespace Go.Proofs.Ytcclmaicdmogjaa.P
open Go.RowKit Go.Proofs.YtcclmaicdmogjaaW.PrintWords Go.Proofs.YtcclmaicdmogjaaW.PrintLast Go.Proofs.YtcclmaicdmogjaaW.PrintMore
set_option linter.unusedVariables false
set_option linter.unusedSimpArgs false

-- USES calamusref03_Sum calamusref03_More calamusref03_Adjust calamusref02_Copy calamusref02_Same tabsum_More tabsum_Sum tabsum_Adjust calamuslaw03_alive
/-- The sum, byte by byte: each byte counts as much as its place in its word. -/
def ws : List Int → Nat → Int
  | [], _ => 0
  | a :: r, p => a * 256 ^ (3 - p % 4) + ws r (p + 1)
theorem ws_four (l : List Int) : ∀ p, ws l (p + 4) = ws l p := by
  induction l with
  | nil => intro p; rfl
  | cons a r ih => intro p; simp only [ws]; rw [show p + 4 + 1 = (p + 1) + 4 by omega, ih, show (p + 4) % 4 = p % 4 by omega]
theorem tsum_ws (n : Nat) : ∀ l : List Int, l.length ≤ n → tsum l = ws l 0 := by
  induction n using Nat.strongRecOn with
  | _ n ih =>
    intro l hl
    match l, hl with
    | [], _ => rfl
    | [a], _ => simp [tsum, ws]
    | [a, b], _ => simp [tsum, ws]
    | [a, b, c], _ => simp [tsum, ws]; omega
    | a :: b :: c :: d :: r, hl =>
      simp only [List.length] at hl
      have := ih (n - 4) (by omega) r (by omega)
      simp only [tsum, ws]
      rw [this, ← ws_four r 0]
      simp
      omega
theorem ws_bd (l : List Int) (h : isBytes l) : ∀ p, 0 ≤ ws l p := by
  induction l with
  | nil => intro p; simp [ws]
  | cons a r ih =>
    intro p
    have h1 := h a (by simp)
    have h2 := ih (fun x hx => h x (by simp [hx])) (p + 1)
    have h3 : (0 : Int) ≤ 256 ^ (3 - p % 4) := Int.pow_nonneg (by decide)
    have := Int.mul_nonneg h1.1 h3
    simp only [ws]; omega
theorem tsum_nonneg (l : List Int) (h : isBytes l) : 0 ≤ tsum l := by rw [tsum_ws l.length l (Nat.le_refl _)]; exact ws_bd l h 0
theorem refsum_inner (x0 : List Int) (s : Int) (len : Int) (i : Int) (d : Nat) : ∀ (k : Nat) (m : Int) (q : Int), 0 ≤ q → (q : Int) + d = 3 → 0 ≤ m → m * 256 ^ d ≤ 4294967295 → d < k →
    calamusref03_Sum.l1 k x0 s m q len i = calamusref03_Sum.l0 (k - d - 1) x0 (Int.tmod (IntKind.u64.wrap (s + m * 256 ^ d)) 4294967296) len (wrap64 (i + 1)) := by
  induction d with
  | zero =>
    intro k m q hq hd hm hb hk
    obtain ⟨k, rfl⟩ : ∃ j, k = j + 1 := ⟨k - 1, by omega⟩
    simp only [calamusref03_Sum.l1]
    rw [if_neg (by omega)]
    simp
  | succ d ih =>
    intro k m q hq hd hm hb hk
    obtain ⟨k, rfl⟩ : ∃ j, k = j + 1 := ⟨k - 1, by omega⟩
    simp only [calamusref03_Sum.l1]
    have h1 : m * 256 * 256 ^ d ≤ 4294967295 := by rw [Int.pow_succ] at hb; rw [Int.mul_assoc, Int.mul_comm 256]; exact hb
    have h256 : (1 : Int) ≤ 256 ^ d := Int.pow_pos (by decide)
    have h2 : m * 256 ≤ 4294967295 := by
      have : m * 256 * 1 ≤ m * 256 * 256 ^ d := Int.mul_le_mul_of_nonneg_left h256 (by omega)
      omega
    rw [if_pos (by omega), IntWalk.u64_in (m * 256) ⟨by omega, by omega⟩, IntWalk.wrap64_in (q + 1) ⟨by omega, by omega⟩, ih k (m * 256) (q + 1) (by omega) (by omega) (by omega) h1 (by omega)]
    rw [show k - d - 1 = k + 1 - (d + 1) - 1 by omega, Int.pow_succ, Int.mul_assoc, Int.mul_comm 256]
theorem refsum_loop (x0 : List Int) (hb : isBytes x0) (hlen : x0.length ≤ 9223372036854775806) (d : Nat) : ∀ (k n : Nat) (s : Int), n + d = x0.length → 0 ≤ s → s ≤ 4294967295 → 6 * d < k →
    calamusref03_Sum.l0 k x0 s (x0.length : Int) (n : Int) = some ((s + ws (x0.drop n) n) % 4294967296) := by
  induction d with
  | zero =>
    intro k n s hn hs0 hs1 hk
    obtain ⟨k, rfl⟩ : ∃ j, k = j + 1 := ⟨k - 1, by omega⟩
    simp only [calamusref03_Sum.l0]
    rw [if_neg (by omega), List.drop_eq_nil_of_le (by omega)]
    simp [ws]
  | succ d ih =>
    intro k n s hn hs0 hs1 hk
    obtain ⟨k, rfl⟩ : ∃ j, k = j + 1 := ⟨k - 1, by omega⟩
    simp only [calamusref03_Sum.l0]
    have hlt : n < x0.length := by omega
    rw [if_pos (by omega), if_pos (by omega), if_pos (by omega)]
    have hg := hb.get n
    have hrd : rd x0 (n : Int) = x0.getD n 0 := by simp [rd]
    have htm : Int.tmod (n : Int) 4 = ((n % 4 : Nat) : Int) := rfl
    have hp : (256 : Int) ^ (3 - n % 4) ≤ 16777216 := by
      have : n % 4 = 0 ∨ n % 4 = 1 ∨ n % 4 = 2 ∨ n % 4 = 3 := by omega
      rcases this with h | h | h | h <;> rw [h] <;> decide
    have hp0 : (0 : Int) ≤ 256 ^ (3 - n % 4) := Int.pow_nonneg (by decide)
    have hmul : x0.getD n 0 * 256 ^ (3 - n % 4) ≤ 255 * 16777216 := Int.mul_le_mul hg.2 hp hp0 (by decide)
    have hmul0 : 0 ≤ x0.getD n 0 * 256 ^ (3 - n % 4) := Int.mul_nonneg hg.1 hp0
    rw [hrd, htm, IntWalk.u64_in _ ⟨by omega, by omega⟩, refsum_inner x0 s _ _ (3 - n % 4) k _ _ (by omega) (by omega) hg.1 (by omega) (by omega)]
    rw [IntWalk.u64_in _ ⟨by omega, by omega⟩, Int.tmod_eq_emod_of_nonneg (by omega), IntWalk.wrap64_in _ ⟨by omega, by omega⟩]
    rw [show (n : Int) + 1 = ((n + 1 : Nat) : Int) by omega, ih _ (n + 1) _ (by omega) (by omega) (by omega) (by omega)]
    rw [List.drop_eq_getElem_cons hlt]
    simp only [ws]
    rw [show x0[n] = x0.getD n 0 by simp [List.getD_eq_getElem?_getD, List.getElem?_eq_getElem hlt]]
    congr 1
    omega
theorem refsum_eq (l : List Int) (hb : isBytes l) (hlen : l.length ≤ 9223372036854775806) (k : Nat) (hk : 6 * l.length < k) : calamusref03_Sum.f k l = some (tsum l % 4294967296) := by
  unfold calamusref03_Sum.f
  have := refsum_loop l hb hlen l.length k 0 0 (by omega) (by omega) (by omega) hk
  rw [show ((0 : Nat) : Int) = 0 from rfl] at this
  rw [this, tsum_ws l.length l (Nat.le_refl _)]
  simp
theorem more_eq (s : Int) (l : List Int) (hs : 0 ≤ s ∧ s ≤ 4294967295) (hb : isBytes l) : tabsum_More.f s l = some ((s + tsum l) % 4294967296) := by
  unfold tabsum_More.f; rw [if_pos ⟨hs, hb⟩]
theorem sum_eq (l : List Int) (hb : isBytes l) : tabsum_Sum.f l = some (tsum l % 4294967296) := by
  unfold tabsum_Sum.f; rw [more_eq 0 l (by decide) hb]; simp
theorem refmore_eq (s : Int) (l : List Int) (hs : 0 ≤ s ∧ s ≤ 4294967295) (hb : isBytes l) (hlen : l.length ≤ 9223372036854775806) (k : Nat) (hk : 6 * l.length < k) : calamusref03_More.f k s l = some ((s + tsum l) % 4294967296) := by
  unfold calamusref03_More.f
  rw [refsum_eq l hb hlen k hk]
  simp only [Option.bind_some]
  have h0 : 0 ≤ tsum l % 4294967296 := by omega
  have h1 : tsum l % 4294967296 < 4294967296 := by omega
  rw [IntWalk.u64_in s ⟨by omega, by omega⟩, IntWalk.u64_in (tsum l % 4294967296) ⟨by omega, by omega⟩, IntWalk.u64_in _ ⟨by omega, by omega⟩, Int.tmod_eq_emod_of_nonneg (by omega)]
  congr 1; omega
theorem refadjust_eq (s : Int) (hs : 0 ≤ s ∧ s ≤ 4294967295) : calamusref03_Adjust.f s = some ((2981146554 - s) % 4294967296) := by
  unfold calamusref03_Adjust.f
  rw [IntWalk.u64_in s ⟨by omega, by omega⟩, IntWalk.u64_in _ ⟨by omega, by omega⟩, Int.tmod_eq_emod_of_nonneg (by omega)]
  congr 1; omega
theorem copy_eq (l : List Int) (h : l.length < 140737488355328) : calamusref02_Copy.f l = some l := by
  unfold calamusref02_Copy.f; simp [h]
theorem same_refl (l : List Int) : calamusref02_Same.f l l = some true := by
  unfold calamusref02_Same.f; simp
theorem bytes_of_wf {l : List Int} (h : ∀ x ∈ l, (Lit.int .u8 x).wf = true) : isBytes l := fun x hx => by
  have := h x hx
  simp [Lit.wf, IntKind.min, IntKind.max, IntKind.bits, IntKind.signed] at this
  omega
theorem alive03 : calamuslaw03_alive.f = some true := by decide +kernel
theorem ws_append (l m : List Int) : ∀ p, ws (l ++ m) p = ws l p + ws m (p + l.length) := by
  induction l with
  | nil => intro p; simp [ws]
  | cons a r ih => intro p; simp only [List.cons_append, ws, ih, List.length_cons]; rw [show p + 1 + r.length = p + (r.length + 1) by omega]; omega
theorem ws_zeros (n : Nat) : ∀ p, ws (List.replicate n 0) p = 0 := by
  induction n with
  | zero => intro p; rfl
  | succ n ih => intro p; simp only [List.replicate_succ, ws, ih]; omega
theorem ws_add4 (l : List Int) (p n : Nat) : ws l (p + 4 * n) = ws l p := by
  induction n with
  | zero => rfl
  | succ n ih => rw [show p + 4 * (n + 1) = p + 4 * n + 4 by omega, ws_four, ih]
theorem ws_set (l : List Int) : ∀ (i p : Nat) (v : Int), i < l.length → ws (l.set i v) p = ws l p + (v - l.getD i 0) * 256 ^ (3 - (p + i) % 4) := by
  induction l with
  | nil => intro i p v h; simp at h
  | cons a r ih =>
    intro i p v h
    cases i with
    | zero => simp only [List.set_cons_zero, ws, List.getD_cons_zero, Nat.add_zero, Int.sub_mul]; omega
    | succ i =>
      simp only [List.set_cons_succ, ws, List.getD_cons_succ]
      rw [ih i (p + 1) v (by simpa using h), show p + 1 + i = p + (i + 1) by omega]
      omega
theorem tsum_eq_ws (l : List Int) : tsum l = ws l 0 := tsum_ws l.length l (Nat.le_refl _)
theorem tsum_append (l m : List Int) (h : l.length % 4 = 0) : tsum (l ++ m) = tsum l + tsum m := by
  rw [tsum_eq_ws, tsum_eq_ws l, tsum_eq_ws m, ws_append]
  obtain ⟨n, hn⟩ : ∃ n, l.length = 4 * n := ⟨l.length / 4, by omega⟩
  rw [hn, ws_add4]
theorem tsum_pads (l : List Int) (n : Nat) : tsum (l ++ List.replicate n 0) = tsum l := by
  rw [tsum_eq_ws, tsum_eq_ws l, ws_append, ws_zeros]; omega
theorem tsum_set (l : List Int) (i : Nat) (v : Int) (h : i < l.length) : tsum (l.set i v) = tsum l + (v - l.getD i 0) * 256 ^ (3 - i % 4) := by
  rw [tsum_eq_ws, tsum_eq_ws l, ws_set l i 0 v h, Nat.zero_add]
theorem isBytes_zeros (n : Nat) : isBytes (List.replicate n 0) := fun x hx => by rw [List.mem_replicate] at hx; omega
theorem isBytes_set {l : List Int} (h : isBytes l) (i : Nat) (v : Int) (hv : 0 ≤ v ∧ v ≤ 255) : isBytes (l.set i v) := fun x hx => by
  rcases List.mem_or_eq_of_mem_set hx with h' | h'
  · exact h x h'
  · omega
theorem wf_u8_out {n : Int} (h : (Lit.int .u8 n).wf = true) : 0 ≤ n ∧ n ≤ 255 := by
  simp [Lit.wf, IntKind.min, IntKind.max, IntKind.bits, IntKind.signed] at h; omega
theorem wf_u16_out {n : Int} (h : (Lit.int .u16 n).wf = true) : 0 ≤ n ∧ n ≤ 65535 := by
  simp [Lit.wf, IntKind.min, IntKind.max, IntKind.bits, IntKind.signed] at h; omega
theorem wf_u32_out {n : Int} (h : (Lit.int .u32 n).wf = true) : 0 ≤ n ∧ n ≤ 4294967295 := by
  simp [Lit.wf, IntKind.min, IntKind.max, IntKind.bits, IntKind.signed] at h; omega
theorem wf_i32_out {n : Int} (h : (Lit.int .i32 n).wf = true) : -2147483648 ≤ n ∧ n ≤ 2147483647 := by
  simp [Lit.wf, IntKind.min, IntKind.max, IntKind.bits, IntKind.signed] at h; omega
theorem wf_i64_out {n : Int} (h : (Lit.int .i64 n).wf = true) : -9223372036854775808 ≤ n ∧ n ≤ 9223372036854775807 := by
  simp [Lit.wf, IntKind.min, IntKind.max, IntKind.bits, IntKind.signed] at h; omega

end Go.Proofs.Ytcclmaicdmogjaa.P
