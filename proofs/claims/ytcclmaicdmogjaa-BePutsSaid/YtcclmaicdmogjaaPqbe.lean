import Derived.Test.YtcclmaicdmogjaaPx0
import Derived.Test.YtcclmaicdmogjaaPx14
import Derived.Test.YtcclmaicdmogjaaPx17
import Derived.Test.YtcclmaicdmogjaaPx18
import Derived.Test.YtcclmaicdmogjaaPx19
import Derived.Test.YtcclmaicdmogjaaPx20
import Derived.Test.YtcclmaicdmogjaaPx23
import Derived.Test.YtcclmaicdmogjaaPx24
import Derived.Test.YtcclmaicdmogjaaPx25
import Derived.Test.YtcclmaicdmogjaaPqgen
namespace Go.Proofs.Ytcclmaicdmogjaa.P
open Go.RowKit Go.Proofs.YtcclmaicdmogjaaW.PrintWords Go.Proofs.YtcclmaicdmogjaaW.PrintLast Go.Proofs.YtcclmaicdmogjaaW.PrintMore
set_option linter.unusedVariables false
set_option linter.unusedSimpArgs false

-- USES be_U be_S be_Put be_there calamusref02_U calamusref02_S calamusref02_There calamusref02_Put
-- NEEDS gen
theorem there_eq (l0 : List Int) (a1 a2 : Int) (hm : l0.length ≤ 9223372036854775807) (h1 : inI a1) (h2 : inI a2) : be_there.f l0 a1 a2 = some (decide (0 ≤ a1 ∧ 0 ≤ a2 ∧ a1 + a2 ≤ l0.length)) := by
  unfold inI at h1 h2
  unfold be_there.f
  by_cases c1 : a1 ≥ 0
  · rw [if_pos c1]
    by_cases c2 : a2 ≥ 0
    · rw [if_pos c2]
      by_cases c3 : a1 ≤ (l0.length : Int)
      · rw [if_pos c3, IntWalk.wrap64_in _ ⟨by omega, by omega⟩]
        congr 1
        rw [decide_eq_decide]; omega
      · rw [if_neg c3]; simp; omega
    · rw [if_neg c2]; simp; omega
  · rw [if_neg c1]; simp; omega
theorem refthere_eq (l0 : List Int) (a1 a2 : Int) (hm : l0.length ≤ 9223372036854775807) (h1 : inI a1) (h2 : inI a2) : calamusref02_There.f l0 a1 a2 = some (decide (0 ≤ a1 ∧ 0 ≤ a2 ∧ a1 + a2 ≤ l0.length)) := there_eq l0 a1 a2 hm h1 h2
theorem rd_nat (l : List Int) (i : Nat) : rd l (i : Int) = l.getD i 0 := rfl
theorem getD_drop (l : List Int) (a j : Nat) : (l.drop a).getD j 0 = l.getD (a + j) 0 := by simp [List.getD_eq_getElem?_getD, List.getElem?_drop]
theorem refU_loop (l : List Int) (hb : isBytes l) (hm : l.length ≤ 4611686018427387904) (a w : Nat) (hw : w ≤ 4) (hf : a + w ≤ l.length) (d : Nat) : ∀ (j k : Nat), j + d = w → d < k →
    calamusref02_U.l0 k l (a : Int) (w : Int) (pre (l.drop a) j) (((a + j : Nat)) : Int) = some (pre (l.drop a) w, 0) := by
  induction d with
  | zero =>
    intro j k hj hk
    obtain ⟨k, rfl⟩ : ∃ m, k = m + 1 := ⟨k - 1, by omega⟩
    obtain rfl : j = w := by omega
    simp only [calamusref02_U.l0]
    rw [IntWalk.wrap64_in _ ⟨by omega, by omega⟩, if_neg (by omega)]
  | succ d ih =>
    intro j k hj hk
    obtain ⟨k, rfl⟩ : ∃ m, k = m + 1 := ⟨k - 1, by omega⟩
    simp only [calamusref02_U.l0]
    have hp := pre_bd (l.drop a) (hb.drop a) j (by rw [List.length_drop]; omega)
    have h256 : (256 : Int) ^ j ≤ 256 ^ 3 := by
      have : j = 0 ∨ j = 1 ∨ j = 2 ∨ j = 3 := by omega
      rcases this with rfl | rfl | rfl | rfl <;> decide
    have hg := hb.get (a + j)
    rw [IntWalk.wrap64_in ((a : Int) + w) ⟨by omega, by omega⟩, if_pos (by omega), if_pos (by omega), if_pos (by omega), rd_nat]
    rw [IntWalk.wrap64_in (256 * _) ⟨by omega, by omega⟩, IntWalk.wrap64_in (l.getD (a + j) 0) ⟨by omega, by omega⟩, IntWalk.wrap64_in _ ⟨by omega, by omega⟩, IntWalk.wrap64_in _ ⟨by omega, by omega⟩]
    have := ih (j + 1) k (by omega) (by omega)
    rw [← this, pre_succ _ _ (by rw [List.length_drop]; omega), getD_drop, show ((a + (j + 1) : Nat) : Int) = ((a + j : Nat) : Int) + 1 by omega, Int.mul_comm 256]
theorem refU_eq (l : List Int) (hb : isBytes l) (hm : l.length ≤ 4611686018427387904) (a1 a2 : Int) (h1 : inI a1) (h2 : inI a2) (k : Nat) (hk : 8 ≤ k) : calamusref02_U.f k l a1 a2 = be_U.f l a1 a2 := by
  unfold be_U.f calamusref02_U.f
  rw [if_pos (show isBytes l ∧ inI a1 ∧ inI a2 from ⟨hb, h1, h2⟩)]
  obtain ⟨k, rfl⟩ : ∃ m, k = m + 1 := ⟨k - 1, by omega⟩
  simp only [calamusref02_U.j0]
  by_cases c1 : a2 < 1
  · rw [if_pos c1, if_pos (show a2 < 1 ∨ a2 > 4 from .inl c1)]; rfl
  · rw [if_neg c1]
    by_cases c2 : a2 > 4
    · rw [if_pos (show decide (a2 > 4) = true by simpa using c2), if_pos (show a2 < 1 ∨ a2 > 4 from .inr c2)]
    · rw [if_neg (show ¬ decide (a2 > 4) = true by simpa using c2), if_neg (show ¬ (a2 < 1 ∨ a2 > 4) by omega), refthere_eq l a1 a2 (by omega) h1 h2]
      simp only [Option.bind_some]
      by_cases c3 : 0 ≤ a1 ∧ a1 + a2 ≤ l.length
      · rw [if_pos (decide_eq_true (show 0 ≤ a1 ∧ 0 ≤ a2 ∧ a1 + a2 ≤ (l.length : Int) by omega)), if_pos c3]
        obtain ⟨a, rfl⟩ := Int.eq_ofNat_of_zero_le c3.1
        obtain ⟨w, rfl⟩ := Int.eq_ofNat_of_zero_le (show 0 ≤ a2 by omega)
        have := refU_loop l hb hm a w (by omega) (by omega) w 0 k (by omega) (by omega)
        rw [pre_zero, Nat.add_zero] at this
        exact this
      · rw [if_neg (show ¬ decide (0 ≤ a1 ∧ 0 ≤ a2 ∧ a1 + a2 ≤ (l.length : Int)) = true by simp; omega), if_neg c3]
/-- A number of w bytes, with its sign. -/
def sgnB (n : Int) (w : Nat) : Int := if 2 * n ≥ 256 ^ w then n - 256 ^ w else n
theorem shifts_eq (n w : Int) (hw : w = 1 ∨ w = 2 ∨ w = 3 ∨ w = 4) (h0 : 0 ≤ n) (h1 : n < 256 ^ w.toNat) : shr .i64 (shl .i64 n (wrap64 (64 - (wrap64 (8 * w))))) (wrap64 (64 - (wrap64 (8 * w)))) = sgnB n w.toNat := by
  have hW : ∀ x : Int, -100 ≤ x → x ≤ 100 → wrap64 x = x := fun x h1 h2 => IntWalk.wrap64_in x ⟨by omega, by omega⟩
  rcases hw with rfl | rfl | rfl | rfl <;> (rw [hW (8 * _) (by omega) (by omega), hW (64 - 8 * _) (by omega) (by omega)]; unfold shr shl sgnB; rw [IntKind.wrap_i64]; simp [IntKind.bits] at *; (repeat' split) <;> omega)
theorem beU_eq (l : List Int) (hb : isBytes l) (a1 a2 : Int) (h1 : inI a1) (h2 : inI a2) : be_U.f l a1 a2 = (if a2 < 1 ∨ a2 > 4 then some (0, 2) else if 0 ≤ a1 ∧ a1 + a2 ≤ l.length then some (pre (l.drop a1.toNat) a2.toNat, 0) else some (0, 3)) := by
  unfold be_U.f; rw [if_pos (show isBytes l ∧ inI a1 ∧ inI a2 from ⟨hb, h1, h2⟩)]
theorem pre_range (l : List Int) (hb : isBytes l) (a w : Int) (h0 : 0 ≤ a) (hw : 1 ≤ w) (hf : a + w ≤ l.length) : 0 ≤ pre (l.drop a.toNat) w.toNat ∧ pre (l.drop a.toNat) w.toNat < 256 ^ w.toNat :=
  pre_bd _ (hb.drop _) _ (by rw [List.length_drop]; omega)
theorem beS_eq (l : List Int) (hb : isBytes l) (a1 a2 : Int) (h1 : inI a1) (h2 : inI a2) : be_S.f l a1 a2 = (if a2 < 1 ∨ a2 > 4 then some (0, 2) else if 0 ≤ a1 ∧ a1 + a2 ≤ l.length then some (sgnB (pre (l.drop a1.toNat) a2.toNat) a2.toNat, 0) else some (0, 3)) := by
  unfold be_S.f
  rw [beU_eq l hb a1 a2 h1 h2]
  by_cases c1 : a2 < 1 ∨ a2 > 4
  · rw [if_pos c1, if_pos c1]; simp
  · rw [if_neg c1, if_neg c1]
    by_cases c2 : 0 ≤ a1 ∧ a1 + a2 ≤ l.length
    · rw [if_pos c2, if_pos c2]
      have hp := pre_range l hb a1 a2 c2.1 (by omega) c2.2
      have hw : a2 = 1 ∨ a2 = 2 ∨ a2 = 3 ∨ a2 = 4 := by omega
      simp only [Option.bind_some, if_true]
      rw [shifts_eq _ a2 hw hp.1 hp.2, IntWalk.wrap64_in (8 * a2) ⟨by omega, by omega⟩, IntWalk.wrap64_in _ ⟨by omega, by omega⟩, if_pos (by omega)]
    · rw [if_neg c2, if_neg c2]; simp
theorem refS_loop (w : Nat) (n : Int) (hw : w ≤ 4) (h0 : 0 ≤ n) (h1 : n < 256 ^ w) (d : Nat) : ∀ (i k : Nat), i + d = w → d < k → calamusref02_S.l0 k (w : Int) n (256 ^ i) (i : Int) = some (sgnB n w, 0) := by
  have hb4 : ∀ i : Nat, i ≤ 4 → (256 : Int) ^ i ≤ 4294967296 ∧ (1 : Int) ≤ 256 ^ i := by
    intro i hi
    have : i = 0 ∨ i = 1 ∨ i = 2 ∨ i = 3 ∨ i = 4 := by omega
    rcases this with rfl | rfl | rfl | rfl | rfl <;> decide
  induction d with
  | zero =>
    intro i k hi hk
    obtain ⟨k, rfl⟩ : ∃ m, k = m + 1 := ⟨k - 1, by omega⟩
    obtain rfl : i = w := by omega
    have := hb4 i hw
    simp only [calamusref02_S.l0]
    rw [if_neg (by omega), IntWalk.wrap64_in (2 * n) ⟨by omega, by omega⟩, IntWalk.wrap64_in (n - _) ⟨by omega, by omega⟩]
    unfold sgnB
    split <;> rfl
  | succ d ih =>
    intro i k hi hk
    obtain ⟨k, rfl⟩ : ∃ m, k = m + 1 := ⟨k - 1, by omega⟩
    have := hb4 i (by omega)
    simp only [calamusref02_S.l0]
    rw [if_pos (by omega), IntWalk.wrap64_in (_ * 256) ⟨by omega, by omega⟩, IntWalk.wrap64_in _ ⟨by omega, by omega⟩]
    exact ih (i + 1) k (by omega) (by omega)
theorem refS_eq (l : List Int) (hb : isBytes l) (hm : l.length ≤ 4611686018427387904) (a1 a2 : Int) (h1 : inI a1) (h2 : inI a2) (k : Nat) (hk : 8 ≤ k) : calamusref02_S.f k l a1 a2 = be_S.f l a1 a2 := by
  unfold calamusref02_S.f
  rw [refU_eq l hb hm a1 a2 h1 h2 k hk, beU_eq l hb a1 a2 h1 h2, beS_eq l hb a1 a2 h1 h2]
  by_cases c1 : a2 < 1 ∨ a2 > 4
  · rw [if_pos c1, if_pos c1]; simp
  · rw [if_neg c1, if_neg c1]
    by_cases c2 : 0 ≤ a1 ∧ a1 + a2 ≤ l.length
    · rw [if_pos c2, if_pos c2]
      have hp := pre_range l hb a1 a2 c2.1 (by omega) c2.2
      obtain ⟨w, rfl⟩ := Int.eq_ofNat_of_zero_le (show 0 ≤ a2 by omega)
      simp only [Option.bind_some, if_true]
      exact refS_loop w _ (by omega) hp.1 hp.2 w 0 k (by omega) (by omega)
    · rw [if_neg c2, if_neg c2]; simp
theorem widthB_mx (a : Int) : mx 0 (mn a 8) = (widthB a : Int) ∧ widthB a ≤ 8 := by
  unfold mx mn widthB
  (repeat' split) <;> omega
theorem bePut_eq (n a : Int) (h : inI n) (h2 : inI a) : be_Put.f n a = some (putB n (widthB a)) := by
  unfold be_Put.f; rw [if_pos (show inI n ∧ inI a from ⟨h, h2⟩)]
theorem emod_pow (n : Int) (k : Nat) : (n % 18446744073709551616) / 256 ^ k % 256 = n / 256 ^ k % 256 ∨ 8 ≤ k := by
  have : k = 0 ∨ k = 1 ∨ k = 2 ∨ k = 3 ∨ k = 4 ∨ k = 5 ∨ k = 6 ∨ k = 7 ∨ 8 ≤ k := by omega
  rcases this with rfl | rfl | rfl | rfl | rfl | rfl | rfl | rfl | h
  all_goals first | exact .inr h | (refine .inl ?_; simp; try omega)
theorem refPut_loop (n : Int) (W : Nat) (hW : W ≤ 8) (d : Nat) : ∀ (k m : Nat), d + m = W → d < k →
    calamusref02_Put.l0 k (List.replicate d 0 ++ putB n m) (n % 18446744073709551616 / 256 ^ m) ((d : Int) - 1) = some (putB n W) := by
  induction d with
  | zero =>
    intro k m hm hk
    obtain ⟨k, rfl⟩ : ∃ j, k = j + 1 := ⟨k - 1, by omega⟩
    obtain rfl : m = W := by omega
    simp only [calamusref02_Put.l0]
    rw [if_neg (by omega)]
    simp
  | succ d ih =>
    intro k m hm hk
    obtain ⟨k, rfl⟩ : ∃ j, k = j + 1 := ⟨k - 1, by omega⟩
    have hx0 : 0 ≤ n % 18446744073709551616 / 256 ^ m := Int.ediv_nonneg (by omega) (Int.pow_nonneg (by decide))
    have hx1 : n % 18446744073709551616 / 256 ^ m ≤ n % 18446744073709551616 := Int.ediv_le_self _ (by omega)
    simp only [calamusref02_Put.l0]
    rw [if_pos (by omega), if_pos (by omega), if_pos (by simp [putB_length]; omega), Int.tmod_eq_emod_of_nonneg hx0, Int.tdiv_eq_ediv_of_nonneg hx0, IntWalk.u64_in _ ⟨by omega, by omega⟩, IntWalk.wrap64_in _ ⟨by omega, by omega⟩]
    have e1 : n % 18446744073709551616 / 256 ^ m / 256 = n % 18446744073709551616 / 256 ^ (m + 1) := by rw [Int.pow_succ, Int.ediv_ediv_of_nonneg (Int.pow_nonneg (by decide))]
    have e2 : n % 18446744073709551616 / 256 ^ m % 256 % 256 = n / 256 ^ m % 256 := by
      rcases emod_pow n m with h | h
      · omega
      · omega
    have e3 := put_step n (d + 1 + m) m (by omega)
    rw [show d + 1 + m - m = d + 1 by omega, show d + 1 + m - 1 - m = d by omega, show d + 1 + m - (m + 1) = d by omega] at e3
    rw [e1, e2, show (((d + 1 : Nat) : Int) - 1).toNat = d by omega, e3, show ((d + 1 : Nat) : Int) - 1 - 1 = (d : Int) - 1 by omega]
    exact ih k (m + 1) (by omega) (by omega)
theorem refPut_eq (n a : Int) (h : inI n) (k : Nat) (hk : 9 ≤ k) : calamusref02_Put.f k n a = some (putB n (widthB a)) := by
  obtain ⟨h1, h2⟩ := widthB_mx a
  unfold calamusref02_Put.f
  rw [h1, if_pos (by omega), if_pos (by omega)]
  have := refPut_loop n (widthB a) h2 (widthB a) k 0 (by omega) (by omega)
  rw [show IntKind.u64.wrap n = n % 18446744073709551616 by simp [IntKind.wrap, IntKind.bits, IntKind.signed]]
  simpa [putB] using this

end Go.Proofs.Ytcclmaicdmogjaa.P
